/- Walks: a mixed text: nothing. -/
import Derived.Test.YtdejhenkdbjakaaDoorYF
set_option linter.unusedVariables false
set_option linter.unusedSimpArgs false
namespace Go.Proofs.YtdejhenkdbjakaaDoor
open Go Go.RowKit
/-- Nothing behind nothing. -/
theorem run_app00' {P : Program} {w : World} {t ty e : TypeId} {size bytes : Nat} (ht : P.underlying t = some (.slice e)) (hi0 : infoB P e size bytes = true) {x : Value} {news : List Value} (hx : RdS w x 0 news) :
    (Builtin.append_ #[t, t] ty #[.slice none 0 0, x]).run P w = .ok (.slice none 0 0) w := by
  obtain ⟨i, z, hi, hz, hs, hb, hzs, hsz⟩ := infoB_spec hi0
  rcases hx with ⟨rfl, _, rfl⟩ | ⟨ad, c, rfl, hmc, hnews⟩
  · exact run_append_owned_none (P := P) w 0 t ty e i size ht hi _ 0 [] (World.ownsRow_nil _ _ _ _)
  · obtain ⟨v', w', hr, h2, h3, h4⟩ := run_append_own (P := P) (ty := ty) w 0 t e i z size bytes ht hi hz hs hb hzs hsz (.slice none 0 0) 0 [] (World.ownsRow_nil _ _ _ _) ad 0 c [] (by simp) (by simp) (by simp) (by simp) (by simp) (Nat.zero_le _)
    simp [Builtin.append_, run_underlying ht, sizeOf, typeInfo, hi, Builtin.lenOf, Builtin.firstCells, hs, loadCells, loadCellsFrom]

theorem addr_add0 (ad : Option Addr) : ad.map (fun x => x.add (0 * 1)) = ad := by
  cases ad with
  | none => rfl
  | some x =>
    obtain ⟨b, o, s⟩ := x
    simp only [Option.map_some, Option.some.injEq]
    unfold Addr.add
    split <;> simp_all
theorem slice00 {ad : Option Addr} {cap : Nat} : (Value.slice (if cap = 0 then ad else ad.map (·.add (0 * 1))) (0 - 0) (cap - 0)) = .slice ad 0 cap := by
  have h := addr_add0 ad
  split
  · rfl
  · rw [h]; rfl

set_option maxRecDepth 100000 in
set_option maxHeartbeats 4000000 in
theorem xor0_any (ad bd : Option Addr) (cp bc : Nat) (w : World) : Calls Tryd.prog 88 #[.slice ad 0 cp, .slice bd 64 bc] w (MadeS [] 5 1 0 (oct []) w) := by
  refine C_enter Tryd.func88 rfl 32 Tryd.ntmps88 (Nat.le_of_ble_eq_true rfl) (fun a F => ?_)
  have H := Hp.start [] w
  replace F : Fm 32 [] [(0, .slice ad 0 cp), (1, .slice bd 64 bc)] a := F.weak _ (subL_of kr)
  refine C_seqK (fun K1 hK1 => ?_)
  refine C_region ?_
  refine T_k F H (.slice none 0 0) ?_
  clear F; intro a F
  refine wpList_nil ?_
  refine hK1 _ _ ?_
  clear hK1
  try clear K1
  refine C_seqK (fun K2 hK2 => ?_)
  refine C_region ?_
  refine T_k F H (.slice ad 0 cp) ?_
  clear F; intro a F
  refine T_k F H (ni 0) ?_
  clear F; intro a F
  refine T_k F H (.slice bd 64 bc) ?_
  clear F; intro a F
  refine T_k F H (ni 64) ?_
  clear F; intro a F
  refine T_k F H (ni 0) ?_
  clear F; intro a F
  refine T_new F H kr (fun ad => sc ad 0 (0) (0)) (ce (sl (ints .u8 (List.replicate (0) 0)) []) 5) (fun w => R_makeI (x := (.tmp 11)) (y := (.tmp 11)) rfl Tryd.underlying54 (m := 0) (k := .i64) (k' := .i64) kr kr .u8 (bytes := 1) kr kr (by omega) (by simp only [maxLen]; omega) w) ?_
  clear F H; intro aq3 a v F H
  refine T_k F H (sc aq3 0 0 0) ?_
  clear F; intro a F
  refine wpList_nil ?_
  refine hK2 _ _ ?_
  clear hK2
  try clear K2
  refine C_seqK (fun K4 hK4 => ?_)
  refine C_seqK (fun K5 hK5 => ?_)
  refine C_region ?_
  refine T_k F H (sc aq3 0 0 0) ?_
  clear F; intro a F
  refine T_k F H (ni 0) ?_
  clear F; intro a F
  refine T_k F H (ni 0) ?_
  clear F; intro a F
  refine wpList_nil ?_
  refine hK5 _ _ ?_
  clear hK5
  try clear K5
  replace F : Fm 32 [] [(15, ni 0), (14, ni 0), (5, sc aq3 0 0 0)] a := F.weak _ (subL_of kr)
  refine wp_block ?_
  refine C_loop (fun m a v => Fm 32 [] [(15, ni 0), (14, ni 0), (5, sc aq3 0 0 0)] a ∧ Hp [] w [bk aq3 (sl (ints .u8 (List.replicate (0) 0)) []) 5] v) 0 ⟨F, H⟩ ?_
  clear F H
  intro m a v ⟨F, H⟩
  refine C_seqK (fun K6 hK6 => ?_)
  refine C_region ?_
  refine T_k F H (.bool false) ?_
  clear F; intro a F
  refine wpList_nil ?_
  refine hK6 _ _ ?_
  clear hK6
  try clear K6
  refine C_seqK (fun K7 hK7 => ?_)
  refine C_if F false rfl rfl ?_
  refine wp_exit ?_
  refine hK4 _ _ ?_
  clear hK4
  try clear K4
  refine C_seqK (fun K8 hK8 => ?_)
  refine C_region ?_
  refine T_k F H (sc aq3 0 0 0) ?_
  clear F; intro a F
  refine T_k F H (sc aq3 0 0 0) ?_
  clear F; intro a F
  refine wpList_nil ?_
  refine hK8 _ _ ?_
  clear hK8
  try clear K8
  refine wp_ret ?_
  exact C_ret F H (rs := [.tmp 4]) rfl (vs := [sc aq3 0 0 0]) (.tmp rfl .nil) (sc aq3 0 0 0) rfl (made_ret H (k := 0) rfl (own_all (by rfl) (by simp only [maxLen]; omega)))

set_option maxRecDepth 100000 in
set_option maxHeartbeats 4000000 in
theorem mx_none (key : Nat → Nat) (hkey : ∀ i, key i < 256) (nc : Nat → Nat) (hnc : ∀ i, nc i < 256) (ad : Option Addr) (cp : Nat) (X : List Nat) (w0 : World) (m ob tb kb cb nbk fn D lp : Nat) (a : Act) (F : Fm 34 [] [(10, .pointer (some ⟨ob, 0, none⟩)), (7, .pointer (some ⟨tb, 0, none⟩))] a) (tm : Array Value) (w : World) (H : Hp X w0 [⟨true, lp, mxRec fn tm D .ready none⟩, ⟨true, D, .deferred (some [])⟩, ⟨true, ob, .cells #[.slice none 0 0] 54 (0, 0)⟩, ⟨true, tb, .cells #[.slice ad 0 cp] 54 (0, 0)⟩, ⟨true, kb, .cells (arrF .u8 32 key) 23 (0, 0)⟩, ⟨true, cb, .cells #[.int .u32 ((0 : Nat) : Int)] 53 (0, 0)⟩, ⟨true, nbk, .cells (arrF .u8 12 nc) 121 (0, 0)⟩] w) : RoundIn Fence.wide m Tryd.prog lp fn (a.tmps.setIfInBounds 19 (.agg (arrF .u8 64 (ccF key 0 nc)))) mxAs mxBd w fun e w' => ∃ b, e = .returned (.bool b) ∧ (b = false ∧ Hp X w0 [⟨true, lp, mxRec fn tm D .done (some (.exit 0))⟩, ⟨true, D, .deferred (some [])⟩, ⟨true, ob, .cells #[.slice none 0 0] 54 (0, 0)⟩] w') := by
  refine roundIn_of_wpIn trivial ?_
  replace F := F.round (t := 19) kr (.agg (arrF .u8 64 (ccF key 0 nc)))
  replace H : Hp X w0 [⟨true, lp, mxRec fn tm D .ready none⟩, ⟨true, D, .deferred (some [])⟩, bk ob #[.slice none 0 0] 54, bk tb #[.slice ad 0 cp] 54, bk kb (arrF .u8 32 key) 23, bk cb #[nw 0] 53, bk nbk (arrF .u8 12 nc) 121] w := H
  refine CI_region ?_
  refine T_new F H kr (fun ad => pt ad 0) (ce #[.int .u8 0, .int .u8 0, .int .u8 0, .int .u8 0, .int .u8 0, .int .u8 0, .int .u8 0, .int .u8 0, .int .u8 0, .int .u8 0, .int .u8 0, .int .u8 0, .int .u8 0, .int .u8 0, .int .u8 0, .int .u8 0, .int .u8 0, .int .u8 0, .int .u8 0, .int .u8 0, .int .u8 0, .int .u8 0, .int .u8 0, .int .u8 0, .int .u8 0, .int .u8 0, .int .u8 0, .int .u8 0, .int .u8 0, .int .u8 0, .int .u8 0, .int .u8 0, .int .u8 0, .int .u8 0, .int .u8 0, .int .u8 0, .int .u8 0, .int .u8 0, .int .u8 0, .int .u8 0, .int .u8 0, .int .u8 0, .int .u8 0, .int .u8 0, .int .u8 0, .int .u8 0, .int .u8 0, .int .u8 0, .int .u8 0, .int .u8 0, .int .u8 0, .int .u8 0, .int .u8 0, .int .u8 0, .int .u8 0, .int .u8 0, .int .u8 0, .int .u8 0, .int .u8 0, .int .u8 0, .int .u8 0, .int .u8 0, .int .u8 0, .int .u8 0] 140) (fun w => kr) ?_
  clear F H; intro aq1 a v F H
  refine T_set F H kr rfl 0 rfl (arrF .u8 64 (ccF key 0 nc)) (S_row 0 rfl 140 (.tmp 11) (.tmp 19) rfl kr (arrF .u8 64 (ccF key 0 nc)) kr (by rw [arrF_size]; kernel_rfl) (by rw [arrF_size]; kernel_rfl) (arrF_one _ _ _)) [bk aq1 (arrF .u8 64 (ccF key 0 nc)) 140, ⟨true, lp, mxRec fn tm D .ready none⟩, ⟨true, D, .deferred (some [])⟩, bk ob #[.slice none 0 0] 54, bk tb #[.slice ad 0 cp] 54, bk kb (arrF .u8 32 key) 23, bk cb #[nw 0] 53, bk nbk (arrF .u8 12 nc) 121] rfl ?_
  clear F H; intro a v F H
  refine wpList_nil ?_
  refine round_begin H (k := 1) rfl rfl (fun v H => ?_)
  replace H : Hp X w0 [bk aq1 (arrF .u8 64 (ccF key 0 nc)) 140, ⟨true, lp, mxRec fn tm D .busy none⟩, ⟨true, D, .deferred (some [])⟩, bk ob #[.slice none 0 0] 54, bk tb #[.slice ad 0 cp] 54, bk kb (arrF .u8 32 key) 23, bk cb #[nw 0] 53, bk nbk (arrF .u8 12 nc) 121] v := H
  replace F : Fm 34 [] [(11, pt aq1 0), (10, pt ob 0), (7, pt tb 0)] a := F.weak _ (subL_of kr)
  refine wpIn_block ?_
  refine CI_seqK (fun K1 hK1 => ?_)
  refine EI_region F H (fun β => [(20, .slice none 0 0), (21, .slice ad 0 cp), (22, .slice none 0 0), (23, ni 0), (24, .slice ad 0 cp), (25, sc aq1 0 64 64), (26, sc ((β 6).g) 0 0 (β 6).cap), (27, .slice none 0 0)]) [20, 21, 22, 23, 24, 25, 26, 27] [⟨some 6, none, 0, [6], fun q_ => ce (sl (oct ([])) (gh q_ 0).rest) 5, fun q_ => Own (oct []) (gh q_ 0).rest (0) (gh q_ 0).cap 1, []⟩,
    ⟨none, none, ob, [], fun q_ => ce #[.slice none 0 0] 54, gT, [⟨8, [], fun q_ => ce #[.slice none 0 0] 54, gT⟩]⟩] [bk aq1 (arrF .u8 64 (ccF key 0 nc)) 140, ⟨true, lp, mxRec fn tm D .busy none⟩, ⟨true, D, .deferred (some [])⟩, bk tb #[.slice ad 0 cp] 54, bk kb (arrF .u8 32 key) 23, bk cb #[nw 0] 53, bk nbk (arrF .u8 12 nc) 121] [3, 0, 1, 2, 4, 5, 6, 7] 2 [] kr kr kr (fun β => rfl) ⟨fun h _ => Bool.noConfusion h, ⟨fun _ _ => trivial, trivial⟩⟩ ⟨?_, ?_, ?_, ?_, ?_, ?_, ?_, ?_, ?_, trivial⟩ ?_
  · exact E_v 34 (fun β => .slice none 0 0) 20 2 [(1, 0)] (fun β w hk hl hq => R_cellH hl (own := true) (g := ob) (all := #[.slice none 0 0]) (t := 54) (fr := (0, 0)) 0 kr 54 (.tmp 10) rfl 0 kr (.slice none 0 0) kr _ Tryd.underlying54 rfl)
  · exact E_v 34 (fun β => .slice ad 0 cp) 21 2 [] (fun β w hk hl hq => R_cellH hl (own := true) (g := tb) (all := #[.slice ad 0 cp]) (t := 54) (fr := (0, 0)) 3 kr 54 (.tmp 7) rfl 0 kr (.slice ad 0 cp) kr _ Tryd.underlying54 rfl)
  · exact E_v 34 (fun β => .slice none 0 0) 22 2 [(1, 0)] (fun β w hk hl hq => R_cellH hl (own := true) (g := ob) (all := #[.slice none 0 0]) (t := 54) (fr := (0, 0)) 0 kr 54 (.tmp 10) rfl 0 kr (.slice none 0 0) kr _ Tryd.underlying54 rfl)
  · exact E_k 34 (fun β => ni 0) 23 2
  · exact E_v 34 (fun β => .slice ad 0 cp) 24 2 [] (fun β w hk hl hq => R_slice (x := (.tmp 21)) (lo := (some (.tmp 23))) (hi := none) rfl Tryd.underlying54 (ad := ad) (len := 0) (cap := cp) kr (0) (0) ⟨.i64, kr⟩ rfl (by omega) (Nat.zero_le _) (sz := 1) kr _ slice00 w)
  · exact E_k 34 (fun β => sc aq1 0 64 64) 25 2
  · exact E_callS 34 kq (fun β => sc ((β 6).g) 0 0 (β 6).cap) 26 rfl kq 2 (fun β r => offAt2_of kr kr) 88 (fun β => #[.slice ad 0 cp, sc aq1 0 64 64]) (fun β w => kr) 2 [] 0 _ rfl kr kr rfl (fun β w hk hl hq => xor0_any ad _ cp _ _)
  · exact E_v 34 (fun β => .slice none 0 0) 27 2 [(0, 0)] (fun β w hk hl hq => exec_append (s := (.tmp 20)) (x := (.tmp 26)) rfl kr rfl (run_app00' (size := 1) (bytes := 1) (e := 5) Tryd.underlying54 kr (x := sc ((β 6).g) 0 0 (β 6).cap) (news := oct []) (RdS.all (hl.at_ (k := 0) rfl) (Nat.zero_le _))))
  · exact E_store 34 kq rfl 2 [] 1 0 _ _ rfl rfl kr rfl (fun _ => trivial) (fun β w hk hl hq hm => let ⟨w', h1, h2, h3⟩ := P_cell (off := 0) (old := #[.slice none 0 0]) (v := .slice none 0 0) (Z := ce #[.slice none 0 0] 54) (R := ce #[.slice none 0 0] 54) rfl rfl (ty := 54) (x := (.tmp 10)) (y := (.tmp 27)) rfl kr kr rfl (Nat.le_of_ble_eq_true rfl) Tryd.underlying54 rfl kr hm; ⟨w', h1, h2, h3⟩)
  clear F H; intro β a v Q F H
  replace H : Hp X w0 [bk ((β 6).g) (sl (oct ([])) (β 6).rest) 5, bk ob #[.slice none 0 0] 54, bk aq1 (arrF .u8 64 (ccF key 0 nc)) 140, ⟨true, lp, mxRec fn tm D .busy none⟩, ⟨true, D, .deferred (some [])⟩, bk tb #[.slice ad 0 cp] 54, bk kb (arrF .u8 32 key) 23, bk cb #[nw 0] 53, bk nbk (arrF .u8 12 nc) 121] v := H
  replace F : Fm 34 [] [(27, .slice none 0 0), (26, sc ((β 6).g) 0 0 (β 6).cap), (25, sc aq1 0 64 64), (24, .slice ad 0 cp), (23, ni 0), (22, .slice none 0 0), (21, .slice ad 0 cp), (20, .slice none 0 0), (11, pt aq1 0), (10, pt ob 0), (7, pt tb 0)] a := F.weak _ (subL_of kr)
  have Qh2_0 : Own (oct []) (β 6).rest (0) (β 6).cap 1 := Q.1
  clear Q
  generalize β 6 = rq2 at F H Qh2_0
  skip
  refine ?_
  replace F : Fm 34 [] [(10, pt ob 0), (7, pt tb 0)] a := F.weak _ (subL_of kr)
  replace H : Hp X w0 [⟨true, lp, mxRec fn tm D .busy none⟩, ⟨true, D, .deferred (some [])⟩, bk ob #[.slice none 0 0] 54, bk tb #[.slice ad 0 cp] 54] v := H.pick [3, 4, 1, 5] kr _ rfl
  refine hK1 _ _ ?_
  clear hK1
  try clear K1
  refine CI_seqK (fun K2 hK2 => ?_)
  refine CI_region ?_
  refine T_val F H kr (.slice none 0 0) (R_cell (own := true) (g := ob) (all := #[.slice none 0 0]) (t := 54) (fr := (0, 0)) 2 kr 54 (.tmp 10) rfl 0 kr (.slice none 0 0) kr _ Tryd.underlying54 rfl) ?_
  clear F; intro a F
  refine T_k F H (ni 0) ?_
  clear F; intro a F
  refine T_val F H kr (.slice ad 0 cp) (R_cell (own := true) (g := tb) (all := #[.slice ad 0 cp]) (t := 54) (fr := (0, 0)) 3 kr 54 (.tmp 7) rfl 0 kr (.slice ad 0 cp) kr _ Tryd.underlying54 rfl) ?_
  clear F; intro a F
  refine T_k F H (ni 0) ?_
  clear F; intro a F
  refine T_k F H (.bool true) ?_
  clear F; intro a F
  refine wpList_nil ?_
  refine hK2 _ _ ?_
  clear hK2
  try clear K2
  refine CI_if F true rfl rfl ?_
  refine wpIn_exit ?_
  refine inBx rfl ?_
  refine round_out H (k := 0) rfl (fun v H => ?_)
  exact ⟨false, rfl, rfl, H.pick [0, 1, 2] kr _ rfl⟩

set_option maxRecDepth 100000 in
set_option maxHeartbeats 4000000 in
theorem mx_iter0 (key : Nat → Nat) (hkey : ∀ i, key i < 256) (nc : Nat → Nat) (hnc : ∀ i, nc i < 256) (ad : Option Addr) (cp : Nat) (w0 : World) (hW : LaidS w0) (ob tb kb cb nbk fn D lp : Nat) (aM : Act) (FM : Fm 34 [] [(10, .pointer (some ⟨ob, 0, none⟩)), (7, .pointer (some ⟨tb, 0, none⟩))] aM) (w : World) (H : Hp [] w0 [⟨true, lp, mxRec fn aM.tmps D .ready none⟩, ⟨true, D, .deferred (some [])⟩, ⟨true, ob, .cells #[.slice none 0 0] 54 (0, 0)⟩, ⟨true, tb, .cells #[.slice ad 0 cp] 54 (0, 0)⟩, ⟨true, kb, .cells (arrF .u8 32 key) 23 (0, 0)⟩, ⟨true, cb, .cells #[.int .u32 ((0 : Nat) : Int)] 53 (0, 0)⟩, ⟨true, nbk, .cells (arrF .u8 12 nc) 121 (0, 0)⟩] w) : Calls Tryd.prog 122 (#[.func (.yield lp) #[] #[]] ++ #[.pointer (some ⟨kb, 0, none⟩), .pointer (some ⟨cb, 0, none⟩), .pointer (some ⟨nbk, 0, none⟩)]) w fun e w' => ∃ (u : Value) (r : SlR), e = .returned u ∧ True ∧ Hp [] w0 [⟨true, lp, mxRec fn aM.tmps D .done (some (.exit 0))⟩, ⟨true, D, .deferred (some [])⟩, ⟨true, ob, .cells #[.slice none 0 0] 54 (0, 0)⟩] w' := by
  refine C_enter Tryd.func122 rfl 13 Tryd.ntmps122 (Nat.le_of_ble_eq_true rfl) (fun a F => ?_)
  replace F : Fm 13 [] [(0, .func (.yield lp) #[] #[]), (1, pt kb 0), (2, pt cb 0), (3, pt nbk 0)] a := F.weak _ (subL_of kr)
  refine wp_block ?_
  refine C_loop (fun m a v => Fm 13 [] [(0, .func (.yield lp) #[] #[]), (1, pt kb 0), (2, pt cb 0), (3, pt nbk 0)] a ∧ Hp [] w0 [⟨true, lp, mxRec fn aM.tmps D .ready none⟩, ⟨true, D, .deferred (some [])⟩, bk ob #[.slice none 0 0] 54, bk tb #[.slice ad 0 cp] 54, bk kb (arrF .u8 32 key) 23, bk cb #[nw 0] 53, bk nbk (arrF .u8 12 nc) 121] v) 0 ⟨F, H⟩ ?_
  clear F H
  intro m a v ⟨F, H⟩
  refine C_seqK (fun K1 hK1 => ?_)
  refine C_seqK (fun K2 hK2 => ?_)
  refine C_regionYj 5 ?_ ?_ ?_
  rotate_left 2
  · exact kr
  · rintro ⟨_, _, _, _, h, _⟩; cases h
  refine T_k F H (.func (.yield lp) #[] #[]) ?_
  clear F; intro a F
  refine T_val F H kr (kyV key) (R_load (own := true) (g := kb) (all := (arrF .u8 32 key)) (t := 23) (fr := (0, 0)) 4 kr 23 (.tmp 1) rfl 0 kr (arrF .u8 32 key) (part_all _) _ Tryd.underlying23 rfl (by rw [arrF_size]; kernel_rfl)) ?_
  clear F; intro a F
  refine T_val F H kr (nw 0) (R_cell (own := true) (g := cb) (all := #[nw 0]) (t := 53) (fr := (0, 0)) 5 kr 53 (.tmp 2) rfl 0 kr (nw 0) kr _ Tryd.underlying53 rfl) ?_
  clear F; intro a F
  refine T_val F H kr (.agg (arrF .u8 12 nc)) (R_load (own := true) (g := nbk) (all := (arrF .u8 12 nc)) (t := 121) (fr := (0, 0)) 6 kr 121 (.tmp 3) rfl 0 kr (arrF .u8 12 nc) (part_all _) _ Tryd.underlying121 rfl (by rw [arrF_size]; kernel_rfl)) ?_
  clear F; intro a F
  refine T_call F H kr 123 #[kyV key, nw 0, .agg (arrF .u8 12 nc)] (.agg (arrF .u8 64 (ccF key 0 nc))) (fun w => kr) (cblock_any key hkey 0 (by omega) nc hnc _ (hW.keptS H.kept (fun _ _ => List.not_mem_nil))) ?_
  clear F H; intro a v F H
  refine wpList_nil ?_
  refine thenN (T_yield F H kr (x := (.tmp 5)) (y := (.tmp 9)) rfl (l := lp) (k := 0) kr (val := .agg (arrF .u8 64 (ccF key 0 nc))) kr rfl (t := 19) rfl (mx_none key hkey nc hnc ad cp [] w0 0 ob tb kb cb nbk fn D lp aM FM aM.tmps _ H) (fun b a v hR F => ?_))
  clear H
  refine wpListIn_nil ?_
  refine hK2 _ _ ?_
  clear hK2
  try clear K2
  obtain ⟨rfl, H⟩ := hR
  replace F : Fm 13 [] [(10, .bool false), (0, .func (.yield lp) #[] #[]), (1, pt kb 0), (2, pt cb 0), (3, pt nbk 0)] a := F.weak _ (subL_of kr)
  refine C_if F false rfl rfl ?_
  refine wp_exit ?_
  exact ⟨F.df, _, results_none rfl _ _ _, _, r0, rfl, trivial, H⟩

set_option maxRecDepth 100000 in
set_option maxHeartbeats 4000000 in
theorem mix_none (key : Nat → Nat) (hkey : ∀ i, key i < 256) (nc : Nat → Nat) (hnc : ∀ i, nc i < 256) (ad : Option Addr) (cp : Nat) (w : World) (hW : LaidS w) : Calls Tryd.prog 91 #[.agg (arrF .u8 32 key), .int .u32 ((0 : Nat) : Int), .agg (arrF .u8 12 nc), .slice ad 0 cp] w fun e w' => e = .returned (.tuple #[.slice none 0 0, .int .i64 0]) ∧ Kept [] w w' := by
  refine C_enterM Tryd.func91 rfl 34 Tryd.ntmps91 (Nat.le_of_ble_eq_true rfl) (fun a F => ?_)
  have H := Hp.start [] w
  replace F : Fm 34 [] [(0, kyV key), (1, nw 0), (2, .agg (arrF .u8 12 nc)), (3, .slice ad 0 cp)] a := F.weak _ (subL_of kr)
  refine C_seqK (fun K1 hK1 => ?_)
  refine C_region ?_
  refine T_new F H kr (fun ad => pt ad 0) (ce (arrF .u8 32 key) 23) (fun w => kr) ?_
  clear F H; intro aq2 a v F H
  refine T_new F H kr (fun ad => pt ad 0) (ce (arrF .u8 12 nc) 121) (fun w => kr) ?_
  clear F H; intro aq3 a v F H
  refine T_new F H kr (fun ad => pt ad 0) (ce #[.slice ad 0 cp] 54) (fun w => kr) ?_
  clear F H; intro aq4 a v F H
  refine T_k F H (.slice none 0 0) ?_
  clear F; intro a F
  refine T_k F H (ni 0) ?_
  clear F; intro a F
  refine wpList_nil ?_
  refine hK1 _ _ ?_
  clear hK1
  try clear K1
  refine C_seqK (fun K5 hK5 => ?_)
  refine C_seqK (fun K6 hK6 => ?_)
  refine C_region ?_
  refine T_val F H kr (.slice ad 0 cp) (R_cell (own := true) (g := aq4) (all := #[.slice ad 0 cp]) (t := 54) (fr := (0, 0)) 0 kr 54 (.tmp 7) rfl 0 kr (.slice ad 0 cp) kr _ Tryd.underlying54 rfl) ?_
  clear F; intro a F
  refine T_k F H (ni 0) ?_
  clear F; intro a F
  refine T_k F H (.bool false) ?_
  clear F; intro a F
  refine wpList_nil ?_
  refine hK6 _ _ ?_
  clear hK6
  try clear K6
  refine C_if F false rfl rfl ?_
  refine wp_skip ?_
  refine hK5 _ _ ?_
  clear hK5
  try clear K5
  refine C_seqK (fun K7 hK7 => ?_)
  refine C_region ?_
  refine T_new F H kr (fun ad => pt ad 0) (ce #[.slice none 0 0] 54) (fun w => kr) ?_
  clear F H; intro aq8 a v F H
  refine wpList_nil ?_
  refine hK7 _ _ ?_
  clear hK7
  try clear K7
  refine C_seqK (fun K9 hK9 => ?_)
  refine C_seqK (fun K10 hK10 => ?_)
  refine C_region ?_
  refine T_val F H kr (kyV key) (R_load (own := true) (g := aq2) (all := (arrF .u8 32 key)) (t := 23) (fr := (0, 0)) 3 kr 23 (.tmp 4) rfl 0 kr (arrF .u8 32 key) (part_all _) _ Tryd.underlying23 rfl (by rw [arrF_size]; kernel_rfl)) ?_
  clear F; intro a F
  refine T_k F H (nw 0) ?_
  clear F; intro a F
  refine T_val F H kr (.agg (arrF .u8 12 nc)) (R_load (own := true) (g := aq3) (all := (arrF .u8 12 nc)) (t := 121) (fr := (0, 0)) 2 kr 121 (.tmp 6) rfl 0 kr (arrF .u8 12 nc) (part_all _) _ Tryd.underlying121 rfl (by rw [arrF_size]; kernel_rfl)) ?_
  clear F; intro a F
  refine T_callX (α := SlR) F H kr 106 #[kyV key, nw 0, .agg (arrF .u8 12 nc)] (fun rX => .func (.func 122) #[] #[pt rX.g 0, pt rX.cap 0, pt rX.n 0]) (fun rX => [bk rX.g (arrF .u8 32 key) 23, bk rX.cap #[nw 0] 53, bk rX.n (arrF .u8 12 nc) 121, bk aq8 #[.slice none 0 0] 54, bk aq4 #[.slice ad 0 cp] 54, bk aq3 (arrF .u8 12 nc) 121, bk aq2 (arrF .u8 32 key) 23]) (fun rX => True) (fun w => kr) (fun w H => (blocks_any key nc w).mono fun _ _ ⟨r, q1, q2⟩ => ⟨r, q1, trivial, H.merge q2 kr⟩) ?_
  clear F H; intro rq11 a v Qrq11 F H
  refine wpList_nil ?_
  replace F : Fm 34 [] [(18, .func (.func 122) #[] #[pt rq11.g 0, pt rq11.cap 0, pt rq11.n 0]), (10, pt aq8 0), (7, pt aq4 0)] a := F.weak _ (subL_of kr)
  replace H : Hp [] w [bk aq8 #[.slice none 0 0] 54, bk aq4 #[.slice ad 0 cp] 54, bk rq11.g (arrF .u8 32 key) 23, bk rq11.cap #[nw 0] 53, bk rq11.n (arrF .u8 12 nc) 121] v := H.pick [3, 4, 0, 1, 2] kr _ rfl
  generalize aq8 = ob at F H
  generalize aq4 = tb at F H
  generalize rq11.g = kb at F H
  generalize rq11.cap = cb at F H
  generalize rq11.n = nbk at F H
  replace F : Fm 34 [] [(18, .func (.func 122) #[] #[pt kb 0, pt cb 0, pt nbk 0]), (10, pt ob 0), (7, pt tb 0)] a := F
  replace H : Hp [] w [bk ob #[.slice none 0 0] 54, bk tb #[.slice ad 0 cp] 54, bk kb (arrF .u8 32 key) 23, bk cb #[nw 0] 53, bk nbk (arrF .u8 12 nc) 121] v := H
  refine hK10 _ _ ?_
  clear hK10
  try clear K10
  refine wp_block ?_
  have FM : Fm 34 [] [(10, pt ob 0), (7, pt tb 0)] a := F.weak _ (subL_of kr)
  refine C_range F H rfl (gf := 122) (lb := #[pt kb 0, pt cb 0, pt nbk 0]) rfl (fun _ _ => kr) (fun r => [bk ob #[.slice none 0 0] 54]) (fun r => True) (.exit 0) (fun fn D lp v H => mx_iter0 key hkey nc hnc ad cp w hW ob tb kb cb nbk fn D lp a FM v H) (fun r D a v hO F H => ?_)
  refine wp_exit ?_
  refine hK9 _ _ ?_
  clear hK9
  try clear K9
  refine C_seqK (fun K12 hK12 => ?_)
  refine C_region ?_
  refine T_val F H kr (.slice none 0 0) (R_cell (own := true) (g := ob) (all := #[.slice none 0 0]) (t := 54) (fr := (0, 0)) 1 kr 54 (.tmp 10) rfl 0 kr (.slice none 0 0) kr _ Tryd.underlying54 rfl) ?_
  clear F; intro a F
  refine T_k F H (.slice none 0 0) ?_
  clear F; intro a F
  refine T_k F H (ni 0) ?_
  clear F; intro a F
  refine wpList_nil ?_
  refine hK12 _ _ ?_
  clear hK12
  try clear K12
  refine wp_ret ?_
  refine C_retM F H (k := 0) rfl (fun a v F H => ?_)
  replace H : Hp [] w [⟨true, D, .deferred none⟩, bk ob #[.slice none 0 0] 54] v := H
  skip
  exact C_ret F H (rs := [.tmp 8, .tmp 9]) rfl (vs := [.slice none 0 0, ni 0]) (.tmp rfl (.tmp rfl .nil)) (.tuple #[.slice none 0 0, ni 0]) rfl ⟨rfl, H.kept⟩
end Go.Proofs.YtdejhenkdbjakaaDoor
