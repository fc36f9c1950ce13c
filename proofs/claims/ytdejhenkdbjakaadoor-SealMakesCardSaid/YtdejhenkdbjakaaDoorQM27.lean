/- YE -/
import Derived.Test.YtdejhenkdbjakaaDoorQM24
import Derived.Test.YtdejhenkdbjakaaDoorQM25
import Derived.Test.YtdejhenkdbjakaaDoorQM26
set_option linter.unusedVariables false
set_option linter.unusedSimpArgs false
set_option maxRecDepth 100000
set_option maxHeartbeats 4000000
namespace Go.Proofs.YtdejhenkdbjakaaDoor
open Go Go.RowKit
def tlD (tl : List Nat) (k : Nat) : List Nat := tl.drop (64 * k)
def bkL (key nc : Nat → Nat) (k : Nat) : List Nat := (List.range 64).map (ccF key k nc)
theorem bkL_lt (key nc : Nat → Nat) (k : Nat) : ∀ x ∈ bkL key nc k, x < 256 := fun x hx => by
  obtain ⟨i, _, rfl⟩ := List.mem_map.1 hx
  exact ccF_lt _ _ _ _
theorem tlD_lt {tl : List Nat} (h : ∀ x ∈ tl, x < 256) (k : Nat) : ∀ x ∈ tlD tl k, x < 256 := fun x hx => h x (List.mem_of_mem_drop hx)
theorem tlD_get (tl : List Nat) (k j : Nat) : (tlD tl k).getD j 0 = tl.getD (64 * k + j) 0 := by
  unfold tlD
  rw [List.getD_eq_getElem?_getD, List.getElem?_drop, List.getD_eq_getElem?_getD]
theorem bkL_get (key nc : Nat → Nat) (k : Nat) {j : Nat} (h : j < 64) : (bkL key nc k).getD j 0 = ccF key k nc j := by
  unfold bkL
  rw [List.getD_eq_getElem?_getD, List.getElem?_map, List.getElem?_range h]
  rfl
theorem bk_at (key nc : Nat → Nat) (k : Nat) : ∀ j, j < 64 → (arrF .u8 64 (ccF key k nc))[0 + j]? = some (.int .u8 ((bkL key nc k).getD j 0 : Nat)) := fun j h => by
  rw [Nat.zero_add, arrF_get _ h, bkL_get key nc k h]
theorem mx_step (key nc : Nat → Nat) (tl : List Nat) (k : Nat) {r : Nat} (hr : r ≤ 64) : mxP key nc tl (64 * k) ++ xorP (tlD tl k) (bkL key nc k) r r = mxP key nc tl (64 * k + r) := by
  refine List.ext_getElem? fun i => ?_
  rcases Nat.lt_or_ge i (64 * k) with h | h
  · rw [List.getElem?_append_left (by rw [mxP_len]; exact h), mxP_get _ _ _ h, mxP_get _ _ _ (by omega)]
  · rw [List.getElem?_append_right (by rw [mxP_len]; exact h), mxP_len]
    rcases Nat.lt_or_ge i (64 * k + r) with h2 | h2
    · rw [xorP_at _ _ (by omega), mxP_get _ _ _ h2, tlD_get, bkL_get key nc k (by omega), show 64 * k + (i - 64 * k) = i by omega]
      unfold mxB
      rw [show i / 64 = k by omega, show i % 64 = i - 64 * k by omega]
    · rw [List.getElem?_eq_none (by rw [xorP_len]; omega), List.getElem?_eq_none (by rw [mxP_len]; omega)]
theorem sliceAt {g off h cap l : Nat} (hl : l < cap) : (Value.slice (if cap = l then some ⟨g, off, none⟩ else (some (⟨g, off, none⟩ : Addr)).map (·.add (l * 1))) (h - l) (cap - l)) = .slice (some ⟨g, off + l, none⟩) (h - l) (cap - l) := by
  have e : (⟨g, off, none⟩ : Addr).add (l * 1) = ⟨g, off + l, none⟩ := by rw [Nat.mul_one]; unfold Addr.add; split <;> simp_all
  rw [if_neg (by omega), Option.map_some, e]
theorem i_eqdec {k : IntKind} {a b : Nat} : intRes .eql k (a : Int) (b : Int) = some (.bool (decide (a = b))) := by
  unfold intRes
  exact congrArg (fun q => some (Value.bool q)) (decide_eq_decide.2 (by omega))
theorem inBx {Q : Exit → Act → World → Prop} {a : Act} {w : World} {id id' : Nat} (h : Nat.beq id' id = false) (hq : Q (.exit id') a w) : Exit.inBlock id Q (.exit id') a w := by
  have hne : ¬ id' = id := Nat.ne_of_beq_eq_false h
  show (if id' = id then Q .normal a w else Q (.exit id') a w)
  rw [if_neg hne]; exact hq
theorem inBn {Q : Exit → Act → World → Prop} {a : Act} {w : World} {id : Nat} (hq : Q .normal a w) : Exit.inBlock id Q .normal a w := hq
theorem Hp.merge {X : List Nat} {w0 : World} {L L' : List Blk} {w w' : World} (H : Hp X w0 L w) (H' : Hp [] w L' w') (hown : L'.all (·.own) = true) : Hp X w0 (L' ++ L) w' := by
  have H1 := H.call H'.kept
  have hnew : ∀ p ∈ L', w.heap.size ≤ p.ad := fun p hp => (H'.own p hp (List.all_eq_true.1 hown p hp)).resolve_right List.not_mem_nil
  refine ⟨H1.kept, fun p hp => ?_, fun p hp ho => ?_, List.pairwise_append.2 ⟨H'.far, H1.far, fun p hp q hq => ?_⟩⟩
  · rcases List.mem_append.1 hp with hp | hp
    · exact H'.held p hp
    · exact H1.held p hp
  · rcases List.mem_append.1 hp with hp | hp
    · exact .inl (Nat.le_trans H.kept.size (hnew p hp))
    · exact H1.own p hp ho
  · have h1 := hnew p hp
    have h2 := heap_in (H.held q hq)
    omega

theorem blocks_any (key nc : Nat → Nat) (w : World) : Calls Tryd.prog 106 #[.agg (arrF .u8 32 key), .int .u32 (0 : Nat), .agg (arrF .u8 12 nc)] w fun e w' => ∃ r : SlR, e = .returned (.func (.func 122) #[] #[.pointer (some ⟨r.g, 0, none⟩), .pointer (some ⟨r.cap, 0, none⟩), .pointer (some ⟨r.n, 0, none⟩)]) ∧ Hp [] w [⟨true, r.g, .cells (arrF .u8 32 key) 23 (0, 0)⟩, ⟨true, r.cap, .cells #[.int .u32 (0 : Nat)] 53 (0, 0)⟩, ⟨true, r.n, .cells (arrF .u8 12 nc) 121 (0, 0)⟩] w' := by
  refine C_enter Tryd.func106 rfl 8 Tryd.ntmps106 (Nat.le_of_ble_eq_true rfl) (fun a F => ?_)
  have H := Hp.start [] w
  replace F : Fm 8 [] [(0, kyV key), (1, nw 0), (2, .agg (arrF .u8 12 nc))] a := F.weak _ (subL_of kr);refine C_seqK fun K1 hK1 => C_region ?_;refine T_new F H kr (fun ad => pt ad 0) (ce (arrF .u8 32 key) 23) (fun w => kr) ?_;clear F H; intro aq2 a v F H;refine T_new F H kr (fun ad => pt ad 0) (ce #[nw 0] 53) (fun w => kr) ?_;clear F H; intro aq3 a v F H;refine T_new F H kr (fun ad => pt ad 0) (ce (arrF .u8 12 nc) 121) (fun w => kr) ?_;clear F H; intro aq4 a v F H;refine T_k F H (.nilFunc) ?_;clear F; intro a F;refine wpList_nil (hK1 _ _ ?_);clear hK1;refine C_seqK fun K5 hK5 => C_region ?_;refine T_k F H (.func (.func 122) #[] #[pt aq2 0, pt aq3 0, pt aq4 0]) ?_;clear F; intro a F;refine T_k F H (.func (.func 122) #[] #[pt aq2 0, pt aq3 0, pt aq4 0]) ?_;clear F; intro a F;refine wpList_nil (hK5 _ _ ?_);clear hK5;replace F : Fm 8 [] [(6, .func (.func 122) #[] #[pt aq2 0, pt aq3 0, pt aq4 0]), (3, pt aq2 0), (4, pt aq3 0), (5, pt aq4 0)] a := F.weak _ (subL_of kr);replace H : Hp [] w [bk aq2 (arrF .u8 32 key) 23, bk aq3 #[nw 0] 53, bk aq4 (arrF .u8 12 nc) 121] v := H.pick [2, 1, 0] kr _ rfl;refine wp_ret ?_
  exact C_ret F H (rs := [.tmp 6]) rfl (vs := [.func (.func 122) #[] #[pt aq2 0, pt aq3 0, pt aq4 0]]) (.tmp rfl .nil) (.func (.func 122) #[] #[pt aq2 0, pt aq3 0, pt aq4 0]) rfl ⟨⟨aq2, aq3, [], aq4⟩, rfl, H⟩

def rfC : Code → Option Code
  | .seq x y => (rfC x).orElse fun _ => rfC y
  | .block _ x => rfC x
  | .rangeFunc g ps x y => some (.rangeFunc g ps x y)
  | _ => none
def rfA (c : Code) : Option Code := match rfC c with | some (.rangeFunc _ _ x _) => some x | _ => none
def rfB (c : Code) : Option Code := match rfC c with | some (.rangeFunc _ _ _ y) => some y | _ => none
noncomputable abbrev mxAs : Code := (Tryd.f91.body.bind rfA).getD .skip
noncomputable abbrev mxBd : Code := (Tryd.f91.body.bind rfB).getD .skip
noncomputable abbrev mxRec (fn : Nat) (tm : Array Value) (D : Nat) (st : LoopState) (pe : Option Code) : Obj := .loop { state := st, pending := pe, fn := fn, tmps := tm, params := #[19], assign := mxAs, body := mxBd, defers := D }

theorem mx_first (key : Nat → Nat) (hkey : ∀ i, key i < 256) (nc : Nat → Nat) (hnc : ∀ i, nc i < 256) (tl : List Nat) (htl : ∀ x ∈ tl, x < 256) (ga oa n cp : Nat) (arr : Array Value) (tyl : TypeId) (fr : Nat × Nat) (harr : ∀ j, j < n → arr[oa + j]? = some (.int .u8 (tl.getD j 0 : Nat))) (h0 : 0 < n) (hn : n ≤ 4000) (hcp : n ≤ cp) (X : List Nat) (w0 : World) (m ob tb kb cb nbk fn D lp : Nat) (a : Act) (F : Fm 34 [] [(10, .pointer (some ⟨ob, 0, none⟩)), (7, .pointer (some ⟨tb, 0, none⟩))] a) (tm : Array Value) (w : World) (H : Hp X w0 [⟨true, lp, mxRec fn tm D .ready none⟩, ⟨true, D, .deferred (some [])⟩, ⟨true, ob, .cells #[.slice none 0 0] 54 (0, 0)⟩, ⟨true, tb, .cells #[.slice (some ⟨ga, oa, none⟩) n cp] 54 (0, 0)⟩, ⟨true, kb, .cells (arrF .u8 32 key) 23 (0, 0)⟩, ⟨true, cb, .cells #[.int .u32 (0 : Nat)] 53 (0, 0)⟩, ⟨true, nbk, .cells (arrF .u8 12 nc) 121 (0, 0)⟩, ⟨false, ga, .cells arr tyl fr⟩] w) : RoundIn Fence.wide m Tryd.prog lp fn (a.tmps.setIfInBounds 19 (.agg (arrF .u8 64 (ccF key 0 nc)))) mxAs mxBd w fun e w' => ∃ b, e = .returned (.bool b) ∧ ((b = true ∧ 64 * 1 < n ∧ ∃ r : SlR, Own (oct (mxP key nc tl ((64 * 1)))) r.rest ((64 * 1)) r.cap 1 ∧ Hp X w0 [⟨true, lp, mxRec fn tm D .ready none⟩, ⟨true, D, .deferred (some [])⟩, ⟨true, ob, .cells #[.slice (some ⟨r.g, 0, none⟩) (64 * 1) r.cap] 54 (0, 0)⟩, ⟨true, r.g, .cells (sl (oct (mxP key nc tl ((64 * 1)))) r.rest) 5 (0, 0)⟩, ⟨true, tb, .cells #[.slice (some ⟨ga, oa, none⟩) n cp] 54 (0, 0)⟩, ⟨true, kb, .cells (arrF .u8 32 key) 23 (0, 0)⟩, ⟨true, cb, .cells #[.int .u32 (0 : Nat)] 53 (0, 0)⟩, ⟨true, nbk, .cells (arrF .u8 12 nc) 121 (0, 0)⟩, ⟨false, ga, .cells arr tyl fr⟩] w') ∨ (b = false ∧ n ≤ 64 * 1 ∧ ∃ r : SlR, Own (oct (mxP key nc tl n)) r.rest n r.cap 1 ∧ Hp X w0 [⟨true, lp, mxRec fn tm D .done (some (.exit 0))⟩, ⟨true, D, .deferred (some [])⟩, ⟨true, ob, .cells #[.slice (some ⟨r.g, 0, none⟩) n r.cap] 54 (0, 0)⟩, ⟨true, r.g, .cells (sl (oct (mxP key nc tl n)) r.rest) 5 (0, 0)⟩, ⟨false, ga, .cells arr tyl fr⟩] w')) := by
  refine roundIn_of_wpIn trivial ?_
  replace F := F.round (t := 19) kr (.agg (arrF .u8 64 (ccF key 0 nc)))
  obtain ⟨mm, hmm⟩ : ∃ mm, mm = min (n - 64 * 0) 64 := ⟨_, rfl⟩
  have hmp : 0 < mm := by omega
  have hml : mm ≤ 64 := by omega
  clear h0;replace H : Hp X w0 [⟨true, lp, mxRec fn tm D .ready none⟩, ⟨true, D, .deferred (some [])⟩, bk ob #[.slice none 0 0] 54, bk tb #[sc ga oa n cp] 54, bk kb (arrF .u8 32 key) 23, bk cb #[nw 0] 53, bk nbk (arrF .u8 12 nc) 121, ⟨false, ga, .cells arr tyl fr⟩] w := H
  
  refine CI_region ?_;refine T_new F H kr (fun ad => pt ad 0) (ce #[.int .u8 0, .int .u8 0, .int .u8 0, .int .u8 0, .int .u8 0, .int .u8 0, .int .u8 0, .int .u8 0, .int .u8 0, .int .u8 0, .int .u8 0, .int .u8 0, .int .u8 0, .int .u8 0, .int .u8 0, .int .u8 0, .int .u8 0, .int .u8 0, .int .u8 0, .int .u8 0, .int .u8 0, .int .u8 0, .int .u8 0, .int .u8 0, .int .u8 0, .int .u8 0, .int .u8 0, .int .u8 0, .int .u8 0, .int .u8 0, .int .u8 0, .int .u8 0, .int .u8 0, .int .u8 0, .int .u8 0, .int .u8 0, .int .u8 0, .int .u8 0, .int .u8 0, .int .u8 0, .int .u8 0, .int .u8 0, .int .u8 0, .int .u8 0, .int .u8 0, .int .u8 0, .int .u8 0, .int .u8 0, .int .u8 0, .int .u8 0, .int .u8 0, .int .u8 0, .int .u8 0, .int .u8 0, .int .u8 0, .int .u8 0, .int .u8 0, .int .u8 0, .int .u8 0, .int .u8 0, .int .u8 0, .int .u8 0, .int .u8 0, .int .u8 0] 140) (fun w => kr) ?_;clear F H; intro aq1 a v F H;refine T_set F H kr rfl 0 rfl (arrF .u8 64 (ccF key 0 nc)) (S_row 0 rfl 140 (.tmp 11) (.tmp 19) rfl kr (arrF .u8 64 (ccF key 0 nc)) kr (by rw [arrF_size]; kernel_rfl) (by rw [arrF_size]; kernel_rfl) (arrF_one _ _ _)) [bk aq1 (arrF .u8 64 (ccF key 0 nc)) 140, ⟨true, lp, mxRec fn tm D .ready none⟩, ⟨true, D, .deferred (some [])⟩, bk ob #[.slice none 0 0] 54, bk tb #[sc ga oa n cp] 54, bk kb (arrF .u8 32 key) 23, bk cb #[nw 0] 53, bk nbk (arrF .u8 12 nc) 121, ⟨false, ga, .cells arr tyl fr⟩] rfl ?_;clear F H; intro a v F H;refine wpList_nil ?_;refine round_begin H (k := 1) rfl rfl (fun v H => ?_);replace H : Hp X w0 [bk aq1 (arrF .u8 64 (ccF key 0 nc)) 140, ⟨true, lp, mxRec fn tm D .busy none⟩, ⟨true, D, .deferred (some [])⟩, bk ob #[.slice none 0 0] 54, bk tb #[sc ga oa n cp] 54, bk kb (arrF .u8 32 key) 23, bk cb #[nw 0] 53, bk nbk (arrF .u8 12 nc) 121, ⟨false, ga, .cells arr tyl fr⟩] v := H;replace F : Fm 34 [] [(11, pt aq1 0), (10, pt ob 0), (7, pt tb 0)] a := F.weak _ (subL_of kr);refine wpIn_block ?_;refine CI_seqK (fun K1 hK1 => ?_)
  have hgb : ga ≠ aq1 := H.apart (i := 8) (j := 0) rfl rfl (by decide)
  have hla : ∀ j, j < n - 64 * 0 → arr[oa + 64 * 0 + j]? = some (nb ((tlD tl 0).getD j 0)) := fun j hj => by
    rw [tlD_get, Nat.add_assoc]
    exact harr (64 * 0 + j) (by omega)
  refine EI_region F H (fun β => [(20, .slice none 0 0), (21, sc ga oa n cp), (22, .slice none 0 0), (23, ni 0), (24, sc ga (oa + 64 * 0) (n - 64 * 0) (cp - 64 * 0)), (25, sc aq1 0 64 64), (26, sc ((β 6).g) 0 mm (β 6).cap), (27, sc ((β 7).g) 0 mm (β 7).cap)]) [20, 21, 22, 23, 24, 25, 26, 27] [⟨some 6, none, 0, [6], fun q_ => ce (sl (oct (xorP (tlD tl 0) (bkL key nc 0) mm mm)) (gh q_ 0).rest) 5, fun q_ => Own (oct (xorP (tlD tl 0) (bkL key nc 0) mm mm)) (gh q_ 0).rest (mm) (gh q_ 0).cap 1, []⟩,
    ⟨some 7, none, 0, [7], fun q_ => ce (sl (oct (xorP (tlD tl 0) (bkL key nc 0) mm mm)) (gh q_ 0).rest) 5, fun q_ => Own (oct (xorP (tlD tl 0) (bkL key nc 0) mm mm)) (gh q_ 0).rest (mm) (gh q_ 0).cap 1, []⟩,
    ⟨none, none, ob, [], fun q_ => ce #[.slice none 0 0] 54, gT, [⟨8, [7], fun q_ => ce #[sc ((gh q_ 0).g) 0 mm (gh q_ 0).cap] 54, gT⟩]⟩] [bk aq1 (arrF .u8 64 (ccF key 0 nc)) 140, ⟨true, lp, mxRec fn tm D .busy none⟩, ⟨true, D, .deferred (some [])⟩, bk tb #[sc ga oa n cp] 54, bk kb (arrF .u8 32 key) 23, bk cb #[nw 0] 53, bk nbk (arrF .u8 12 nc) 121, ⟨false, ga, .cells arr tyl fr⟩] [3, 0, 1, 2, 4, 5, 6, 7, 8] 2 [] kr kr kr (fun β => rfl) ⟨fun h _ => Bool.noConfusion h, ⟨fun h _ => Bool.noConfusion h, ⟨fun _ _ => trivial, trivial⟩⟩⟩ ⟨?_, ?_, ?_, ?_, ?_, ?_, ?_, ?_, ?_, trivial⟩ ?_
  · exact E_v 34 (fun β => .slice none 0 0) 20 2 [(2, 0)] (fun β w hk hl hq => R_cellH hl (own := true) (g := ob) (all := #[.slice none 0 0]) (t := 54) (fr := (0, 0)) 0 kr 54 (.tmp 10) rfl 0 kr (.slice none 0 0) kr _ Tryd.underlying54 rfl)
  · exact E_v 34 (fun β => sc ga oa n cp) 21 2 [] (fun β w hk hl hq => R_cellH hl (own := true) (g := tb) (all := #[sc ga oa n cp]) (t := 54) (fr := (0, 0)) 3 kr 54 (.tmp 7) rfl 0 kr (sc ga oa n cp) kr _ Tryd.underlying54 rfl)
  · exact E_v 34 (fun β => .slice none 0 0) 22 2 [(2, 0)] (fun β w hk hl hq => R_cellH hl (own := true) (g := ob) (all := #[.slice none 0 0]) (t := 54) (fr := (0, 0)) 0 kr 54 (.tmp 10) rfl 0 kr (.slice none 0 0) kr _ Tryd.underlying54 rfl)
  · exact E_k 34 (fun β => ni 0) 23 2
  · exact E_v 34 (fun β => sc ga (oa + 64 * 0) (n - 64 * 0) (cp - 64 * 0)) 24 2 [] (fun β w hk hl hq => R_slice (lo := (some (.tmp 23))) (hi := none) rfl Tryd.underlying54 (ad := some ⟨ga, oa, none⟩) (len := n) (cap := cp) kr ((64 * 0)) (n) ⟨.i64, kr⟩ rfl (by omega) hcp (sz := 1) kr _ (sliceAt (by omega)) w)
  · exact E_k 34 (fun β => sc aq1 0 64 64) 25 2
  · exact E_callS 34 kq (fun β => sc ((β 6).g) 0 mm (β 6).cap) 26 rfl kq 2 (fun β r => offAt2_of kr kr) 88 (fun β => #[sc ga (oa + 64 * 0) (n - 64 * 0) (cp - 64 * 0), sc aq1 0 64 64]) (fun β w => kr) 2 [] 0 _ rfl kr kr rfl (fun β w hk hl hq => (by rw [hmm]; exact xor_any (tlD tl 0) (tlD_lt htl 0) (bkL key nc 0) (bkL_lt key nc 0) ga (oa + 64 * 0) (n - 64 * 0) (cp - 64 * 0) arr tyl fr aq1 0 64 64 (arrF .u8 64 (ccF key 0 nc)) 140 (0, 0) hla (bk_at key nc 0) (by omega) _ (hl.at_ (k := 7) rfl) (hl.at_ (k := 0) rfl) hgb))
  · exact E_new 34 kq (fun β => sc ((β 7).g) 0 mm (β 7).cap) 27 rfl kq 2 (fun β r => offAt2_of kr kr) 2 [(0, 0)] 1 _ rfl kr kr rfl (fun β w hk hl hq => let ⟨r, w', h1, h2, h3, h4, h5⟩ := run_appN (size := 1) (bytes := 1) (t := 54) (e := 5) kr kr (x := sc ((β 6).g) 0 mm (β 6).cap) (m := mm) (news := oct (xorP (tlD tl 0) (bkL key nc 0) mm mm)) (RdS.all (hl.at_ (k := 0) rfl) (Own.le hq.1.1)) (by rw [ints_len, xorP_len, Nat.mul_one]) (by omega) (by simp only [maxLen]; omega) (by omega); ⟨r, w', exec_append (s := (.tmp 20)) rfl kr rfl h1, h2, h4, h3, h5⟩)
  · exact E_store 34 kq rfl 2 [] 2 0 _ _ rfl rfl kr rfl (fun _ => trivial) (fun β w hk hl hq hm => let ⟨w', h1, h2, h3⟩ := P_cell (off := 0) (old := #[.slice none 0 0]) (v := sc ((β 7).g) 0 mm (β 7).cap) (Z := ce #[.slice none 0 0] 54) (R := ce #[sc ((β 7).g) 0 mm (β 7).cap] 54) rfl rfl (ty := 54) rfl kr kr rfl (Nat.le_of_ble_eq_true rfl) Tryd.underlying54 rfl kr hm; ⟨w', h1, h2, h3⟩)
  clear F H; intro β a v Q F H;replace H : Hp X w0 [bk ((β 6).g) (sl (oct (xorP (tlD tl 0) (bkL key nc 0) mm mm)) (β 6).rest) 5, bk ((β 7).g) (sl (oct (xorP (tlD tl 0) (bkL key nc 0) mm mm)) (β 7).rest) 5, bk ob #[sc ((β 7).g) 0 mm (β 7).cap] 54, bk aq1 (arrF .u8 64 (ccF key 0 nc)) 140, ⟨true, lp, mxRec fn tm D .busy none⟩, ⟨true, D, .deferred (some [])⟩, bk tb #[sc ga oa n cp] 54, bk kb (arrF .u8 32 key) 23, bk cb #[nw 0] 53, bk nbk (arrF .u8 12 nc) 121, ⟨false, ga, .cells arr tyl fr⟩] v := H;replace F : Fm 34 [] [(27, sc ((β 7).g) 0 mm (β 7).cap), (26, sc ((β 6).g) 0 mm (β 6).cap), (25, sc aq1 0 64 64), (24, sc ga (oa + 64 * 0) (n - 64 * 0) (cp - 64 * 0)), (23, ni 0), (22, .slice none 0 0), (21, sc ga oa n cp), (20, .slice none 0 0), (11, pt aq1 0), (10, pt ob 0), (7, pt tb 0)] a := F.weak _ (subL_of kr)
  have Qh3_0 : Own (oct (xorP (tlD tl 0) (bkL key nc 0) mm mm)) (β 6).rest (mm) (β 6).cap 1 := Q.1
  have Qh3_1 : Own (oct (xorP (tlD tl 0) (bkL key nc 0) mm mm)) (β 7).rest (mm) (β 7).cap 1 := Q.2.2.1
  clear Q
  generalize β 6 = rq2 at F H Qh3_0 Qh3_1
  generalize β 7 = rq3 at F H Qh3_0 Qh3_1
  skip
  refine ?_;replace F : Fm 34 [] [(10, pt ob 0), (7, pt tb 0)] a := F.weak _ (subL_of kr);replace H : Hp X w0 [⟨true, lp, mxRec fn tm D .busy none⟩, ⟨true, D, .deferred (some [])⟩, bk ob #[sc rq3.g 0 mm rq3.cap] 54, bk rq3.g (sl (oct (xorP (tlD tl 0) (bkL key nc 0) mm mm)) rq3.rest) 5, bk tb #[sc ga oa n cp] 54, bk kb (arrF .u8 32 key) 23, bk cb #[nw 0] 53, bk nbk (arrF .u8 12 nc) 121, ⟨false, ga, .cells arr tyl fr⟩] v := H.pick [4, 5, 2, 1, 6, 7, 8, 9, 10] kr _ rfl
  have hc9 : oct (xorP (tlD tl 0) (bkL key nc 0) mm mm) = oct (mxP key nc tl mm) := congrArg oct ((mx_step key nc tl 0 hml).trans (by rw [Nat.mul_zero, Nat.zero_add]))
  rw [hc9] at H Qh3_1
  have Qrq3' := Qh3_1
  replace H : Hp X w0 [⟨true, lp, mxRec fn tm D .busy none⟩, ⟨true, D, .deferred (some [])⟩, bk ob #[sc rq3.g 0 mm rq3.cap] 54, bk rq3.g (sl (oct (mxP key nc tl mm)) rq3.rest) 5, bk tb #[sc ga oa n cp] 54, bk kb (arrF .u8 32 key) 23, bk cb #[nw 0] 53, bk nbk (arrF .u8 12 nc) 121, ⟨false, ga, .cells arr tyl fr⟩] v := H
  have Qrq3 : Own (oct (mxP key nc tl mm)) rq3.rest mm rq3.cap 1 := Qrq3'
  refine hK1 _ _ ?_;clear hK1;refine CI_seqK (fun K2 hK2 => ?_);refine CI_region ?_;refine T_val F H kr (sc rq3.g 0 mm rq3.cap) (R_cell (own := true) (g := ob) (all := #[sc rq3.g 0 mm rq3.cap]) (t := 54) (fr := (0, 0)) 2 kr 54 (.tmp 10) rfl 0 kr (sc rq3.g 0 mm rq3.cap) kr _ Tryd.underlying54 rfl) ?_;clear F; intro a F;refine T_k F H (ni mm) ?_;clear F; intro a F;refine T_val F H kr (sc ga oa n cp) (R_cell (own := true) (g := tb) (all := #[sc ga oa n cp]) (t := 54) (fr := (0, 0)) 4 kr 54 (.tmp 7) rfl 0 kr (sc ga oa n cp) kr _ Tryd.underlying54 rfl) ?_;clear F; intro a F;refine T_k F H (ni n) ?_;clear F; intro a F;refine T_val F H kr (.bool (decide (mm = n))) (fun w _ => R_bin rfl (k := .i64) (a := (mm : Nat)) (b := (n : Nat)) kr kr i_eqdec w) ?_;clear F; intro a F;refine wpList_nil (hK2 _ _ ?_);clear hK2
  by_cases hcd : mm = n
  · rw [decide_eq_true hcd] at F
    refine CI_if F true rfl rfl ?_;refine wpIn_exit ?_;refine inBx rfl ?_;refine round_out H (k := 0) rfl (fun v H => ?_);refine ⟨false, rfl, .inr ⟨rfl, by omega, rq3, ?_, ?_⟩⟩
    · rw [hcd] at Qrq3; exact Qrq3
    · replace H : Hp X w0 [⟨true, lp, mxRec fn tm D .done (some (.exit 0))⟩, ⟨true, D, .deferred (some [])⟩, bk ob #[sc rq3.g 0 mm rq3.cap] 54, bk rq3.g (sl (oct (mxP key nc tl mm)) rq3.rest) 5, ⟨false, ga, .cells arr tyl fr⟩] v := H.pick [0, 1, 2, 3, 8] kr _ rfl
      rw [hcd] at H
      exact H
  · rw [decide_eq_false hcd] at F
    refine CI_if F false rfl rfl ?_;refine wpIn_skip ?_;refine inBn ?_
    have hm64 : mm = 64 * 1 := by omega
    refine round_on H (k := 0) rfl (fun v H => ?_);refine ⟨true, rfl, .inl ⟨rfl, by omega, rq3, ?_, ?_⟩⟩
    · rw [hm64] at Qrq3; exact Qrq3
    · rw [hm64] at H; exact H

theorem mx_later (key : Nat → Nat) (hkey : ∀ i, key i < 256) (nc : Nat → Nat) (hnc : ∀ i, nc i < 256) (tl : List Nat) (htl : ∀ x ∈ tl, x < 256) (ga oa n cp : Nat) (arr : Array Value) (tyl : TypeId) (fr : Nat × Nat) (harr : ∀ j, j < n → arr[oa + j]? = some (.int .u8 (tl.getD j 0 : Nat))) (h0 : 0 < n) (hn : n ≤ 4000) (hcp : n ≤ cp) (X : List Nat) (w0 : World) (m ob tb kb cb nbk fn D lp : Nat) (a : Act) (F : Fm 34 [] [(10, .pointer (some ⟨ob, 0, none⟩)), (7, .pointer (some ⟨tb, 0, none⟩))] a) (tm : Array Value) (k : Nat) (hk1 : 1 ≤ k) (hk : 64 * k < n) (r : SlR) (hO : Own (oct (mxP key nc tl ((64 * k)))) r.rest ((64 * k)) r.cap 1) (w : World) (H : Hp X w0 [⟨true, lp, mxRec fn tm D .ready none⟩, ⟨true, D, .deferred (some [])⟩, ⟨true, ob, .cells #[.slice (some ⟨r.g, 0, none⟩) (64 * k) r.cap] 54 (0, 0)⟩, ⟨true, r.g, .cells (sl (oct (mxP key nc tl ((64 * k)))) r.rest) 5 (0, 0)⟩, ⟨true, tb, .cells #[.slice (some ⟨ga, oa, none⟩) n cp] 54 (0, 0)⟩, ⟨true, kb, .cells (arrF .u8 32 key) 23 (0, 0)⟩, ⟨true, cb, .cells #[.int .u32 (k : Nat)] 53 (0, 0)⟩, ⟨true, nbk, .cells (arrF .u8 12 nc) 121 (0, 0)⟩, ⟨false, ga, .cells arr tyl fr⟩] w) : RoundIn Fence.wide m Tryd.prog lp fn (a.tmps.setIfInBounds 19 (.agg (arrF .u8 64 (ccF key k nc)))) mxAs mxBd w fun e w' => ∃ b, e = .returned (.bool b) ∧ ((b = true ∧ 64 * ((k + 1)) < n ∧ ∃ r : SlR, Own (oct (mxP key nc tl ((64 * ((k + 1)))))) r.rest ((64 * ((k + 1)))) r.cap 1 ∧ Hp X w0 [⟨true, lp, mxRec fn tm D .ready none⟩, ⟨true, D, .deferred (some [])⟩, ⟨true, ob, .cells #[.slice (some ⟨r.g, 0, none⟩) (64 * ((k + 1))) r.cap] 54 (0, 0)⟩, ⟨true, r.g, .cells (sl (oct (mxP key nc tl ((64 * ((k + 1)))))) r.rest) 5 (0, 0)⟩, ⟨true, tb, .cells #[.slice (some ⟨ga, oa, none⟩) n cp] 54 (0, 0)⟩, ⟨true, kb, .cells (arrF .u8 32 key) 23 (0, 0)⟩, ⟨true, cb, .cells #[.int .u32 (k : Nat)] 53 (0, 0)⟩, ⟨true, nbk, .cells (arrF .u8 12 nc) 121 (0, 0)⟩, ⟨false, ga, .cells arr tyl fr⟩] w') ∨ (b = false ∧ n ≤ 64 * ((k + 1)) ∧ ∃ r : SlR, Own (oct (mxP key nc tl n)) r.rest n r.cap 1 ∧ Hp X w0 [⟨true, lp, mxRec fn tm D .done (some (.exit 0))⟩, ⟨true, D, .deferred (some [])⟩, ⟨true, ob, .cells #[.slice (some ⟨r.g, 0, none⟩) n r.cap] 54 (0, 0)⟩, ⟨true, r.g, .cells (sl (oct (mxP key nc tl n)) r.rest) 5 (0, 0)⟩, ⟨false, ga, .cells arr tyl fr⟩] w')) := by
  refine roundIn_of_wpIn trivial ?_
  replace F := F.round (t := 19) kr (.agg (arrF .u8 64 (ccF key k nc)))
  obtain ⟨mm, hmm⟩ : ∃ mm, mm = min (n - 64 * k) 64 := ⟨_, rfl⟩
  have hmp : 0 < mm := by omega
  have hml : mm ≤ 64 := by omega
  clear h0;replace H : Hp X w0 [⟨true, lp, mxRec fn tm D .ready none⟩, ⟨true, D, .deferred (some [])⟩, bk ob #[sc r.g 0 (64 * k) r.cap] 54, bk r.g (sl (oct (mxP key nc tl ((64 * k)))) r.rest) 5, bk tb #[sc ga oa n cp] 54, bk kb (arrF .u8 32 key) 23, bk cb #[nw k] 53, bk nbk (arrF .u8 12 nc) 121, ⟨false, ga, .cells arr tyl fr⟩] w := H
  
  refine CI_region ?_;refine T_new F H kr (fun ad => pt ad 0) (ce #[.int .u8 0, .int .u8 0, .int .u8 0, .int .u8 0, .int .u8 0, .int .u8 0, .int .u8 0, .int .u8 0, .int .u8 0, .int .u8 0, .int .u8 0, .int .u8 0, .int .u8 0, .int .u8 0, .int .u8 0, .int .u8 0, .int .u8 0, .int .u8 0, .int .u8 0, .int .u8 0, .int .u8 0, .int .u8 0, .int .u8 0, .int .u8 0, .int .u8 0, .int .u8 0, .int .u8 0, .int .u8 0, .int .u8 0, .int .u8 0, .int .u8 0, .int .u8 0, .int .u8 0, .int .u8 0, .int .u8 0, .int .u8 0, .int .u8 0, .int .u8 0, .int .u8 0, .int .u8 0, .int .u8 0, .int .u8 0, .int .u8 0, .int .u8 0, .int .u8 0, .int .u8 0, .int .u8 0, .int .u8 0, .int .u8 0, .int .u8 0, .int .u8 0, .int .u8 0, .int .u8 0, .int .u8 0, .int .u8 0, .int .u8 0, .int .u8 0, .int .u8 0, .int .u8 0, .int .u8 0, .int .u8 0, .int .u8 0, .int .u8 0, .int .u8 0] 140) (fun w => kr) ?_;clear F H; intro aq1 a v F H;refine T_set F H kr rfl 0 rfl (arrF .u8 64 (ccF key k nc)) (S_row 0 rfl 140 (.tmp 11) (.tmp 19) rfl kr (arrF .u8 64 (ccF key k nc)) kr (by rw [arrF_size]; kernel_rfl) (by rw [arrF_size]; kernel_rfl) (arrF_one _ _ _)) [bk aq1 (arrF .u8 64 (ccF key k nc)) 140, ⟨true, lp, mxRec fn tm D .ready none⟩, ⟨true, D, .deferred (some [])⟩, bk ob #[sc r.g 0 (64 * k) r.cap] 54, bk r.g (sl (oct (mxP key nc tl ((64 * k)))) r.rest) 5, bk tb #[sc ga oa n cp] 54, bk kb (arrF .u8 32 key) 23, bk cb #[nw k] 53, bk nbk (arrF .u8 12 nc) 121, ⟨false, ga, .cells arr tyl fr⟩] rfl ?_;clear F H; intro a v F H;refine wpList_nil ?_;refine round_begin H (k := 1) rfl rfl (fun v H => ?_);replace H : Hp X w0 [bk aq1 (arrF .u8 64 (ccF key k nc)) 140, ⟨true, lp, mxRec fn tm D .busy none⟩, ⟨true, D, .deferred (some [])⟩, bk ob #[sc r.g 0 (64 * k) r.cap] 54, bk r.g (sl (oct (mxP key nc tl ((64 * k)))) r.rest) 5, bk tb #[sc ga oa n cp] 54, bk kb (arrF .u8 32 key) 23, bk cb #[nw k] 53, bk nbk (arrF .u8 12 nc) 121, ⟨false, ga, .cells arr tyl fr⟩] v := H;replace F : Fm 34 [] [(11, pt aq1 0), (10, pt ob 0), (7, pt tb 0)] a := F.weak _ (subL_of kr);refine wpIn_block ?_;refine CI_seqK (fun K1 hK1 => ?_)
  have hgb : ga ≠ aq1 := H.apart (i := 9) (j := 0) rfl rfl (by decide)
  have hla : ∀ j, j < n - 64 * k → arr[oa + 64 * k + j]? = some (nb ((tlD tl k).getD j 0)) := fun j hj => by
    rw [tlD_get, Nat.add_assoc]
    exact harr (64 * k + j) (by omega)
  refine EI_region F H (fun β => [(20, sc r.g 0 (64 * k) r.cap), (21, sc ga oa n cp), (22, sc r.g 0 (64 * k) r.cap), (23, ni (64 * k)), (24, sc ga (oa + 64 * k) (n - 64 * k) (cp - 64 * k)), (25, sc aq1 0 64 64), (26, sc ((β 6).g) 0 mm (β 6).cap), (27, sc ((β 7).g) 0 ((64 * k) + mm) (β 7).cap)]) [20, 21, 22, 23, 24, 25, 26, 27] [⟨some 6, none, 0, [6], fun q_ => ce (sl (oct (xorP (tlD tl k) (bkL key nc k) mm mm)) (gh q_ 0).rest) 5, fun q_ => Own (oct (xorP (tlD tl k) (bkL key nc k) mm mm)) (gh q_ 0).rest (mm) (gh q_ 0).cap 1, []⟩,
    ⟨some 7, none, 0, [7], fun q_ => ce (sl ((oct (mxP key nc tl ((64 * k)))) ++ (oct (xorP (tlD tl k) (bkL key nc k) mm mm))) (gh q_ 0).rest) 5, fun q_ => Own ((oct (mxP key nc tl ((64 * k)))) ++ (oct (xorP (tlD tl k) (bkL key nc k) mm mm))) (gh q_ 0).rest (((64 * k) + mm)) (gh q_ 0).cap 1, []⟩,
    ⟨none, some 7, r.g, [], fun q_ => ce (sl (oct (mxP key nc tl ((64 * k)))) r.rest) 5, gT, []⟩,
    ⟨none, none, ob, [], fun q_ => ce #[sc r.g 0 (64 * k) r.cap] 54, gT, [⟨8, [7], fun q_ => ce #[sc ((gh q_ 0).g) 0 ((64 * k) + mm) (gh q_ 0).cap] 54, gT⟩]⟩] [bk aq1 (arrF .u8 64 (ccF key k nc)) 140, ⟨true, lp, mxRec fn tm D .busy none⟩, ⟨true, D, .deferred (some [])⟩, bk tb #[sc ga oa n cp] 54, bk kb (arrF .u8 32 key) 23, bk cb #[nw k] 53, bk nbk (arrF .u8 12 nc) 121, ⟨false, ga, .cells arr tyl fr⟩] [4, 3, 0, 1, 2, 5, 6, 7, 8, 9] 2 [] kr kr kr (fun β => rfl) ⟨fun h _ => Bool.noConfusion h, ⟨fun h _ => Bool.noConfusion h, ⟨fun _ _ => trivial, ⟨fun _ _ => trivial, trivial⟩⟩⟩⟩ ⟨?_, ?_, ?_, ?_, ?_, ?_, ?_, ?_, ?_, trivial⟩ ?_
  · exact E_v 34 (fun β => sc r.g 0 (64 * k) r.cap) 20 2 [(3, 0)] (fun β w hk hl hq => R_cellH hl (own := true) (g := ob) (all := #[sc r.g 0 (64 * k) r.cap]) (t := 54) (fr := (0, 0)) 0 kr 54 (.tmp 10) rfl 0 kr (sc r.g 0 (64 * k) r.cap) kr _ Tryd.underlying54 rfl)
  · exact E_v 34 (fun β => sc ga oa n cp) 21 2 [] (fun β w hk hl hq => R_cellH hl (own := true) (g := tb) (all := #[sc ga oa n cp]) (t := 54) (fr := (0, 0)) 3 kr 54 (.tmp 7) rfl 0 kr (sc ga oa n cp) kr _ Tryd.underlying54 rfl)
  · exact E_v 34 (fun β => sc r.g 0 (64 * k) r.cap) 22 2 [(3, 0)] (fun β w hk hl hq => R_cellH hl (own := true) (g := ob) (all := #[sc r.g 0 (64 * k) r.cap]) (t := 54) (fr := (0, 0)) 0 kr 54 (.tmp 10) rfl 0 kr (sc r.g 0 (64 * k) r.cap) kr _ Tryd.underlying54 rfl)
  · exact E_k 34 (fun β => ni (64 * k)) 23 2
  · exact E_v 34 (fun β => sc ga (oa + 64 * k) (n - 64 * k) (cp - 64 * k)) 24 2 [] (fun β w hk hl hq => R_slice (lo := (some (.tmp 23))) (hi := none) rfl Tryd.underlying54 (ad := some ⟨ga, oa, none⟩) (len := n) (cap := cp) kr ((64 * k)) (n) ⟨.i64, kr⟩ rfl (by omega) hcp (sz := 1) kr _ (sliceAt (by omega)) w)
  · exact E_k 34 (fun β => sc aq1 0 64 64) 25 2
  · exact E_callS 34 kq (fun β => sc ((β 6).g) 0 mm (β 6).cap) 26 rfl kq 2 (fun β r => offAt2_of kr kr) 88 (fun β => #[sc ga (oa + 64 * k) (n - 64 * k) (cp - 64 * k), sc aq1 0 64 64]) (fun β w => kr) 2 [] 0 _ rfl kr kr rfl (fun β w hk hl hq => (by rw [hmm]; exact xor_any (tlD tl k) (tlD_lt htl k) (bkL key nc k) (bkL_lt key nc k) ga (oa + 64 * k) (n - 64 * k) (cp - 64 * k) arr tyl fr aq1 0 64 64 (arrF .u8 64 (ccF key k nc)) 140 (0, 0) hla (bk_at key nc k) (by omega) _ (hl.at_ (k := 7) rfl) (hl.at_ (k := 0) rfl) hgb))
  · exact E_app 34 kq (fun β => sc ((β 7).g) 0 ((64 * k) + mm) (β 7).cap) 27 rfl kq 2 (fun β r => offAt2_of kr kr) 2 [(0, 0)] 1 1 _ _ rfl rfl kr kr rfl rfl (fun β w hk hl hq hm => let ⟨r, w', h1, h2, h3, h4⟩ := run_app (size := 1) (bytes := 1) (t := 54) (e := 5) kr kr hO hm (x := sc ((β 6).g) 0 mm (β 6).cap) (m := mm) (news := oct (xorP (tlD tl k) (bkL key nc k) mm mm)) (RdS.all (hl.at_ (k := 0) rfl) (Own.le hq.1.1)) (by rw [ints_len, Nat.mul_one, xorP_len]) (ints_one _ _) (by simp only [maxLen]; omega) (by omega); ⟨r, w', exec_append (s := (.tmp 20)) rfl kr rfl h1, h2, h3, h4⟩)
  · exact E_store 34 kq rfl 2 [] 3 0 _ _ rfl rfl kr rfl (fun _ => trivial) (fun β w hk hl hq hm => let ⟨w', h1, h2, h3⟩ := P_cell (off := 0) (old := #[sc r.g 0 (64 * k) r.cap]) (v := sc ((β 7).g) 0 ((64 * k) + mm) (β 7).cap) (Z := ce #[sc r.g 0 (64 * k) r.cap] 54) (R := ce #[sc ((β 7).g) 0 ((64 * k) + mm) (β 7).cap] 54) rfl rfl (ty := 54) rfl kr kr rfl (Nat.le_of_ble_eq_true rfl) Tryd.underlying54 rfl kr hm; ⟨w', h1, h2, h3⟩)
  clear F H; intro β a v Q F H;replace H : Hp X w0 [bk ((β 6).g) (sl (oct (xorP (tlD tl k) (bkL key nc k) mm mm)) (β 6).rest) 5, bk ((β 7).g) (sl ((oct (mxP key nc tl ((64 * k)))) ++ (oct (xorP (tlD tl k) (bkL key nc k) mm mm))) (β 7).rest) 5, bk ob #[sc ((β 7).g) 0 ((64 * k) + mm) (β 7).cap] 54, bk aq1 (arrF .u8 64 (ccF key k nc)) 140, ⟨true, lp, mxRec fn tm D .busy none⟩, ⟨true, D, .deferred (some [])⟩, bk tb #[sc ga oa n cp] 54, bk kb (arrF .u8 32 key) 23, bk cb #[nw k] 53, bk nbk (arrF .u8 12 nc) 121, ⟨false, ga, .cells arr tyl fr⟩] v := H;replace F : Fm 34 [] [(27, sc ((β 7).g) 0 ((64 * k) + mm) (β 7).cap), (26, sc ((β 6).g) 0 mm (β 6).cap), (25, sc aq1 0 64 64), (24, sc ga (oa + 64 * k) (n - 64 * k) (cp - 64 * k)), (23, ni (64 * k)), (22, sc r.g 0 (64 * k) r.cap), (21, sc ga oa n cp), (20, sc r.g 0 (64 * k) r.cap), (11, pt aq1 0), (10, pt ob 0), (7, pt tb 0)] a := F.weak _ (subL_of kr)
  have Qh3_0 : Own (oct (xorP (tlD tl k) (bkL key nc k) mm mm)) (β 6).rest (mm) (β 6).cap 1 := Q.1
  have Qh3_1 : Own ((oct (mxP key nc tl ((64 * k)))) ++ (oct (xorP (tlD tl k) (bkL key nc k) mm mm))) (β 7).rest (((64 * k) + mm)) (β 7).cap 1 := Q.2.2.1
  clear Q
  generalize β 6 = rq2 at F H Qh3_0 Qh3_1
  generalize β 7 = rq3 at F H Qh3_0 Qh3_1
  skip
  refine ?_;replace F : Fm 34 [] [(10, pt ob 0), (7, pt tb 0)] a := F.weak _ (subL_of kr);replace H : Hp X w0 [⟨true, lp, mxRec fn tm D .busy none⟩, ⟨true, D, .deferred (some [])⟩, bk ob #[sc rq3.g 0 ((64 * k) + mm) rq3.cap] 54, bk rq3.g (sl ((oct (mxP key nc tl ((64 * k)))) ++ (oct (xorP (tlD tl k) (bkL key nc k) mm mm))) rq3.rest) 5, bk tb #[sc ga oa n cp] 54, bk kb (arrF .u8 32 key) 23, bk cb #[nw k] 53, bk nbk (arrF .u8 12 nc) 121, ⟨false, ga, .cells arr tyl fr⟩] v := H.pick [4, 5, 2, 1, 6, 7, 8, 9, 10] kr _ rfl
  have hc9 : (oct (mxP key nc tl ((64 * k)))) ++ (oct (xorP (tlD tl k) (bkL key nc k) mm mm)) = oct (mxP key nc tl (64 * k + mm)) := (ints_app .u8 _ _).symm.trans (congrArg oct (mx_step key nc tl k hml))
  rw [hc9] at H Qh3_1
  have Qrq3' := Qh3_1
  replace H : Hp X w0 [⟨true, lp, mxRec fn tm D .busy none⟩, ⟨true, D, .deferred (some [])⟩, bk ob #[sc rq3.g 0 (64 * k + mm) rq3.cap] 54, bk rq3.g (sl (oct (mxP key nc tl ((64 * k + mm)))) rq3.rest) 5, bk tb #[sc ga oa n cp] 54, bk kb (arrF .u8 32 key) 23, bk cb #[nw k] 53, bk nbk (arrF .u8 12 nc) 121, ⟨false, ga, .cells arr tyl fr⟩] v := H
  have Qrq3 : Own (oct (mxP key nc tl ((64 * k + mm)))) rq3.rest ((64 * k + mm)) rq3.cap 1 := Qrq3'
  refine hK1 _ _ ?_;clear hK1;refine CI_seqK (fun K2 hK2 => ?_);refine CI_region ?_;refine T_val F H kr (sc rq3.g 0 (64 * k + mm) rq3.cap) (R_cell (own := true) (g := ob) (all := #[sc rq3.g 0 (64 * k + mm) rq3.cap]) (t := 54) (fr := (0, 0)) 2 kr 54 (.tmp 10) rfl 0 kr (sc rq3.g 0 (64 * k + mm) rq3.cap) kr _ Tryd.underlying54 rfl) ?_;clear F; intro a F;refine T_k F H (ni (64 * k + mm)) ?_;clear F; intro a F;refine T_val F H kr (sc ga oa n cp) (R_cell (own := true) (g := tb) (all := #[sc ga oa n cp]) (t := 54) (fr := (0, 0)) 4 kr 54 (.tmp 7) rfl 0 kr (sc ga oa n cp) kr _ Tryd.underlying54 rfl) ?_;clear F; intro a F;refine T_k F H (ni n) ?_;clear F; intro a F;refine T_val F H kr (.bool (decide (64 * k + mm = n))) (fun w _ => R_bin rfl (k := .i64) (a := ((64 * k + mm) : Nat)) (b := (n : Nat)) kr kr i_eqdec w) ?_;clear F; intro a F;refine wpList_nil (hK2 _ _ ?_);clear hK2
  by_cases hcd : 64 * k + mm = n
  · rw [decide_eq_true hcd] at F
    refine CI_if F true rfl rfl ?_;refine wpIn_exit ?_;refine inBx rfl ?_;refine round_out H (k := 0) rfl (fun v H => ?_);refine ⟨false, rfl, .inr ⟨rfl, by omega, rq3, ?_, ?_⟩⟩
    · rw [hcd] at Qrq3; exact Qrq3
    · replace H : Hp X w0 [⟨true, lp, mxRec fn tm D .done (some (.exit 0))⟩, ⟨true, D, .deferred (some [])⟩, bk ob #[sc rq3.g 0 (64 * k + mm) rq3.cap] 54, bk rq3.g (sl (oct (mxP key nc tl ((64 * k + mm)))) rq3.rest) 5, ⟨false, ga, .cells arr tyl fr⟩] v := H.pick [0, 1, 2, 3, 8] kr _ rfl
      rw [hcd] at H
      exact H
  · rw [decide_eq_false hcd] at F
    refine CI_if F false rfl rfl ?_;refine wpIn_skip ?_;refine inBn ?_
    have hm64 : 64 * k + mm = 64 * (k + 1) := by omega
    refine round_on H (k := 0) rfl (fun v H => ?_);refine ⟨true, rfl, .inl ⟨rfl, by omega, rq3, ?_, ?_⟩⟩
    · rw [hm64] at Qrq3; exact Qrq3
    · rw [hm64] at H; exact H

end Go.Proofs.YtdejhenkdbjakaaDoor
