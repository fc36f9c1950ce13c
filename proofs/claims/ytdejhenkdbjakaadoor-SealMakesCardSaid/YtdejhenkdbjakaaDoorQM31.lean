/- YM -/
import Derived.Test.YtdejhenkdbjakaaDoorQM19
import Derived.Test.YtdejhenkdbjakaaDoorQM20
import Derived.Test.YtdejhenkdbjakaaDoorQM29
import Derived.Test.YtdejhenkdbjakaaDoorQM30
set_option linter.unusedVariables false
set_option linter.unusedSimpArgs false
set_option maxRecDepth 100000
set_option maxHeartbeats 4000000
namespace Go.Proofs.YtdejhenkdbjakaaDoor
open Go Go.RowKit
def zN : Nat → Nat := fun _ => 0
theorem LaidS.apart2 {gm n xb : Nat} {C : Array Value} {w : World} (hW : LaidS w) (hm : w.heap[gm]? = some (.cells (mtr n) 91 (0, 0))) (hs : w.heap[xb]? = some (.cells C 136 (0, 0))) : ∀ i, i < 4 → i ∉ [gm, xb] := by
  have a0 := ne_of_ty hW.start hm rfl
  have a1 := ne_of_ty hW.start hs rfl
  have b0 := ne_of_ty hW.rounds hm rfl
  have b1 := ne_of_ty hW.rounds hs rfl
  have c0 := ne_of_ty hW.quarters hm rfl
  have c1 := ne_of_ty hW.quarters hs rfl
  have d0 := ne_of_ty hW.words hm rfl
  have d1 := ne_of_ty hW.words hs rfl
  intro i hi h
  simp only [List.mem_cons, List.not_mem_nil, or_false] at h
  rcases h with rfl | rfl <;> omega
theorem LaidS.apart1 {gm n : Nat} {w : World} (hW : LaidS w) (hm : w.heap[gm]? = some (.cells (mtr n) 91 (0, 0))) : ∀ i, i < 4 → i ∉ [gm] := by
  have a0 := ne_of_ty hW.start hm rfl
  have b0 := ne_of_ty hW.rounds hm rfl
  have c0 := ne_of_ty hW.quarters hm rfl
  have d0 := ne_of_ty hW.words hm rfl
  intro i hi h
  simp only [List.mem_singleton] at h
  omega
theorem RdK.step {X Y : List Nat} {w0 v : World} {L : List Blk} {p : SlP} (h : RdK X w0 p) (H : Hp X w0 L v) (hY : ∀ y ∈ Y, ∃ b ∈ L, b.own = true ∧ b.ad = y) : RdK Y v p := fun w2 k2 =>
  h _ (H.kept.trans (fun y hy => by obtain ⟨b, hb, ho, rfl⟩ := hY y hy; exact H.own b hb ho) k2)
def hidP (key : Nat → Nat) (tl : List Nat) (n : Nat) : List Nat := mxP (hideK key) zN tl n
theorem hidP_len (key : Nat → Nat) (tl : List Nat) (n : Nat) : (hidP key tl n).length = n := mxP_len _ _ _ _
def tagP (key : Nat → Nat) (la lh : List Nat) : Nat → Nat := macK (kl (tagK key)) (highL la.length 8 ++ la ++ lh)

theorem made_any (gm : Nat) (key : Nat → Nat) (w : World) : Calls Tryd.prog 66 #[.pointer (some ⟨gm, 0, none⟩), .agg (arrF .u8 32 key)] w fun e w' => ∃ r : SlR, e = .returned (.pointer (some ⟨r.g, 0, none⟩)) ∧ True ∧ w.heap.size ≤ r.g ∧ w'.heap[r.g]? = some (.cells (mkA gm key 0 0 zN 0 0 zN) 136 (0, 0)) ∧ Kept [] w w' := by
  refine C_enter Tryd.func66 rfl 11 Tryd.ntmps66 (Nat.le_of_ble_eq_true rfl) (fun a F => ?_)
  have H := Hp.start [] w
  replace F : Fm 11 [] [(0, pt gm 0), (1, kyV key)] a := F.weak _ (subL_of kr);refine C_seqK fun K1 hK1 => C_region ?_;refine T_new F H kr (fun ad => pt ad 0) (ce (arrF .u8 32 key) 23) (fun w => kr) ?_;clear F H; intro aq2 a v F H;refine T_k F H (.pointer none) ?_;clear F; intro a F;refine wpList_nil (hK1 _ _ ?_);clear hK1;refine C_seqK fun K3 hK3 => C_region ?_;refine T_k F H (pt gm 0) ?_;clear F; intro a F;refine T_val F H kr (kyV key) (R_load (own := true) (g := aq2) (all := (arrF .u8 32 key)) (t := 23) (fr := (0, 0)) 0 kr 23 (.tmp 3) rfl 0 kr (arrF .u8 32 key) (part_all _) _ Tryd.underlying23 rfl (by rw [arrF_size]; kernel_rfl)) ?_;clear F; intro a F;refine T_k F H (.agg (#[.int .u32 0, .int .i32 0, .int .u32 0, .string ⟨#[104, 105, 100, 101]⟩] ++ arrF .u8 32 zN)) ?_;clear F; intro a F;refine T_k F H (.agg (#[.int .u32 0, .int .i32 0, .int .u32 0, .string ⟨#[116, 97, 103]⟩] ++ arrF .u8 32 zN)) ?_;clear F; intro a F;refine T_k F H (.agg (mkA gm key 0 0 zN 0 0 zN)) ?_;clear F; intro a F;refine T_new F H kr (fun ad => pt ad 0) (ce (mkA gm key 0 0 zN 0 0 zN) 136) (fun w => kr) ?_;clear F H; intro aq4 a v F H;refine T_k F H (pt aq4 0) ?_;clear F; intro a F;refine wpList_nil (hK3 _ _ ?_);clear hK3;refine wp_ret ?_
  exact C_ret F H (rs := [.tmp 4]) rfl (vs := [pt aq4 0]) (.tmp rfl .nil) (pt aq4 0) rfl ⟨⟨aq4, 0, [], 0⟩, rfl, trivial, (H.own _ (List.mem_of_getElem? (i := 0) rfl) rfl).resolve_right List.not_mem_nil, H.at_ (k := 0) rfl, H.kept⟩

theorem mmix_some (gm n xb : Nat) (key : Nat → Nat) (hkey : ∀ i, i < 32 → key i < 256) (kx : Nat → Nat) (d2 l2 : Int) (k2 : Nat → Nat) (tl : List Nat) (htl : ∀ x ∈ tl, x < 256) (ga oa nt cp : Nat) (arr : Array Value) (tyl : TypeId) (fr : Nat × Nat) (harr : ∀ j, j < nt → arr[oa + j]? = some (.int .u8 (tl.getD j 0 : Nat))) (h0 : 0 < nt) (hn : nt ≤ 4000) (hcp : nt ≤ cp) (hg1 : ga ≠ gm) (hg2 : ga ≠ xb) (w : World) (hW : LaidS w) (hm : w.heap[gm]? = some (.cells (mtr n) 91 (0, 0))) (hs : w.heap[xb]? = some (.cells (mkA gm key 0 0 kx d2 l2 k2) 136 (0, 0))) (hga : w.heap[ga]? = some (.cells arr tyl fr)) : Calls Tryd.prog 68 #[.pointer (some ⟨xb, 0, none⟩), .slice (some ⟨ga, oa, none⟩) nt cp] w fun e w' => ∃ r : SlR, e = .returned (.slice (some ⟨r.g, 0, none⟩) nt r.cap) ∧ Own (oct (hidP key tl nt)) r.rest nt r.cap 1 ∧ w.heap.size ≤ r.g ∧ w'.heap[r.g]? = some (.cells (sl (oct (hidP key tl nt)) r.rest) 5 (0, 0)) ∧ Kept [gm, xb] w w' ∧ w'.heap[gm]? = some (.cells (mtr r.n) 91 (0, 0)) ∧ w'.heap[xb]? = some (.cells (mkA gm key 1 0 (hideK key) d2 l2 k2) 136 (0, 0)) := by
  have hap := hW.apart2 hm hs
  refine C_enter Tryd.func68 rfl 26 Tryd.ntmps68 (Nat.le_of_ble_eq_true rfl) (fun a F => ?_)
  have H : Hp [gm, xb] w [bk gm (mtr n) 91, bk xb (mkA gm key 0 0 kx d2 l2 k2) 136, ⟨false, ga, .cells arr tyl fr⟩] w := Hp.start3 hm hs hga (ne_of_ty hm hs rfl) (Ne.symm hg1) (Ne.symm hg2)
  replace F : Fm 26 [] [(0, pt xb 0), (1, sc ga oa nt cp)] a := F.weak _ (subL_of kr);refine C_seqK fun K1 hK1 => C_region ?_;refine T_k F H (.slice none 0 0) ?_;clear F; intro a F;refine wpList_nil (hK1 _ _ ?_);clear hK1;refine C_seqK (fun K2 hK2 => ?_);refine E_region F H (fun β => [(8, pt xb 0), (9, pt xb 0), (10, pt xb 33), (11, pt xb 0), (12, pt xb 0), (13, pt xb 0), (14, pt gm 0), (15, pt xb 0), (16, pt xb 0), (17, pt xb 1), (18, kyV key), (19, kyV (hideK key)), (20, .agg (arrF .u8 12 zN)), (21, sc ga oa nt cp), (22, .tuple #[sc ((β 14).g) 0 nt (β 14).cap, ni 0]), (7, .tuple #[sc ((β 14).g) 0 nt (β 14).cap, ni 0]), (23, sc ((β 14).g) 0 nt (β 14).cap), (24, ni 0), (5, sc ((β 14).g) 0 nt (β 14).cap), (6, ni 0)]) [8, 9, 10, 11, 12, 13, 14, 15, 16, 17, 18, 19, 20, 21, 22, 7, 23, 24, 5, 6] [⟨some 14, none, 0, [14], fun q_ => ce (sl (oct (hidP key tl nt)) (gh q_ 0).rest) 5, fun q_ => Own (oct (hidP key tl nt)) (gh q_ 0).rest (nt) (gh q_ 0).cap 1, []⟩,
    ⟨none, none, gm, [], fun q_ => ce (mtr n) 91, gT, [⟨11, [11], fun q_ => ce (mtr (gh q_ 0).n) 91, gT⟩]⟩,
    ⟨none, none, xb, [], fun q_ => ce (mkA gm key 0 0 kx d2 l2 k2) 136, gT, [⟨11, [], fun q_ => ce (mkA gm key 1 0 (hideK key) d2 l2 k2) 136, gT⟩]⟩] [⟨false, ga, .cells arr tyl fr⟩] [0, 1, 2] 2 [] kr kr kr (fun β => rfl) ⟨fun h _ => Bool.noConfusion h, ⟨fun _ _ => trivial, ⟨fun _ _ => trivial, trivial⟩⟩⟩ ⟨?_, ?_, ?_, ?_, ?_, ?_, ?_, ?_, ?_, ?_, ?_, ?_, ?_, ?_, ?_, ?_, ?_, ?_, ?_, ?_, trivial⟩ ?_
  · exact E_k 26 (fun β => pt xb 0) 8 2
  · exact E_k 26 (fun β => pt xb 0) 9 2
  · exact E_k 26 (fun β => pt xb 33) 10 2
  · exact E_k 26 (fun β => pt xb 0) 11 2
  · exact E_k 26 (fun β => pt xb 0) 12 2
  · exact E_k 26 (fun β => pt xb 0) 13 2
  · exact E_v 26 (fun β => pt gm 0) 14 2 [(2, 0)] (fun β w hk hl hq => R_cellH hl (own := true) (g := xb) (all := (mkA gm key 0 0 kx d2 l2 k2)) (t := 136) (fr := (0, 0)) 0 kr 27 (.tmp 13) rfl 0 kr (pt gm 0) kr _ Tryd.underlying27 rfl)
  · exact E_k 26 (fun β => pt xb 0) 15 2
  · exact E_k 26 (fun β => pt xb 0) 16 2
  · exact E_k 26 (fun β => pt xb 1) 17 2
  · exact E_v 26 (fun β => kyV key) 18 2 [(2, 0)] (fun β w hk hl hq => R_loadH hl (own := true) (g := xb) (all := (mkA gm key 0 0 kx d2 l2 k2)) (t := 136) (fr := (0, 0)) 0 kr 23 (.tmp 17) rfl 1 kr (arrF .u8 32 key) (part_ext kr) _ Tryd.underlying23 rfl kr)
  · exact E_callPP 26 kq (fun β => kyV (hideK key)) 19 rfl kq 2 (fun β r => offAt2_of kr kr) 89 (fun β => #[pt xb 33, pt gm 0, kyV key]) (fun β w => kr) 2 [] 1 0 1 0 _ _ _ _ rfl rfl rfl rfl kr kr rfl (fun β w hk hl hq hm hm2 => (lzOf_hide gm n xb key hkey d2 l2 k2 kx _ (hW.keptS hk hap).toLaid hm hm2).mono (fun _ _ ⟨r, q1, q2, q3⟩ => ⟨r, q1, q2, trivial, q3⟩))
  · exact E_k 26 (fun β => .agg (arrF .u8 12 zN)) 20 2
  · exact E_k 26 (fun β => sc ga oa nt cp) 21 2
  · exact E_callS 26 kq (fun β => .tuple #[sc ((β 14).g) 0 nt (β 14).cap, ni 0]) 22 rfl kq 2 (fun β r => offAt2_of kr kr) 91 (fun β => #[kyV (hideK key), nw 0, .agg (arrF .u8 12 zN), sc ga oa nt cp]) (fun β w => kr) 2 [] 0 _ rfl kr kr rfl (fun β w hk hl hq => mix_some (hideK key) (hideK_lt key) zN (fun _ => (by decide : 0 < 256)) tl htl ga oa nt cp arr tyl fr harr h0 hn hcp _ (hW.keptS hk hap) (hl.at_ (k := 0) rfl))
  · exact E_k 26 (fun β => .tuple #[sc ((β 14).g) 0 nt (β 14).cap, ni 0]) 7 2
  · exact E_k 26 (fun β => sc ((β 14).g) 0 nt (β 14).cap) 23 2
  · exact E_k 26 (fun β => ni 0) 24 2
  · exact E_k 26 (fun β => sc ((β 14).g) 0 nt (β 14).cap) 5 2
  · exact E_k 26 (fun β => ni 0) 6 2
  clear F H; intro β a v Q F H;replace H : Hp [gm, xb] w [bk ((β 14).g) (sl (oct (hidP key tl nt)) (β 14).rest) 5, bk gm (mtr (β 11).n) 91, bk xb (mkA gm key 1 0 (hideK key) d2 l2 k2) 136, ⟨false, ga, .cells arr tyl fr⟩] v := H;replace F : Fm 26 [] [(6, ni 0), (5, sc ((β 14).g) 0 nt (β 14).cap), (24, ni 0), (23, sc ((β 14).g) 0 nt (β 14).cap), (7, .tuple #[sc ((β 14).g) 0 nt (β 14).cap, ni 0]), (22, .tuple #[sc ((β 14).g) 0 nt (β 14).cap, ni 0]), (21, sc ga oa nt cp), (20, .agg (arrF .u8 12 zN)), (19, kyV (hideK key)), (18, kyV key), (17, pt xb 1), (16, pt xb 0), (15, pt xb 0), (14, pt gm 0), (13, pt xb 0), (12, pt xb 0), (11, pt xb 0), (10, pt xb 33), (9, pt xb 0), (8, pt xb 0), (4, .slice none 0 0), (0, pt xb 0), (1, sc ga oa nt cp)] a := F.weak _ (subL_of kr)
  have Qh4_0 : Own (oct (hidP key tl nt)) (β 14).rest (nt) (β 14).cap 1 := Q.1
  clear Q
  generalize β 14 = rq3 at F H Qh4_0
  generalize β 11 = rq4 at F H Qh4_0
  skip
  refine ?_;refine hK2 _ _ ?_;clear hK2;refine C_seqK fun K5 hK5 => C_region ?_;refine T_k F H (sc rq3.g 0 nt rq3.cap) ?_;clear F; intro a F;refine T_k F H (sc rq3.g 0 nt rq3.cap) ?_;clear F; intro a F;refine wpList_nil (hK5 _ _ ?_);clear hK5;refine wp_ret ?_
  exact C_ret F H (rs := [.tmp 4]) rfl (vs := [sc rq3.g 0 nt rq3.cap]) (.tmp rfl .nil) (sc rq3.g 0 nt rq3.cap) rfl ⟨⟨rq3.g, rq3.cap, rq3.rest, rq4.n⟩, rfl, Qh4_0, (H.own _ (List.mem_of_getElem? (i := 0) rfl) rfl).resolve_right (fun hh => by have e1 := H.apart (i := 0) (j := 1) rfl rfl (by decide); have e2 := H.apart (i := 0) (j := 2) rfl rfl (by decide); simp only [List.mem_cons, List.not_mem_nil, or_false] at hh; exact hh.elim e1 e2), H.at_ (k := 0) rfl, H.kept, H.at_ (k := 1) rfl, H.at_ (k := 2) rfl⟩

theorem mmix_none (gm n xb : Nat) (key : Nat → Nat) (hkey : ∀ i, i < 32 → key i < 256) (kx : Nat → Nat) (d2 l2 : Int) (k2 : Nat → Nat) (ad : Option Addr) (cp : Nat) (w : World) (hW : LaidS w) (hm : w.heap[gm]? = some (.cells (mtr n) 91 (0, 0))) (hs : w.heap[xb]? = some (.cells (mkA gm key 0 0 kx d2 l2 k2) 136 (0, 0))) : Calls Tryd.prog 68 #[.pointer (some ⟨xb, 0, none⟩), .slice ad 0 cp] w fun e w' => ∃ r : SlR, e = .returned (.slice none 0 0) ∧ True ∧ Kept [gm, xb] w w' ∧ w'.heap[gm]? = some (.cells (mtr r.n) 91 (0, 0)) ∧ w'.heap[xb]? = some (.cells (mkA gm key 1 0 (hideK key) d2 l2 k2) 136 (0, 0)) := by
  have hap := hW.apart2 hm hs
  refine C_enter Tryd.func68 rfl 26 Tryd.ntmps68 (Nat.le_of_ble_eq_true rfl) (fun a F => ?_)
  have H : Hp [gm, xb] w [bk gm (mtr n) 91, bk xb (mkA gm key 0 0 kx d2 l2 k2) 136] w := Hp.startGS hm hs (ne_of_ty hm hs rfl)
  replace F : Fm 26 [] [(0, pt xb 0), (1, .slice ad 0 cp)] a := F.weak _ (subL_of kr);refine C_seqK fun K1 hK1 => C_region ?_;refine T_k F H (.slice none 0 0) ?_;clear F; intro a F;refine wpList_nil (hK1 _ _ ?_);clear hK1;refine C_seqK (fun K2 hK2 => ?_);refine E_region F H (fun β => [(8, pt xb 0), (9, pt xb 0), (10, pt xb 33), (11, pt xb 0), (12, pt xb 0), (13, pt xb 0), (14, pt gm 0), (15, pt xb 0), (16, pt xb 0), (17, pt xb 1), (18, kyV key), (19, kyV (hideK key)), (20, .agg (arrF .u8 12 zN)), (21, .slice ad 0 cp), (22, .tuple #[.slice none 0 0, ni 0]), (7, .tuple #[.slice none 0 0, ni 0]), (23, .slice none 0 0), (24, ni 0), (5, .slice none 0 0), (6, ni 0)]) [8, 9, 10, 11, 12, 13, 14, 15, 16, 17, 18, 19, 20, 21, 22, 7, 23, 24, 5, 6] [⟨none, none, gm, [], fun q_ => ce (mtr n) 91, gT, [⟨11, [11], fun q_ => ce (mtr (gh q_ 0).n) 91, gT⟩]⟩,
    ⟨none, none, xb, [], fun q_ => ce (mkA gm key 0 0 kx d2 l2 k2) 136, gT, [⟨11, [], fun q_ => ce (mkA gm key 1 0 (hideK key) d2 l2 k2) 136, gT⟩]⟩] [] [0, 1] 2 [] kr kr kr (fun β => rfl) ⟨fun _ _ => trivial, ⟨fun _ _ => trivial, trivial⟩⟩ ⟨?_, ?_, ?_, ?_, ?_, ?_, ?_, ?_, ?_, ?_, ?_, ?_, ?_, ?_, ?_, ?_, ?_, ?_, ?_, ?_, trivial⟩ ?_
  · exact E_k 26 (fun β => pt xb 0) 8 2
  · exact E_k 26 (fun β => pt xb 0) 9 2
  · exact E_k 26 (fun β => pt xb 33) 10 2
  · exact E_k 26 (fun β => pt xb 0) 11 2
  · exact E_k 26 (fun β => pt xb 0) 12 2
  · exact E_k 26 (fun β => pt xb 0) 13 2
  · exact E_v 26 (fun β => pt gm 0) 14 2 [(1, 0)] (fun β w hk hl hq => R_cellH hl (own := true) (g := xb) (all := (mkA gm key 0 0 kx d2 l2 k2)) (t := 136) (fr := (0, 0)) 0 kr 27 (.tmp 13) rfl 0 kr (pt gm 0) kr _ Tryd.underlying27 rfl)
  · exact E_k 26 (fun β => pt xb 0) 15 2
  · exact E_k 26 (fun β => pt xb 0) 16 2
  · exact E_k 26 (fun β => pt xb 1) 17 2
  · exact E_v 26 (fun β => kyV key) 18 2 [(1, 0)] (fun β w hk hl hq => R_loadH hl (own := true) (g := xb) (all := (mkA gm key 0 0 kx d2 l2 k2)) (t := 136) (fr := (0, 0)) 0 kr 23 (.tmp 17) rfl 1 kr (arrF .u8 32 key) (part_ext kr) _ Tryd.underlying23 rfl kr)
  · exact E_callPP 26 kq (fun β => kyV (hideK key)) 19 rfl kq 2 (fun β r => offAt2_of kr kr) 89 (fun β => #[pt xb 33, pt gm 0, kyV key]) (fun β w => kr) 2 [] 0 0 0 0 _ _ _ _ rfl rfl rfl rfl kr kr rfl (fun β w hk hl hq hm hm2 => (lzOf_hide gm n xb key hkey d2 l2 k2 kx _ (hW.keptS hk hap).toLaid hm hm2).mono (fun _ _ ⟨r, q1, q2, q3⟩ => ⟨r, q1, q2, trivial, q3⟩))
  · exact E_k 26 (fun β => .agg (arrF .u8 12 zN)) 20 2
  · exact E_k 26 (fun β => .slice ad 0 cp) 21 2
  · exact E_call 26 kq (fun β => .tuple #[.slice none 0 0, ni 0]) 22 rfl kq 91 (fun β => #[kyV (hideK key), nw 0, .agg (arrF .u8 12 zN), .slice ad 0 cp]) (fun β w => kr) 2 [] kr rfl (fun β w hk hl hq => mix_none (hideK key) (hideK_lt key) zN (fun _ => (by decide : 0 < 256)) ad cp _ (hW.keptS hk hap))
  · exact E_k 26 (fun β => .tuple #[.slice none 0 0, ni 0]) 7 2
  · exact E_k 26 (fun β => .slice none 0 0) 23 2
  · exact E_k 26 (fun β => ni 0) 24 2
  · exact E_k 26 (fun β => .slice none 0 0) 5 2
  · exact E_k 26 (fun β => ni 0) 6 2
  clear F H; intro β a v Q F H;replace H : Hp [gm, xb] w [bk gm (mtr (β 11).n) 91, bk xb (mkA gm key 1 0 (hideK key) d2 l2 k2) 136] v := H;replace F : Fm 26 [] [(6, ni 0), (5, .slice none 0 0), (24, ni 0), (23, .slice none 0 0), (7, .tuple #[.slice none 0 0, ni 0]), (22, .tuple #[.slice none 0 0, ni 0]), (21, .slice ad 0 cp), (20, .agg (arrF .u8 12 zN)), (19, kyV (hideK key)), (18, kyV key), (17, pt xb 1), (16, pt xb 0), (15, pt xb 0), (14, pt gm 0), (13, pt xb 0), (12, pt xb 0), (11, pt xb 0), (10, pt xb 33), (9, pt xb 0), (8, pt xb 0), (4, .slice none 0 0), (0, pt xb 0), (1, .slice ad 0 cp)] a := F.weak _ (subL_of kr);clear Q
  generalize β 11 = rq3 at F H
  skip
  refine ?_;refine hK2 _ _ ?_;clear hK2;refine C_seqK fun K4 hK4 => C_region ?_;refine T_k F H (.slice none 0 0) ?_;clear F; intro a F;refine T_k F H (.slice none 0 0) ?_;clear F; intro a F;refine wpList_nil (hK4 _ _ ?_);clear hK4;refine wp_ret ?_
  exact C_ret F H (rs := [.tmp 4]) rfl (vs := [.slice none 0 0]) (.tmp rfl .nil) (.slice none 0 0) rfl ⟨⟨0, 0, [], rq3.n⟩, rfl, trivial, H.kept, H.at_ (k := 0) rfl, H.at_ (k := 1) rfl⟩

theorem msumx_any (gm n xb : Nat) (key : Nat → Nat) (hkey : ∀ i, i < 32 → key i < 256) (kx : Nat → Nat) (d1 l1 : Int) (k1 : Nat → Nat) (pa ph : SlP) (hba : ∀ x ∈ pa.l, x < 256) (hna : pa.l.length = pa.n) (hla : pa.n ≤ 4000) (hbh : ∀ x ∈ ph.l, x < 256) (hnh : ph.l.length = ph.n) (hlh : ph.n ≤ 4000) (w : World) (hW : LaidS w) (hm : w.heap[gm]? = some (.cells (mtr n) 91 (0, 0))) (hs : w.heap[xb]? = some (.cells (mkA gm key d1 l1 k1 0 0 kx) 136 (0, 0))) (hrda : RdK [gm, xb] w pa) (hrdh : RdK [gm, xb] w ph) : Calls Tryd.prog 67 #[.pointer (some ⟨xb, 0, none⟩), .slice pa.ad pa.n pa.c, .slice ph.ad ph.n ph.c] w fun e w' => ∃ r : SlR, e = .returned (.agg (arrF .u8 32 (tagP key pa.l ph.l))) ∧ True ∧ Kept [gm, xb] w w' ∧ w'.heap[gm]? = some (.cells (mtr r.n) 91 (0, 0)) ∧ w'.heap[xb]? = some (.cells (mkA gm key d1 l1 k1 1 0 (tagK key)) 136 (0, 0)) := by
  have hap := hW.apart2 hm hs
  obtain ⟨kf, hkf⟩ : ∃ kf, kf = tagP key pa.l ph.l := ⟨_, rfl⟩
  rw [← hkf]
  unfold tagP at hkf
  refine C_enter Tryd.func67 rfl 33 Tryd.ntmps67 (Nat.le_of_ble_eq_true rfl) (fun a F => ?_)
  have H := Hp.startT (X := [gm, xb]) (L := [bk gm (mtr n) 91, bk xb (mkA gm key d1 l1 k1 0 0 kx) 136]) ⟨hm, hs, trivial⟩ (by simp) kr
  replace F : Fm 33 [] [(0, pt xb 0), (1, .slice pa.ad pa.n pa.c), (2, .slice ph.ad ph.n ph.c)] a := F.weak _ (subL_of kr);refine C_seqK fun K1 hK1 => C_region ?_;refine T_new F H kr (fun ad => pt ad 0) (ce z8 23) (fun w => kr) ?_;clear F H; intro aq2 a v F H;refine wpList_nil (hK1 _ _ ?_);clear hK1;refine C_seqK (fun K3 hK3 => ?_);refine E_region F H (fun β => [(8, pt xb 0), (9, pt xb 0), (10, pt xb 69), (11, pt xb 0), (12, pt xb 0), (13, pt xb 0), (14, pt gm 0), (15, pt xb 0), (16, pt xb 0), (17, pt xb 1), (18, kyV key), (19, kyV (tagK key)), (7, pt ((β 12).g) 0)]) [8, 9, 10, 11, 12, 13, 14, 15, 16, 17, 18, 19, 7] [⟨some 12, none, 0, [], fun q_ => ce z8 23, gT, [⟨13, [], fun q_ => ce (arrF .u8 32 (tagK key)) 23, gT⟩]⟩,
    ⟨none, none, gm, [], fun q_ => ce (mtr n) 91, gT, [⟨11, [11], fun q_ => ce (mtr (gh q_ 0).n) 91, gT⟩]⟩,
    ⟨none, none, xb, [], fun q_ => ce (mkA gm key d1 l1 k1 0 0 kx) 136, gT, [⟨11, [], fun q_ => ce (mkA gm key d1 l1 k1 1 0 (tagK key)) 136, gT⟩]⟩] [bk aq2 z8 23] [1, 2, 0] 2 [] kr kr kr (fun β => rfl) ⟨fun h _ => Bool.noConfusion h, ⟨fun _ _ => trivial, ⟨fun _ _ => trivial, trivial⟩⟩⟩ ⟨?_, ?_, ?_, ?_, ?_, ?_, ?_, ?_, ?_, ?_, ?_, ?_, ?_, ?_, trivial⟩ ?_
  · exact E_k 33 (fun β => pt xb 0) 8 2
  · exact E_k 33 (fun β => pt xb 0) 9 2
  · exact E_k 33 (fun β => pt xb 69) 10 2
  · exact E_k 33 (fun β => pt xb 0) 11 2
  · exact E_k 33 (fun β => pt xb 0) 12 2
  · exact E_k 33 (fun β => pt xb 0) 13 2
  · exact E_v 33 (fun β => pt gm 0) 14 2 [(2, 0)] (fun β w hk hl hq => R_cellH hl (own := true) (g := xb) (all := (mkA gm key d1 l1 k1 0 0 kx)) (t := 136) (fr := (0, 0)) 0 kr 27 (.tmp 13) rfl 0 kr (pt gm 0) kr _ Tryd.underlying27 rfl)
  · exact E_k 33 (fun β => pt xb 0) 15 2
  · exact E_k 33 (fun β => pt xb 0) 16 2
  · exact E_k 33 (fun β => pt xb 1) 17 2
  · exact E_v 33 (fun β => kyV key) 18 2 [(2, 0)] (fun β w hk hl hq => R_loadH hl (own := true) (g := xb) (all := (mkA gm key d1 l1 k1 0 0 kx)) (t := 136) (fr := (0, 0)) 0 kr 23 (.tmp 17) rfl 1 kr (arrF .u8 32 key) (part_ext kr) _ Tryd.underlying23 rfl kr)
  · exact E_callPP 33 kq (fun β => kyV (tagK key)) 19 rfl kq 2 (fun β r => offAt2_of kr kr) 89 (fun β => #[pt xb 69, pt gm 0, kyV key]) (fun β w => kr) 2 [] 1 0 1 0 _ _ _ _ rfl rfl rfl rfl kr kr rfl (fun β w hk hl hq hm hm2 => (lzOf_tag gm n xb key hkey d1 l1 k1 kx _ (hW.keptS hk hap).toLaid hm hm2).mono (fun _ _ ⟨r, q1, q2, q3⟩ => ⟨r, q1, q2, trivial, q3⟩))
  · exact E_new 33 kq (fun β => pt ((β 12).g) 0) 7 rfl kq 2 (fun β r => offAt2_of kr kr) 2 [] 0 _ rfl kr kr rfl (fun β w hk hl hq => ⟨⟨w.heap.size, 0, [], 0⟩, _, (show (execOp _ _).run _ w = .ok (.value (pt w.heap.size 0)) (w.alloc (ce z8 23)) from kr), trivial, Nat.le_refl _, heap_alloc_new _ _, Kept.alloc _ _⟩)
  · exact E_store 33 kq rfl 2 [] 0 0 _ _ rfl rfl kr rfl (fun _ => trivial) (fun β w hk hl hq hm => let ⟨w', h1, h2, h3⟩ := P_row (cs := (arrF .u8 32 (tagK key))) (old := z8) rfl rfl (ty := 23) rfl kr kr (by rw [arrF_size]; kernel_rfl) (by rw [arrF_size]; kernel_rfl) (arrF_one _ _ _) hm; ⟨w', h1, h2, h3⟩)
  clear F H; intro β a v Q F H;replace H : Hp [gm, xb] w [bk ((β 12).g) (arrF .u8 32 (tagK key)) 23, bk gm (mtr (β 11).n) 91, bk xb (mkA gm key d1 l1 k1 1 0 (tagK key)) 136, bk aq2 z8 23] v := H;replace F : Fm 33 [] [(7, pt ((β 12).g) 0), (19, kyV (tagK key)), (18, kyV key), (17, pt xb 1), (16, pt xb 0), (15, pt xb 0), (14, pt gm 0), (13, pt xb 0), (12, pt xb 0), (11, pt xb 0), (10, pt xb 69), (9, pt xb 0), (8, pt xb 0), (6, pt aq2 0), (0, pt xb 0), (1, .slice pa.ad pa.n pa.c), (2, .slice ph.ad ph.n ph.c)] a := F.weak _ (subL_of kr);clear Q
  generalize β 12 = rq4 at F H
  generalize β 11 = rq5 at F H
  skip
  refine ?_;refine hK3 _ _ ?_;clear hK3;refine C_seqK (fun K6 hK6 => ?_);refine E_region F H (fun β => [(20, pt xb 0), (21, pt xb 0), (22, pt xb 0), (23, pt gm 0), (24, sc rq4.g 0 32 32), (25, .slice pa.ad pa.n pa.c), (26, ni pa.n), (27, nu pa.n), (28, sc ((β 8).g) 0 8 (β 8).cap), (29, .slice pa.ad pa.n pa.c), (30, .slice ph.ad ph.n ph.c), (31, sc ((β 11).g) 0 3 3), (32, kyV kf)]) [20, 21, 22, 23, 24, 25, 26, 27, 28, 29, 30, 31, 32] [⟨some 8, none, 0, [8], fun q_ => ce (sl (oct (highL pa.n 8)) (gh q_ 0).rest) 5, fun q_ => Own (oct (highL pa.n 8)) (gh q_ 0).rest (8) (gh q_ 0).cap 1, []⟩,
    ⟨some 11, none, 0, [8], fun q_ => ce #[sc ((gh q_ 0).g) 0 8 (gh q_ 0).cap, .slice pa.ad pa.n pa.c, .slice ph.ad ph.n ph.c] 54, gT, []⟩,
    ⟨none, none, gm, [], fun q_ => ce (mtr rq5.n) 91, gT, [⟨12, [12], fun q_ => ce (mtr (gh q_ 0).n) 91, gT⟩]⟩,
    ⟨none, none, aq2, [], fun q_ => ce z8 23, gT, [⟨13, [], fun q_ => ce (arrF .u8 32 kf) 23, gT⟩]⟩] [bk rq4.g (arrF .u8 32 (tagK key)) 23, bk xb (mkA gm key d1 l1 k1 1 0 (tagK key)) 136] [1, 3, 0, 2] 2 [] kr kr kr (fun β => rfl) ⟨fun h _ => Bool.noConfusion h, ⟨fun h _ => Bool.noConfusion h, ⟨fun _ _ => trivial, ⟨fun _ _ => trivial, trivial⟩⟩⟩⟩ ⟨?_, ?_, ?_, ?_, ?_, ?_, ?_, ?_, ?_, ?_, ?_, ?_, ?_, ?_, trivial⟩ ?_
  · exact E_k 33 (fun β => pt xb 0) 20 2
  · exact E_k 33 (fun β => pt xb 0) 21 2
  · exact E_k 33 (fun β => pt xb 0) 22 2
  · exact E_v 33 (fun β => pt gm 0) 23 2 [] (fun β w hk hl hq => R_cellH hl (own := true) (g := xb) (all := (mkA gm key d1 l1 k1 1 0 (tagK key))) (t := 136) (fr := (0, 0)) 1 kr 27 (.tmp 22) rfl 0 kr (pt gm 0) kr _ Tryd.underlying27 rfl)
  · exact E_k 33 (fun β => sc rq4.g 0 32 32) 24 2
  · exact E_k 33 (fun β => .slice pa.ad pa.n pa.c) 25 2
  · exact E_k 33 (fun β => ni pa.n) 26 2
  · exact E_v 33 (fun β => nu pa.n) 27 2 [] (fun β w hk hl hq => R_conv rfl (k0 := .i64) kr kr (k := .i64) (a := (pa.n : Nat)) kr (wru64 (a := pa.n) (by omega)) w)
  · exact E_callS 33 kq (fun β => sc ((β 8).g) 0 8 (β 8).cap) 28 rfl kq 2 (fun β r => offAt2_of kr kr) 49 (fun β => #[nu pa.n, ni 8]) (fun β w => kr) 2 [] 0 _ rfl kr kr rfl (fun β w hk hl hq => high_any pa.n 8 (by decide) (by decide) _)
  · exact E_k 33 (fun β => .slice pa.ad pa.n pa.c) 29 2
  · exact E_k 33 (fun β => .slice ph.ad ph.n ph.c) 30 2
  · exact E_new 33 kq (fun β => sc ((β 11).g) 0 3 3) 31 rfl kq 2 (fun β r => offAt2_of kr kr) 2 [] 1 _ rfl kr kr rfl (fun β w hk hl hq => ⟨⟨w.heap.size, 0, [], 0⟩, _, (R_buildS (len := 3) rfl Tryd.underlying30 (#[sc ((β 8).g) 0 8 (β 8).cap, .slice pa.ad pa.n pa.c, .slice ph.ad ph.n ph.c]) kr w), trivial, Nat.le_refl _, heap_alloc_new _ _, Kept.alloc _ _⟩)
  · exact E_callP 33 kq (fun β => kyV kf) 32 rfl kq 2 (fun β r => offAt2_of kr kr) 90 (fun β => #[pt gm 0, sc rq4.g 0 32 32, sc ((β 11).g) 0 3 3]) (fun β w => kr) 2 [(0, 0), (1, 0)] 2 0 _ _ rfl rfl kr kr rfl (fun β w hk hl hq hm => (macsum_to gm rq5.n ⟨some ⟨rq4.g, 0, none⟩, 32, 32, kl (tagK key)⟩ (kl_lt (fun i _ => tagK_lt key i)) (kl_len _) (by show 32 ≤ 64; omega) [⟨some ⟨(β 8).g, 0, none⟩, 8, (β 8).cap, highL pa.n 8⟩, pa, ph] (highL pa.l.length 8 ++ pa.l ++ ph.l) (by show highL pa.n 8 ++ (pa.l ++ (ph.l ++ [])) = _; rw [hna, List.append_nil, List.append_assoc]) ⟨by simp only [List.length_append, highL_len]; omega, by simp only [List.length_append, highL_len]; omega, by simp⟩ _ _ (#[sc ((β 8).g) 0 8 (β 8).cap, .slice pa.ad pa.n pa.c, .slice ph.ad ph.n ph.c]) _ kr _ ⟨(RdS.all (hl.at_ (k := 0) rfl) (Own.le hq.1.1)), (highL_len _ _), ⟨(hrda _ hk), hna, ⟨(hrdh _ hk), hnh, trivial⟩⟩⟩ (hl.at_ (k := 1) rfl) (RdS.of (hl.at_ (k := 2) rfl) (Nat.le_refl _) (rd_key _)) (fun x hx => (List.mem_append.1 hx).elim (fun h => (List.mem_append.1 h).elim (highL_lt _ _ x) (hba x)) (hbh x)) (hW.keptS hk hap).toLaid hm).mono (fun _ _ ⟨r, q1, q2, q3⟩ => ⟨r, by rw [q1, hkf], trivial, q3⟩))
  · exact E_store 33 kq rfl 2 [] 3 0 _ _ rfl rfl kr rfl (fun _ => trivial) (fun β w hk hl hq hm => let ⟨w', h1, h2, h3⟩ := P_row (cs := (arrF .u8 32 kf)) (old := z8) rfl rfl (ty := 23) rfl kr kr (by rw [arrF_size]; kernel_rfl) (by rw [arrF_size]; kernel_rfl) (arrF_one _ _ _) hm; ⟨w', h1, h2, h3⟩)
  clear F H; intro β a v Q F H;replace H : Hp [gm, xb] w [bk ((β 8).g) (sl (oct (highL pa.n 8)) (β 8).rest) 5, bk ((β 11).g) #[sc ((β 8).g) 0 8 (β 8).cap, .slice pa.ad pa.n pa.c, .slice ph.ad ph.n ph.c] 54, bk gm (mtr (β 12).n) 91, bk aq2 (arrF .u8 32 kf) 23, bk rq4.g (arrF .u8 32 (tagK key)) 23, bk xb (mkA gm key d1 l1 k1 1 0 (tagK key)) 136] v := H;replace F : Fm 33 [] [(32, kyV kf), (31, sc ((β 11).g) 0 3 3), (30, .slice ph.ad ph.n ph.c), (29, .slice pa.ad pa.n pa.c), (28, sc ((β 8).g) 0 8 (β 8).cap), (27, nu pa.n), (26, ni pa.n), (25, .slice pa.ad pa.n pa.c), (24, sc rq4.g 0 32 32), (23, pt gm 0), (22, pt xb 0), (21, pt xb 0), (20, pt xb 0), (7, pt rq4.g 0), (19, kyV (tagK key)), (18, kyV key), (17, pt xb 1), (16, pt xb 0), (15, pt xb 0), (14, pt gm 0), (13, pt xb 0), (12, pt xb 0), (11, pt xb 0), (10, pt xb 69), (9, pt xb 0), (8, pt xb 0), (6, pt aq2 0), (0, pt xb 0), (1, .slice pa.ad pa.n pa.c), (2, .slice ph.ad ph.n ph.c)] a := F.weak _ (subL_of kr)
  have Qh9_0 : Own (oct (highL pa.n 8)) (β 8).rest (8) (β 8).cap 1 := Q.1
  clear Q
  generalize β 8 = rq7 at F H Qh9_0
  generalize β 11 = rq8 at F H Qh9_0
  generalize β 12 = rq9 at F H Qh9_0
  skip
  refine ?_;refine hK6 _ _ ?_;clear hK6;refine wp_ret ?_
  exact C_ret F H (rs := [.cell 6 23]) rfl (vs := [kyV kf]) (.row 3 rfl rfl _ Tryd.underlying23 rfl kr .nil) (kyV kf) rfl ⟨⟨0, 0, [], rq9.n⟩, rfl, trivial, H.kept, H.at_ (k := 2) rfl, H.at_ (k := 5) rfl⟩

end Go.Proofs.YtdejhenkdbjakaaDoor
