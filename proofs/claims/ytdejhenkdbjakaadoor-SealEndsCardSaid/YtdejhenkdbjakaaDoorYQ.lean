/- Walks: law05's examples. -/
import Derived.Test.YtdejhenkdbjakaaDoorEC
import Derived.Test.YtdejhenkdbjakaaDoorYO
import Derived.Test.YtdejhenkdbjakaaDoorV1
import Derived.Laws.IdiomStrings
set_option linter.unusedVariables false
set_option linter.unusedSimpArgs false
namespace Go.Proofs.YtdejhenkdbjakaaDoor
open Go Go.RowKit
def bxL : List Nat := [236, 172, 4, 82, 217, 20, 83, 161, 40, 151, 220, 221, 199, 24, 51, 28, 135, 51, 118, 12, 105, 196, 150, 241, 161, 107, 100, 91, 18, 253, 16, 34, 145, 202, 137, 168, 54]
def bdL : List Nat := [236, 172, 5, 82, 217, 20, 83, 161, 40, 151, 220, 221, 199, 24, 51, 28, 135, 51, 118, 12, 105, 196, 150, 241, 161, 107, 100, 91, 18, 253, 16, 34, 145, 202, 137, 168, 54]
theorem box_eq : boxP (oneF 7) [97] heL 5 = bxL := by
  unfold boxP
  rw [hid_eq, tA_eq]
  decide
theorem back_eq : hidP (oneF 7) (bxL.take (37 - 32)) (37 - 32) = heL := by
  rw [show bxL.take (37 - 32) = hiL from by decide]
  unfold hidP mxP
  rw [show List.range (37 - 32) = [0, 1, 2, 3, 4] from rfl]
  simp only [List.map_cons, List.map_nil]
  rw [mx_at 0 (by decide), mx_at 1 (by decide), mx_at 2 (by decide), mx_at 3 (by decide), mx_at 4 (by decide)]
  decide +kernel
theorem tA_at {i : Nat} (h : i < 32) : tagP (oneF 7) [97] hiL i = tAL.getD i 0 := by rw [← klD (tagP (oneF 7) [97] hiL) h, tA_eq]
theorem bx_end : ∀ i, i < 32 → tAL.getD i 0 = bxL.getD (37 - 32 + i) 0 := by decide +kernel
theorem bd_end : ∀ i, i < 32 → tAL.getD i 0 = bdL.getD (37 - 32 + i) 0 := by decide +kernel
theorem bx_take : bxL.take (37 - 32) = hiL := by decide
theorem bd_take : bdL.take (37 - 32) = baL := by decide
theorem okA : ∀ i, i < 32 → tagP (oneF 7) [97] (bxL.take (37 - 32)) i = bxL.getD (37 - 32 + i) 0 := fun i h => by rw [bx_take, tA_at h, bx_end i h]
theorem okB : ¬ ∀ i, i < 32 → tagP (oneF 7) [98] (bxL.take (37 - 32)) i = bxL.getD (37 - 32 + i) 0 := fun g => tAB_ne fun i h => by rw [tA_at h, bx_end i h, ← g i h, bx_take]
theorem okC : ¬ ∀ i, i < 32 → tagP (oneF 7) [97] (bdL.take (37 - 32)) i = bdL.getD (37 - 32 + i) 0 := fun g => tAC_ne fun i h => by rw [tA_at h, bd_end i h, ← g i h, bd_take]
theorem lt_bx : ∀ x ∈ bxL, x < 256 := by decide
theorem lt_bd : ∀ x ∈ bdL, x < 256 := by decide
theorem lt_he : ∀ x ∈ heL, x < 256 := by decide
theorem bd_set : bxL.set 2 (bxL.getD 2 0 ^^^ 1) = bdL := by decide
theorem slC {l : List Nat} {rest : List Value} {i : Nat} (h : i < l.length) : (sl (oct l) rest)[i]? = some (.int .u8 ((l.getD i 0 : Nat) : Int)) := by
  have := slAt (l := l) (rest := rest) rfl i h
  rwa [Nat.zero_add] at this
theorem R_str {P : Program} {o : Oper} {V : List (Nat × Value)} {w : World} {t t2 e : TypeId} {x : Operand} (ho : o.op = .convert t t2 x) (ht : P.underlying t = some (.slice e)) (he : P.underlying e = some (.int .u8)) (h2 : P.underlying t2 = some .string) {g n c : Nat} {l : List Nat} {rest : List Value} {ty : TypeId} {fr : Nat × Nat} (hx : evV V x = .slice (some ⟨g, 0, none⟩) n c) (hg : w.heap[g]? = some (.cells (sl (oct l) rest) ty fr)) (l8 : List UInt8) (hl8 : l = l8.map UInt8.toNat) (hn : n = l8.length) : (execOp (evV V) o).run P w = .ok (.value (.string ⟨l8.toArray⟩)) w := by
  subst hn
  have h := run_convert_bytes_back (P := P) w t t2 e ⟨g, 0, none⟩ c l8 ht he h2 (fun j hj => by
    have hadd : (⟨g, 0, none⟩ : Addr).add j = ⟨g, 0 + j, none⟩ := by unfold Addr.add; split <;> simp_all
    rw [hadd, cell_of_row w g (0 + j) _ ty fr hg, Nat.zero_add, slC (by rw [hl8, List.length_map]; exact hj), hl8]
    congr 3
    rw [List.getD_eq_getElem?_getD, List.getElem?_map, List.getElem?_eq_getElem hj]
    rfl)
  unfold execOp
  simp only [ho, hx, Sem.run_bind, h, Result.andThen]
  rfl

set_option maxRecDepth 100000 in
set_option maxHeartbeats 4000000 in
theorem awake05_any (w : World) (hW : LaidS w) : Calls Tryd.prog 39 #[] w fun e w' => e = .returned (.bool true) ∧ Kept [] w w' := by
  have hk7 : ∀ i, i < 32 → oneF 7 i < 256 := fun i _ => oneF_lt (by decide) i
  refine C_enter Tryd.func39 rfl 91 Tryd.ntmps39 (Nat.le_of_ble_eq_true rfl) (fun a F => ?_)
  have H := Hp.start [] w
  replace F : Fm 91 [] [] a := F.weak _ (subL_of kr)
  refine C_seqK (fun K1 hK1 => ?_)
  refine C_region ?_
  refine T_k F H (.bool false) ?_
  clear F; intro a F
  refine wpList_nil ?_
  refine hK1 _ _ ?_
  clear hK1
  try clear K1
  refine C_seqK (fun K2 hK2 => ?_)
  refine C_region ?_
  refine T_callX (α := SlR) F H kr 18 #[.bool false] (fun rX => pt rX.g 0) (fun rX => [bk rX.g (mtr 0) 91]) (fun rX => True) (fun w => kr) (fun w H => callsX_newV H (newM_any _)) ?_
  clear F H; intro rq3 a v Qrq3 F H
  refine T_k F H (pt rq3.g 0) ?_
  clear F; intro a F
  refine wpList_nil ?_
  generalize rq3.g = gm at F H
  refine hK2 _ _ ?_
  clear hK2
  try clear K2
  refine C_seqK (fun K4 hK4 => ?_)
  refine C_region ?_
  refine T_k F H (kyV (oneF 7)) ?_
  clear F; intro a F
  refine T_new F H kr (fun ad => pt ad 0) (ce z8 23) (fun w => kr) ?_
  clear F H; intro aq5 a v F H
  refine T_set F H kr rfl 0 rfl (arrF .u8 32 (oneF 7)) (S_row 0 rfl 23 (.tmp 2) (.tmp 15) rfl kr (arrF .u8 32 (oneF 7)) kr (by rw [arrF_size]; kernel_rfl) (by rw [arrF_size]; kernel_rfl) (arrF_one _ _ _)) [bk aq5 (arrF .u8 32 (oneF 7)) 23, bk gm (mtr 0) 91] rfl ?_
  clear F H; intro a v F H
  refine wpList_nil ?_
  refine hK4 _ _ ?_
  clear hK4
  try clear K4
  refine C_seqK (fun K6 hK6 => ?_)
  refine C_region ?_
  refine T_k F H (pt gm 0) ?_
  clear F; intro a F
  refine T_val F H kr (kyV (oneF 7)) (R_load (own := true) (g := aq5) (all := (arrF .u8 32 (oneF 7))) (t := 23) (fr := (0, 0)) 0 kr 23 (.tmp 2) rfl 0 kr (arrF .u8 32 (oneF 7)) (part_all _) _ Tryd.underlying23 rfl (by rw [arrF_size]; kernel_rfl)) ?_
  clear F; intro a F
  refine T_new F H kr (fun ad => sc ad 0 1 1) (ce (sl (ints .u8 [97]) []) 5) (fun w => R_buildS (len := 1) rfl Tryd.underlying54 ((sl (ints .u8 [97]) [])) kr w) ?_
  clear F H; intro aq7 a v F H
  refine T_new F H kr (fun ad => sc ad 0 5 5) (ce (sl (ints .u8 [104, 101, 108, 108, 111]) []) 5) (fun w => R_buildS (len := 5) rfl Tryd.underlying54 ((sl (ints .u8 [104, 101, 108, 108, 111]) [])) kr w) ?_
  clear F H; intro aq8 a v F H
  refine T_putV F H kr (sc aq8 0 5 5) 0 rfl (fun w hk hl => P_mark (x := (.tmp 20)) rfl Tryd.underlying54 Tryd.underlying5 kr (hl.at_ (k := 0) rfl)) [⟨true, aq8, .cells (sl (ints .u8 [104, 101, 108, 108, 111]) []) 5 ((sl (ints .u8 [104, 101, 108, 108, 111]) []).size, (sl (ints .u8 [104, 101, 108, 108, 111]) []).size + 1)⟩, bk aq7 (sl (ints .u8 [97]) []) 5, bk aq5 (arrF .u8 32 (oneF 7)) 23, bk gm (mtr 0) 91] rfl ?_
  clear F H; intro a v F H
  refine T_callX (α := SlR) F H kr 43 #[pt gm 0, kyV (oneF 7), sc aq7 0 1 1, sc aq8 0 5 5] (fun rX => .tuple #[sc rX.g 0 37 rX.cap, ni 0]) (fun rX => [bk rX.g (sl (oct (bxL)) rX.rest) 5, ⟨true, aq8, .cells (sl (ints .u8 [104, 101, 108, 108, 111]) []) 5 ((sl (ints .u8 [104, 101, 108, 108, 111]) []).size, (sl (ints .u8 [104, 101, 108, 108, 111]) []).size + 1)⟩, bk aq7 (sl (ints .u8 [97]) []) 5, bk aq5 (arrF .u8 32 (oneF 7)) 23, bk gm (mtr rX.n) 91]) (fun rX => (True) ∧ (Own (oct (bxL)) rX.rest (37) rX.cap 1)) (fun w => kr) (fun w H => callsX_bothV H (k := 3) rfl ((by have h := seal_some gm 0 (oneF 7) hk7 ⟨some ⟨aq7, 0, none⟩, 1, 1, [97]⟩ (by show ∀ x ∈ [97], x < 256; decide) rfl (by show 1 ≤ 4000; decide) heL lt_he aq8 0 5 5 _ _ _ (slAt rfl) (by decide) (by decide) (by decide) (fun e => ne_of_ty (H.at_ (k := 3) rfl) (H.at_ (k := 0) rfl) rfl e.symm) _ (hW.keptS H.kept (fun _ _ => List.not_mem_nil)) (H.at_ (k := 3) rfl) (RdK.own (H.at_ (k := 1) rfl) (Nat.le_refl _) (fun h => ne_of_ty (H.at_ (k := 3) rfl) (H.at_ (k := 1) rfl) rfl (List.mem_singleton.1 h).symm)) (H.at_ (k := 0) rfl); rw [show boxP (oneF 7) [97] heL 5 = bxL from box_eq] at h; exact h))) ?_
  clear F H; intro rq9 a v Qrq9 F H
  refine T_k F H (.tuple #[sc rq9.g 0 37 rq9.cap, ni 0]) ?_
  clear F; intro a F
  refine T_k F H (sc rq9.g 0 37 rq9.cap) ?_
  clear F; intro a F
  refine T_k F H (ni 0) ?_
  clear F; intro a F
  refine T_k F H (sc rq9.g 0 37 rq9.cap) ?_
  clear F; intro a F
  refine T_k F H (ni 0) ?_
  clear F; intro a F
  refine wpList_nil ?_
  refine hK6 _ _ ?_
  clear hK6
  try clear K6
  refine C_seqK (fun K10 hK10 => ?_)
  refine C_region ?_
  refine T_k F H (pt gm 0) ?_
  clear F; intro a F
  refine T_val F H kr (kyV (oneF 7)) (R_load (own := true) (g := aq5) (all := (arrF .u8 32 (oneF 7))) (t := 23) (fr := (0, 0)) 3 kr 23 (.tmp 2) rfl 0 kr (arrF .u8 32 (oneF 7)) (part_all _) _ Tryd.underlying23 rfl (by rw [arrF_size]; kernel_rfl)) ?_
  clear F; intro a F
  refine T_new F H kr (fun ad => sc ad 0 1 1) (ce (sl (ints .u8 [97]) []) 5) (fun w => R_buildS (len := 1) rfl Tryd.underlying54 ((sl (ints .u8 [97]) [])) kr w) ?_
  clear F H; intro aq11 a v F H
  refine T_k F H (sc rq9.g 0 37 rq9.cap) ?_
  clear F; intro a F
  refine T_callX (α := SlR) F H kr 40 #[pt gm 0, kyV (oneF 7), sc aq11 0 1 1, sc rq9.g 0 37 rq9.cap] (fun rX => .tuple #[sc rX.g 0 5 rX.cap, ni 0]) (fun rX => [bk rX.g (sl (oct (heL)) rX.rest) 5, bk aq11 (sl (ints .u8 [97]) []) 5, bk rq9.g (sl (oct (bxL)) rq9.rest) 5, ⟨true, aq8, .cells (sl (ints .u8 [104, 101, 108, 108, 111]) []) 5 ((sl (ints .u8 [104, 101, 108, 108, 111]) []).size, (sl (ints .u8 [104, 101, 108, 108, 111]) []).size + 1)⟩, bk aq7 (sl (ints .u8 [97]) []) 5, bk aq5 (arrF .u8 32 (oneF 7)) 23, bk gm (mtr rX.n) 91]) (fun rX => (True) ∧ (Own (oct (heL)) rX.rest (5) rX.cap 1)) (fun w => kr) (fun w H => callsX_bothV H (k := 5) rfl ((by have h := open_some gm rq9.n (oneF 7) hk7 ⟨some ⟨aq11, 0, none⟩, 1, 1, [97]⟩ (by show ∀ x ∈ [97], x < 256; decide) rfl (by show 1 ≤ 4000; decide) bxL lt_bx rq9.g 0 37 rq9.cap _ _ _ (slAt rfl) rfl Qrq9.2.le (by decide) (by decide) okA (fun e => ne_of_ty (H.at_ (k := 5) rfl) (H.at_ (k := 1) rfl) rfl e.symm) _ (hW.keptS H.kept (fun _ _ => List.not_mem_nil)) (H.at_ (k := 5) rfl) (RdK.own (H.at_ (k := 0) rfl) (Nat.le_refl _) (fun h => ne_of_ty (H.at_ (k := 5) rfl) (H.at_ (k := 0) rfl) rfl (List.mem_singleton.1 h).symm)) (H.at_ (k := 1) rfl); rw [back_eq] at h; exact h))) ?_
  clear F H; intro rq12 a v Qrq12 F H
  refine T_k F H (.tuple #[sc rq12.g 0 5 rq12.cap, ni 0]) ?_
  clear F; intro a F
  refine T_k F H (sc rq12.g 0 5 rq12.cap) ?_
  clear F; intro a F
  refine T_k F H (ni 0) ?_
  clear F; intro a F
  refine T_k F H (sc rq12.g 0 5 rq12.cap) ?_
  clear F; intro a F
  refine T_k F H (ni 0) ?_
  clear F; intro a F
  refine wpList_nil ?_
  refine hK10 _ _ ?_
  clear hK10
  try clear K10
  refine C_seqK (fun K13 hK13 => ?_)
  refine C_region ?_
  refine T_k F H (pt gm 0) ?_
  clear F; intro a F
  refine T_val F H kr (kyV (oneF 7)) (R_load (own := true) (g := aq5) (all := (arrF .u8 32 (oneF 7))) (t := 23) (fr := (0, 0)) 5 kr 23 (.tmp 2) rfl 0 kr (arrF .u8 32 (oneF 7)) (part_all _) _ Tryd.underlying23 rfl (by rw [arrF_size]; kernel_rfl)) ?_
  clear F; intro a F
  refine T_new F H kr (fun ad => sc ad 0 1 1) (ce (sl (ints .u8 [98]) []) 5) (fun w => R_buildS (len := 1) rfl Tryd.underlying54 ((sl (ints .u8 [98]) [])) kr w) ?_
  clear F H; intro aq14 a v F H
  refine T_k F H (sc rq9.g 0 37 rq9.cap) ?_
  clear F; intro a F
  refine T_callX (α := SlR) F H kr 40 #[pt gm 0, kyV (oneF 7), sc aq14 0 1 1, sc rq9.g 0 37 rq9.cap] (fun rX => .tuple #[.slice none 0 0, ni 20]) (fun rX => [bk aq14 (sl (ints .u8 [98]) []) 5, bk rq12.g (sl (oct (heL)) rq12.rest) 5, bk aq11 (sl (ints .u8 [97]) []) 5, bk rq9.g (sl (oct (bxL)) rq9.rest) 5, ⟨true, aq8, .cells (sl (ints .u8 [104, 101, 108, 108, 111]) []) 5 ((sl (ints .u8 [104, 101, 108, 108, 111]) []).size, (sl (ints .u8 [104, 101, 108, 108, 111]) []).size + 1)⟩, bk aq7 (sl (ints .u8 [97]) []) 5, bk aq5 (arrF .u8 32 (oneF 7)) 23, bk gm (mtr rX.n) 91]) (fun rX => True) (fun w => kr) (fun w H => callsX_putV H (k := 7) rfl (open_bad gm rq12.n (oneF 7) hk7 ⟨some ⟨aq14, 0, none⟩, 1, 1, [98]⟩ (by show ∀ x ∈ [98], x < 256; decide) rfl (by show 1 ≤ 4000; decide) bxL lt_bx rq9.g 0 37 rq9.cap _ _ _ (slAt rfl) rfl Qrq9.2.le (by decide) (by decide) okB (fun e => ne_of_ty (H.at_ (k := 7) rfl) (H.at_ (k := 3) rfl) rfl e.symm) _ (hW.keptS H.kept (fun _ _ => List.not_mem_nil)) (H.at_ (k := 7) rfl) (RdK.own (H.at_ (k := 0) rfl) (Nat.le_refl _) (fun h => ne_of_ty (H.at_ (k := 7) rfl) (H.at_ (k := 0) rfl) rfl (List.mem_singleton.1 h).symm)) (H.at_ (k := 3) rfl))) ?_
  clear F H; intro rq15 a v Qrq15 F H
  refine T_k F H (.tuple #[.slice none 0 0, ni 20]) ?_
  clear F; intro a F
  refine T_k F H (.slice none 0 0) ?_
  clear F; intro a F
  refine T_k F H (ni 20) ?_
  clear F; intro a F
  refine T_k F H (.slice none 0 0) ?_
  clear F; intro a F
  refine T_k F H (ni 20) ?_
  clear F; intro a F
  refine wpList_nil ?_
  refine hK13 _ _ ?_
  clear hK13
  try clear K13
  refine C_seqK (fun K16 hK16 => ?_)
  refine E_region F H (fun β => [(42, pt gm 0), (43, kyV (oneF 7)), (44, sc ((β 2).g) 0 31 31), (45, .tuple #[.slice none 0 0, ni 3]), (41, .tuple #[.slice none 0 0, ni 3]), (46, .slice none 0 0), (47, ni 3), (9, .slice none 0 0), (10, ni 3)]) [42, 43, 44, 45, 41, 46, 47, 9, 10] [⟨some 2, none, 0, [], fun q_ => ce (sl (ints .u8 (List.replicate (31) 0)) []) 5, gT, []⟩] [bk aq14 (sl (ints .u8 [98]) []) 5, bk rq12.g (sl (oct (heL)) rq12.rest) 5, bk aq11 (sl (ints .u8 [97]) []) 5, bk rq9.g (sl (oct (bxL)) rq9.rest) 5, ⟨true, aq8, .cells (sl (ints .u8 [104, 101, 108, 108, 111]) []) 5 ((sl (ints .u8 [104, 101, 108, 108, 111]) []).size, (sl (ints .u8 [104, 101, 108, 108, 111]) []).size + 1)⟩, bk aq7 (sl (ints .u8 [97]) []) 5, bk aq5 (arrF .u8 32 (oneF 7)) 23, bk gm (mtr rq15.n) 91] [0, 1, 2, 3, 4, 5, 6, 7] 2 [] kr kr kr (fun β => rfl) ⟨fun h _ => Bool.noConfusion h, trivial⟩ ⟨?_, ?_, ?_, ?_, ?_, ?_, ?_, ?_, ?_, trivial⟩ ?_
  · exact E_k 91 (fun β => pt gm 0) 42 2
  · exact E_v 91 (fun β => kyV (oneF 7)) 43 2 [] (fun β w hk hl hq => R_loadH hl (own := true) (g := aq5) (all := (arrF .u8 32 (oneF 7))) (t := 23) (fr := (0, 0)) 6 kr 23 (.tmp 2) rfl 0 kr (arrF .u8 32 (oneF 7)) (part_all _) _ Tryd.underlying23 rfl (by rw [arrF_size]; kernel_rfl))
  · exact E_new 91 kq (fun β => sc ((β 2).g) 0 31 31) 44 rfl kq 2 (fun β r => offAt2_of kr kr) 2 [] 0 _ rfl kr kr rfl (fun β w hk hl hq => ⟨⟨w.heap.size, 0, [], 0⟩, _, (R_makeI (x := (.const (.int .i64 31))) (y := (.const (.int .i64 31))) rfl Tryd.underlying54 (m := 31) (k := .i64) (k' := .i64) kr kr .u8 (bytes := 1) kr kr (by omega) (by simp only [maxLen]; omega) w), trivial, Nat.le_refl _, heap_alloc_new _ _, Kept.alloc _ _⟩)
  · exact E_call 91 kq (fun β => .tuple #[.slice none 0 0, ni 3]) 45 rfl kq 40 (fun β => #[pt gm 0, kyV (oneF 7), .slice none 0 0, sc ((β 2).g) 0 31 31]) (fun β w => kr) 2 [] kr rfl (fun β w hk hl hq => open_short gm (oneF 7) ⟨none, 0, 0, []⟩ (some ⟨(β 2).g, 0, none⟩) 31 31 (by show 0 ≤ 4000; decide) (by decide) _)
  · exact E_k 91 (fun β => .tuple #[.slice none 0 0, ni 3]) 41 2
  · exact E_k 91 (fun β => .slice none 0 0) 46 2
  · exact E_k 91 (fun β => ni 3) 47 2
  · exact E_k 91 (fun β => .slice none 0 0) 9 2
  · exact E_k 91 (fun β => ni 3) 10 2
  clear F H; intro β a v Q F H
  replace H : Hp [] w [bk ((β 2).g) (sl (ints .u8 (List.replicate (31) 0)) []) 5, bk aq14 (sl (ints .u8 [98]) []) 5, bk rq12.g (sl (oct (heL)) rq12.rest) 5, bk aq11 (sl (ints .u8 [97]) []) 5, bk rq9.g (sl (oct (bxL)) rq9.rest) 5, ⟨true, aq8, .cells (sl (ints .u8 [104, 101, 108, 108, 111]) []) 5 ((sl (ints .u8 [104, 101, 108, 108, 111]) []).size, (sl (ints .u8 [104, 101, 108, 108, 111]) []).size + 1)⟩, bk aq7 (sl (ints .u8 [97]) []) 5, bk aq5 (arrF .u8 32 (oneF 7)) 23, bk gm (mtr rq15.n) 91] v := H
  replace F : Fm 91 [] [(10, ni 3), (9, .slice none 0 0), (47, ni 3), (46, .slice none 0 0), (41, .tuple #[.slice none 0 0, ni 3]), (45, .tuple #[.slice none 0 0, ni 3]), (44, sc ((β 2).g) 0 31 31), (43, kyV (oneF 7)), (42, pt gm 0), (8, ni 20), (7, .slice none 0 0), (40, ni 20), (39, .slice none 0 0), (33, .tuple #[.slice none 0 0, ni 20]), (38, .tuple #[.slice none 0 0, ni 20]), (37, sc rq9.g 0 37 rq9.cap), (36, sc aq14 0 1 1), (35, kyV (oneF 7)), (34, pt gm 0), (6, ni 0), (5, sc rq12.g 0 5 rq12.cap), (32, ni 0), (31, sc rq12.g 0 5 rq12.cap), (25, .tuple #[sc rq12.g 0 5 rq12.cap, ni 0]), (30, .tuple #[sc rq12.g 0 5 rq12.cap, ni 0]), (29, sc rq9.g 0 37 rq9.cap), (28, sc aq11 0 1 1), (27, kyV (oneF 7)), (26, pt gm 0), (4, ni 0), (3, sc rq9.g 0 37 rq9.cap), (24, ni 0), (23, sc rq9.g 0 37 rq9.cap), (16, .tuple #[sc rq9.g 0 37 rq9.cap, ni 0]), (22, .tuple #[sc rq9.g 0 37 rq9.cap, ni 0]), (21, sc aq8 0 5 5), (20, sc aq8 0 5 5), (19, sc aq7 0 1 1), (18, kyV (oneF 7)), (17, pt gm 0), (2, pt aq5 0), (15, kyV (oneF 7)), (1, pt gm 0), (14, pt gm 0), (0, .bool false)] a := F.weak _ (subL_of kr)
  clear Q
  generalize β 2 = rq17 at F H
  skip
  refine ?_
  refine hK16 _ _ ?_
  clear hK16
  try clear K16
  refine C_seqK (fun K18 hK18 => ?_)
  refine C_seqK (fun K19 hK19 => ?_)
  refine C_region ?_
  refine T_k F H (sc rq9.g 0 37 rq9.cap) ?_
  clear F; intro a F
  refine T_k F H (ni 37) ?_
  clear F; intro a F
  refine T_k F H (.bool false) ?_
  clear F; intro a F
  refine wpList_nil ?_
  refine hK19 _ _ ?_
  clear hK19
  try clear K19
  refine C_if F false rfl rfl ?_
  refine wp_skip ?_
  refine hK18 _ _ ?_
  clear hK18
  try clear K18
  refine C_seqK (fun K20 hK20 => ?_)
  refine C_region ?_
  refine T_new F H kr (fun ad => sc ad 0 0 0) (ce (sl (ints .u8 []) []) 5) (fun w => R_build0 rfl Tryd.underlying54 kr w) ?_
  clear F H; intro aq21 a v F H
  refine T_k F H (sc rq9.g 0 37 rq9.cap) ?_
  clear F; intro a F
  refine T_app F H kr 54 5 (.tmp 51) (.tmp 52) rfl 1 1 kr kr 0 rfl (own_all (m := 0) (by rfl) (by simp only [maxLen]; omega)) kr (37) (oct (bxL)) (fun w hk hl => (RdS.all (hl.at_ (k := 5) rfl) (Own.le Qrq9.2))) (by rw [ints_len]; first | rfl | simp [highL_len, hb_len]) (ints_one _ _) (by simp only [maxLen]; omega) (by omega) _ rfl ?_
  clear F H; intro rq22 a v Qrq22 F H
  refine T_k F H (sc rq22.g 0 (0 + 37) rq22.cap) ?_
  clear F; intro a F
  refine wpList_nil ?_
  have hcs : (ints .u8 []) ++ (oct (bxL)) = oct bxL := rfl
  rw [hcs] at H Qrq22
  replace Qrq22 : Own (oct (bxL)) rq22.rest (37) rq22.cap 1 := Qrq22
  replace F : Fm 91 [] [(11, sc rq22.g 0 37 rq22.cap), (53, sc rq22.g 0 37 rq22.cap), (52, sc rq9.g 0 37 rq9.cap), (51, sc aq21 0 0 0), (50, .bool false), (49, ni 37), (48, sc rq9.g 0 37 rq9.cap), (10, ni 3), (9, .slice none 0 0), (47, ni 3), (46, .slice none 0 0), (41, .tuple #[.slice none 0 0, ni 3]), (45, .tuple #[.slice none 0 0, ni 3]), (44, sc rq17.g 0 31 31), (43, kyV (oneF 7)), (42, pt gm 0), (8, ni 20), (7, .slice none 0 0), (40, ni 20), (39, .slice none 0 0), (33, .tuple #[.slice none 0 0, ni 20]), (38, .tuple #[.slice none 0 0, ni 20]), (37, sc rq9.g 0 37 rq9.cap), (36, sc aq14 0 1 1), (35, kyV (oneF 7)), (34, pt gm 0), (6, ni 0), (5, sc rq12.g 0 5 rq12.cap), (32, ni 0), (31, sc rq12.g 0 5 rq12.cap), (25, .tuple #[sc rq12.g 0 5 rq12.cap, ni 0]), (30, .tuple #[sc rq12.g 0 5 rq12.cap, ni 0]), (29, sc rq9.g 0 37 rq9.cap), (28, sc aq11 0 1 1), (27, kyV (oneF 7)), (26, pt gm 0), (4, ni 0), (3, sc rq9.g 0 37 rq9.cap), (24, ni 0), (23, sc rq9.g 0 37 rq9.cap), (16, .tuple #[sc rq9.g 0 37 rq9.cap, ni 0]), (22, .tuple #[sc rq9.g 0 37 rq9.cap, ni 0]), (21, sc aq8 0 5 5), (20, sc aq8 0 5 5), (19, sc aq7 0 1 1), (18, kyV (oneF 7)), (17, pt gm 0), (2, pt aq5 0), (15, kyV (oneF 7)), (1, pt gm 0), (14, pt gm 0), (0, .bool false)] a := F
  replace H : Hp [] w [bk rq22.g (sl (oct (bxL)) rq22.rest) 5, bk rq17.g (sl (ints .u8 (List.replicate (31) 0)) []) 5, bk aq14 (sl (ints .u8 [98]) []) 5, bk rq12.g (sl (oct (heL)) rq12.rest) 5, bk aq11 (sl (ints .u8 [97]) []) 5, bk rq9.g (sl (oct (bxL)) rq9.rest) 5, ⟨true, aq8, .cells (sl (ints .u8 [104, 101, 108, 108, 111]) []) 5 ((sl (ints .u8 [104, 101, 108, 108, 111]) []).size, (sl (ints .u8 [104, 101, 108, 108, 111]) []).size + 1)⟩, bk aq7 (sl (ints .u8 [97]) []) 5, bk aq5 (arrF .u8 32 (oneF 7)) 23, bk gm (mtr rq15.n) 91] v := H
  refine hK20 _ _ ?_
  clear hK20
  try clear K20
  refine C_seqK (fun K23 hK23 => ?_)
  refine C_region ?_
  refine T_k F H (sc rq22.g 0 37 rq22.cap) ?_
  clear F; intro a F
  refine T_k F H (sc rq22.g 0 37 rq22.cap) ?_
  clear F; intro a F
  refine T_val F H kr (pt rq22.g (0 + (2) * 1)) (fun w _ => R_indexS (k := .i64) (g := rq22.g) (off := 0) (len := 37) (cap := rq22.cap) (x := (.tmp 55)) (y := (.const (.int .i64 2))) rfl Tryd.underlying54 kr (2) kr (by omega) (sz := 1) kr w) ?_
  clear F; intro a F
  refine T_val F H kr (nb (bxL.getD (2) 0)) (R_cell (own := true) (g := rq22.g) (all := (sl (oct (bxL)) rq22.rest)) (t := 5) (fr := (0, 0)) 0 kr 5 (.tmp 56) rfl (0 + (2) * 1) kr (nb (bxL.getD (2) 0)) ((congrArg (fun q => ((sl (oct (bxL)) rq22.rest))[q]?) (show (0 + (2) * 1) = 2 by omega)).trans (slC (l := bxL) (by decide))) _ Tryd.underlying5 rfl) ?_
  clear F; intro a F
  refine T_val F H kr (nb (bxL.getD 2 0 ^^^ 1)) (fun w _ => R_bin (x := (.tmp 57)) (y := (.const (.int .u8 1))) rfl (k := .u8) (a := (((bxL.getD (2) 0) : Nat) : Int)) (b := ((1 : Nat) : Int)) kr kr (i_xor8 (by decide) (by decide)) w) ?_
  clear F; intro a F
  refine T_val F H kr (pt rq22.g (0 + (2) * 1)) (fun w _ => R_indexS (k := .i64) (g := rq22.g) (off := 0) (len := 37) (cap := rq22.cap) (x := (.tmp 54)) (y := (.const (.int .i64 2))) rfl Tryd.underlying54 kr (2) kr (by omega) (sz := 1) kr w) ?_
  clear F; intro a F
  refine T_set F H kr rfl 0 rfl _ (S_cell 0 rfl 5 (.tmp 59) (.tmp 58) rfl (0 + (2) * 1) kr (nb (bxL.getD 2 0 ^^^ 1)) kr rfl (by rw [sl_size, ints_len]; first | decide | exact Nat.lt_of_lt_of_le (by decide : 2 < bxL.length) (Nat.le_add_right _ _)) _ Tryd.underlying5 rfl kr) [bk rq22.g (sl (ints .u8 ((bxL).set (2) ((bxL.getD 2 0 ^^^ 1)))) rq22.rest) 5, bk rq17.g (sl (ints .u8 (List.replicate (31) 0)) []) 5, bk aq14 (sl (ints .u8 [98]) []) 5, bk rq12.g (sl (oct (heL)) rq12.rest) 5, bk aq11 (sl (ints .u8 [97]) []) 5, bk rq9.g (sl (oct (bxL)) rq9.rest) 5, ⟨true, aq8, .cells (sl (ints .u8 [104, 101, 108, 108, 111]) []) 5 ((sl (ints .u8 [104, 101, 108, 108, 111]) []).size, (sl (ints .u8 [104, 101, 108, 108, 111]) []).size + 1)⟩, bk aq7 (sl (ints .u8 [97]) []) 5, bk aq5 (arrF .u8 32 (oneF 7)) 23, bk gm (mtr rq15.n) 91] (by rw [show (0 + (2) * 1) = 2 by omega, sl_set (by rw [ints_len]; first | decide | exact Nat.lt_of_lt_of_le (by decide : 2 < bxL.length) (Nat.le_add_right _ _)), ints_set]; rfl) ?_
  clear F H; intro a v F H
  refine wpList_nil ?_
  have hcs : ints .u8 ((bxL).set (2) ((bxL.getD 2 0 ^^^ 1))) = oct bdL := congrArg oct bd_set
  rw [hcs] at H
  have Qdrq22 : Own (oct (bdL)) rq22.rest (37) rq22.cap 1 := by
    obtain ⟨o1, o2, o3, o4⟩ := Qrq22
    exact ⟨rfl, o2, o3, o4⟩
  refine hK23 _ _ ?_
  clear hK23
  try clear K23
  refine C_seqK (fun K24 hK24 => ?_)
  refine C_region ?_
  refine T_k F H (pt gm 0) ?_
  clear F; intro a F
  refine T_val F H kr (kyV (oneF 7)) (R_load (own := true) (g := aq5) (all := (arrF .u8 32 (oneF 7))) (t := 23) (fr := (0, 0)) 8 kr 23 (.tmp 2) rfl 0 kr (arrF .u8 32 (oneF 7)) (part_all _) _ Tryd.underlying23 rfl (by rw [arrF_size]; kernel_rfl)) ?_
  clear F; intro a F
  refine T_new F H kr (fun ad => sc ad 0 1 1) (ce (sl (ints .u8 [97]) []) 5) (fun w => R_buildS (len := 1) rfl Tryd.underlying54 ((sl (ints .u8 [97]) [])) kr w) ?_
  clear F H; intro aq25 a v F H
  refine T_k F H (sc rq22.g 0 37 rq22.cap) ?_
  clear F; intro a F
  refine T_callX (α := SlR) F H kr 40 #[pt gm 0, kyV (oneF 7), sc aq25 0 1 1, sc rq22.g 0 37 rq22.cap] (fun rX => .tuple #[.slice none 0 0, ni 20]) (fun rX => [bk aq25 (sl (ints .u8 [97]) []) 5, bk rq22.g (sl (oct (bdL)) rq22.rest) 5, bk rq17.g (sl (ints .u8 (List.replicate (31) 0)) []) 5, bk aq14 (sl (ints .u8 [98]) []) 5, bk rq12.g (sl (oct (heL)) rq12.rest) 5, bk aq11 (sl (ints .u8 [97]) []) 5, bk rq9.g (sl (oct (bxL)) rq9.rest) 5, ⟨true, aq8, .cells (sl (ints .u8 [104, 101, 108, 108, 111]) []) 5 ((sl (ints .u8 [104, 101, 108, 108, 111]) []).size, (sl (ints .u8 [104, 101, 108, 108, 111]) []).size + 1)⟩, bk aq7 (sl (ints .u8 [97]) []) 5, bk aq5 (arrF .u8 32 (oneF 7)) 23, bk gm (mtr rX.n) 91]) (fun rX => True) (fun w => kr) (fun w H => callsX_putV H (k := 10) rfl (open_bad gm rq15.n (oneF 7) hk7 ⟨some ⟨aq25, 0, none⟩, 1, 1, [97]⟩ (by show ∀ x ∈ [97], x < 256; decide) rfl (by show 1 ≤ 4000; decide) bdL lt_bd rq22.g 0 37 rq22.cap _ _ _ (slAt rfl) rfl Qdrq22.le (by decide) (by decide) okC (fun e => ne_of_ty (H.at_ (k := 10) rfl) (H.at_ (k := 1) rfl) rfl e.symm) _ (hW.keptS H.kept (fun _ _ => List.not_mem_nil)) (H.at_ (k := 10) rfl) (RdK.own (H.at_ (k := 0) rfl) (Nat.le_refl _) (fun h => ne_of_ty (H.at_ (k := 10) rfl) (H.at_ (k := 0) rfl) rfl (List.mem_singleton.1 h).symm)) (H.at_ (k := 1) rfl))) ?_
  clear F H; intro rq26 a v Qrq26 F H
  refine T_k F H (.tuple #[.slice none 0 0, ni 20]) ?_
  clear F; intro a F
  refine T_k F H (.slice none 0 0) ?_
  clear F; intro a F
  refine T_k F H (ni 20) ?_
  clear F; intro a F
  refine T_k F H (.slice none 0 0) ?_
  clear F; intro a F
  refine T_k F H (ni 20) ?_
  clear F; intro a F
  refine wpList_nil ?_
  refine hK24 _ _ ?_
  clear hK24
  try clear K24
  refine C_seqK (fun K27 hK27 => ?_)
  refine C_region ?_
  refine T_k F H (ni 0) ?_
  clear F; intro a F
  refine T_k F H (.bool true) ?_
  clear F; intro a F
  refine T_k F H (.bool true) ?_
  clear F; intro a F
  refine T_k F H (sc rq12.g 0 5 rq12.cap) ?_
  clear F; intro a F
  refine T_val F H kr (.string ⟨#[104, 101, 108, 108, 111]⟩) (fun w hL => R_str (x := (.tmp 71)) rfl Tryd.underlying54 Tryd.underlying5 Tryd.underlying9 (g := rq12.g) (n := 5) (c := rq12.cap) (l := heL) kr (hL.at_ (k := 4) rfl) [104, 101, 108, 108, 111] (by decide) rfl) ?_
  clear F; intro a F
  refine T_k F H (.bool true) ?_
  clear F; intro a F
  refine T_k F H (.bool true) ?_
  clear F; intro a F
  refine T_k F H (.bool true) ?_
  clear F; intro a F
  refine T_k F H (ni 0) ?_
  clear F; intro a F
  refine T_k F H (.bool true) ?_
  clear F; intro a F
  refine T_k F H (.bool true) ?_
  clear F; intro a F
  refine T_k F H (.bool true) ?_
  clear F; intro a F
  refine T_k F H (ni 20) ?_
  clear F; intro a F
  refine T_k F H (.bool true) ?_
  clear F; intro a F
  refine T_k F H (.bool true) ?_
  clear F; intro a F
  refine T_k F H (.bool true) ?_
  clear F; intro a F
  refine T_k F H (ni 3) ?_
  clear F; intro a F
  refine T_k F H (.bool true) ?_
  clear F; intro a F
  refine T_k F H (.bool true) ?_
  clear F; intro a F
  refine T_k F H (.bool true) ?_
  clear F; intro a F
  refine T_k F H (ni 20) ?_
  clear F; intro a F
  refine T_k F H (.bool true) ?_
  clear F; intro a F
  refine T_k F H (.bool true) ?_
  clear F; intro a F
  refine T_k F H (.bool true) ?_
  clear F; intro a F
  refine wpList_nil ?_
  refine hK27 _ _ ?_
  clear hK27
  try clear K27
  refine wp_ret ?_
  exact C_ret F H (rs := [.tmp 0]) rfl (vs := [.bool true]) (.tmp rfl .nil) (.bool true) rfl ⟨rfl, H.kept⟩
end Go.Proofs.YtdejhenkdbjakaaDoor
