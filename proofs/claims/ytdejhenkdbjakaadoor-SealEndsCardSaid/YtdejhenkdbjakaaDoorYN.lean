/- Walks: seal.Tag, Seal. -/
import Derived.Test.YtdejhenkdbjakaaDoorYM
import Derived.Test.YtdejhenkdbjakaaDoorXB
set_option linter.unusedVariables false
set_option linter.unusedSimpArgs false
namespace Go.Proofs.YtdejhenkdbjakaaDoor
open Go Go.RowKit
theorem RdK.step2 {X : List Nat} {w0 v : World} {L : List Blk} {p : SlP} (h : RdK X w0 p) (H : Hp X w0 L v) {k k2 ad ad2 : Nat} {Z Z2 : Obj} (hk : L[k]? = some ⟨true, ad, Z⟩) (hk2 : L[k2]? = some ⟨true, ad2, Z2⟩) : RdK [ad, ad2] v p := h.step H fun y hy => by
  rcases List.mem_cons.1 hy with rfl | hy
  · exact ⟨_, List.mem_of_getElem? hk, rfl, rfl⟩
  · rw [List.mem_singleton.1 hy]
    exact ⟨_, List.mem_of_getElem? hk2, rfl, rfl⟩
theorem RdK.step1 {X : List Nat} {w0 v : World} {L : List Blk} {p : SlP} (h : RdK X w0 p) (H : Hp X w0 L v) {k ad : Nat} {Z : Obj} (hk : L[k]? = some ⟨true, ad, Z⟩) : RdK [ad] v p := h.step H fun y hy => by
  rw [List.mem_singleton.1 hy]
  exact ⟨_, List.mem_of_getElem? hk, rfl, rfl⟩
theorem RdK.row {X : List Nat} {w : World} {g off n m c : Nat} {l : List Nat} {arr : Array Value} {t : TypeId} {fr : Nat × Nat} (hg : w.heap[g]? = some (.cells arr t fr)) (hl : l.length = n) (harr : ∀ j, j < n → arr[off + j]? = some (.int .u8 ((l.getD j 0 : Nat) : Int))) (hm : m ≤ n) (hc : m ≤ c) (hx : g ∉ X) : RdK X w ⟨some ⟨g, off, none⟩, m, c, l.take m⟩ := fun w' k => by
  refine RdS.of ((k.block g (heap_in hg) hx).trans hg) hc (fun j u hj => ?_)
  have hj2 : j < (oct (l.take m)).length := (List.getElem?_eq_some_iff.1 hj).1
  rw [ints_len, List.length_take] at hj2
  have e : (l.take m)[j]? = some (l.getD j 0) := by
    rw [List.getElem?_take_of_lt (by omega), List.getD_eq_getElem?_getD, List.getElem?_eq_getElem (by omega), Option.getD_some]
  rw [ints_get e] at hj
  rw [← hj]
  exact harr j (by omega)
theorem takeD {l : List Nat} {m j : Nat} (h : j < m) : (l.take m).getD j 0 = l.getD j 0 := by
  rw [List.getD_eq_getElem?_getD, List.getD_eq_getElem?_getD, List.getElem?_take_of_lt h]
theorem take_lt {l : List Nat} (h : ∀ x ∈ l, x < 256) (m : Nat) : ∀ x ∈ l.take m, x < 256 := fun x hx => h x (List.mem_of_mem_take hx)
theorem drop_lt {l : List Nat} (h : ∀ x ∈ l, x < 256) (m : Nat) : ∀ x ∈ l.drop m, x < 256 := fun x hx => h x (List.mem_of_mem_drop hx)
theorem dropD {l : List Nat} {m j : Nat} : (l.drop m).getD j 0 = l.getD (m + j) 0 := by
  rw [List.getD_eq_getElem?_getD, List.getD_eq_getElem?_getD, List.getElem?_drop]
theorem slAt {l : List Nat} {rest : List Value} {n : Nat} (h : l.length = n) : ∀ j, j < n → (sl (oct l) rest)[0 + j]? = some (.int .u8 ((l.getD j 0 : Nat) : Int)) := fun j hj => by
  rw [Nat.zero_add]
  refine sl_get (ints_get ?_)
  rw [List.getD_eq_getElem?_getD, List.getElem?_eq_getElem (by omega), Option.getD_some]
theorem klD (f : Nat → Nat) {i : Nat} (h : i < 32) : (kl f).getD i 0 = f i := by
  rw [List.getD_eq_getElem?_getD, kl_get f h, Option.getD_some]
theorem keyAt (f : Nat → Nat) : ∀ j, j < 32 → (arrF .u8 32 f)[0 + j]? = some (.int .u8 (((kl f).getD j 0 : Nat) : Int)) := fun j h => by
  rw [Nat.zero_add, arrF_get f h, klD f h]
theorem mxP_lt (key nc : Nat → Nat) {tl : List Nat} (htl : ∀ x ∈ tl, x < 256) (n : Nat) : ∀ x ∈ mxP key nc tl n, x < 256 := fun x hx => by
  obtain ⟨i, _, rfl⟩ := List.mem_map.1 hx
  exact Nat.xor_lt_two_pow (n := 8) (getD_lt htl i) (ccF_lt _ _ _ _)
theorem hidP_lt (key : Nat → Nat) {tl : List Nat} (htl : ∀ x ∈ tl, x < 256) (n : Nat) : ∀ x ∈ hidP key tl n, x < 256 := mxP_lt _ _ htl n
theorem tagP_lt (key : Nat → Nat) (la lh : List Nat) (i : Nat) : tagP key la lh i < 256 := macK_lt _ _ i
def boxP (key : Nat → Nat) (la tl : List Nat) (n : Nat) : List Nat := hidP key tl n ++ kl (tagP key la (hidP key tl n))
theorem boxP_len (key : Nat → Nat) (la tl : List Nat) (n : Nat) : (boxP key la tl n).length = n + 32 := by rw [boxP, List.length_append, hidP_len, kl_len]
theorem boxP_lt (key : Nat → Nat) (la : List Nat) {tl : List Nat} (htl : ∀ x ∈ tl, x < 256) (n : Nat) : ∀ x ∈ boxP key la tl n, x < 256 := fun x hx => (List.mem_append.1 hx).elim (hidP_lt key htl n x) (kl_lt (fun i _ => tagP_lt _ _ _ i) x)

set_option maxRecDepth 100000 in
set_option maxHeartbeats 4000000 in
theorem tag_any (gm n : Nat) (key : Nat → Nat) (hkey : ∀ i, i < 32 → key i < 256) (pa ph : SlP) (hba : ∀ x ∈ pa.l, x < 256) (hna : pa.l.length = pa.n) (hla : pa.n ≤ 4000) (hbh : ∀ x ∈ ph.l, x < 256) (hnh : ph.l.length = ph.n) (hlh : ph.n ≤ 4000) (w : World) (hW : LaidS w) (hm : w.heap[gm]? = some (.cells (mtr n) 91 (0, 0))) (hrda : RdK [gm] w pa) (hrdh : RdK [gm] w ph) : Calls Tryd.prog 45 #[.pointer (some ⟨gm, 0, none⟩), .agg (arrF .u8 32 key), .slice pa.ad pa.n pa.c, .slice ph.ad ph.n ph.c] w fun e w' => ∃ r : SlR, e = .returned (.agg (arrF .u8 32 (tagP key pa.l ph.l))) ∧ True ∧ Kept [gm] w w' ∧ w'.heap[gm]? = some (.cells (mtr r.n) 91 (0, 0)) := by
  have hap := hW.apart1 hm
  refine C_enter Tryd.func45 rfl 15 Tryd.ntmps45 (Nat.le_of_ble_eq_true rfl) (fun a F => ?_)
  have H := Hp.startT (X := [gm]) (L := [bk gm (mtr n) 91]) ⟨hm, trivial⟩ (by simp) rfl
  replace F : Fm 15 [] [(0, pt gm 0), (1, kyV key), (2, .slice pa.ad pa.n pa.c), (3, .slice ph.ad ph.n ph.c)] a := F.weak _ (subL_of kr)
  refine C_seqK (fun K1 hK1 => ?_)
  refine C_region ?_
  refine T_new F H kr (fun ad => pt ad 0) (ce (arrF .u8 32 key) 23) (fun w => kr) ?_
  clear F H; intro aq2 a v F H
  refine T_new F H kr (fun ad => pt ad 0) (ce z8 23) (fun w => kr) ?_
  clear F H; intro aq3 a v F H
  refine wpList_nil ?_
  refine hK1 _ _ ?_
  clear hK1
  try clear K1
  refine C_seqK (fun K4 hK4 => ?_)
  refine C_region ?_
  refine T_k F H (pt gm 0) ?_
  clear F; intro a F
  refine T_val F H kr (kyV key) (R_load (own := true) (g := aq2) (all := (arrF .u8 32 key)) (t := 23) (fr := (0, 0)) 1 kr 23 (.tmp 5) rfl 0 kr (arrF .u8 32 key) (part_all _) _ Tryd.underlying23 rfl (by rw [arrF_size]; kernel_rfl)) ?_
  clear F; intro a F
  refine T_callX (α := SlR) F H kr 66 #[pt gm 0, kyV key] (fun rX => pt rX.g 0) (fun rX => [bk rX.g (mkA gm key 0 0 zN 0 0 zN) 136, bk aq3 z8 23, bk aq2 (arrF .u8 32 key) 23, bk gm (mtr n) 91]) (fun rX => True) (fun w => kr) (fun w H => callsX_newV H (made_any gm key _)) ?_
  clear F H; intro rq5 a v Qrq5 F H
  refine T_k F H (.slice pa.ad pa.n pa.c) ?_
  clear F; intro a F
  refine T_k F H (.slice ph.ad ph.n ph.c) ?_
  clear F; intro a F
  refine T_callX (α := SlR) F H kr 67 #[pt rq5.g 0, .slice pa.ad pa.n pa.c, .slice ph.ad ph.n ph.c] (fun rX => kyV (tagP key pa.l ph.l)) (fun rX => [bk rq5.g (mkA gm key 0 0 zN 1 0 (tagK key)) 136, bk aq3 z8 23, bk aq2 (arrF .u8 32 key) 23, bk gm (mtr rX.n) 91]) (fun rX => True) (fun w => kr) (fun w H => callsX_put2 H (k := 3) (k2 := 0) rfl rfl (by decide) (msumx_any gm n rq5.g key hkey zN 0 0 zN pa ph hba hna (by omega) hbh hnh (by omega) _ (hW.keptS H.kept hap) (H.at_ (k := 3) rfl) (H.at_ (k := 0) rfl) (hrda.step2 H (k := 3) (k2 := 0) rfl rfl) (hrdh.step2 H (k := 3) (k2 := 0) rfl rfl))) ?_
  clear F H; intro rq6 a v Qrq6 F H
  refine T_set F H kr rfl 1 rfl (arrF .u8 32 (tagP key pa.l ph.l)) (S_row 1 rfl 23 (.tmp 8) (.tmp 14) rfl kr (arrF .u8 32 (tagP key pa.l ph.l)) kr (by rw [arrF_size]; kernel_rfl) (by rw [arrF_size]; kernel_rfl) (arrF_one _ _ _)) [bk rq5.g (mkA gm key 0 0 zN 1 0 (tagK key)) 136, bk aq3 (arrF .u8 32 (tagP key pa.l ph.l)) 23, bk aq2 (arrF .u8 32 key) 23, bk gm (mtr rq6.n) 91] rfl ?_
  clear F H; intro a v F H
  refine wpList_nil ?_
  refine hK4 _ _ ?_
  clear hK4
  try clear K4
  refine wp_ret ?_
  exact C_ret F H (rs := [.cell 8 23]) rfl (vs := [kyV (tagP key pa.l ph.l)]) (.row 1 rfl rfl _ Tryd.underlying23 rfl kr .nil) (kyV (tagP key pa.l ph.l)) rfl ⟨⟨0, 0, [], rq6.n⟩, rfl, trivial, H.kept, H.at_ (k := 3) rfl⟩

set_option maxRecDepth 100000 in
set_option maxHeartbeats 4000000 in
theorem seal_long1 (gm : Nat) (key : Nat → Nat) (pa : SlP) (ad : Option Addr) (nt cp : Nat) (h1 : 4000 < pa.n) (w : World) : Calls Tryd.prog 43 #[.pointer (some ⟨gm, 0, none⟩), .agg (arrF .u8 32 key), .slice pa.ad pa.n pa.c, .slice ad nt cp] w fun e w' => e = .returned (.tuple #[.slice none 0 0, .int .i64 2]) ∧ Kept [] w w' := by
  refine C_enter Tryd.func43 rfl 35 Tryd.ntmps43 (Nat.le_of_ble_eq_true rfl) (fun a F => ?_)
  have H := Hp.start [] w
  replace F : Fm 35 [] [(0, pt gm 0), (1, kyV key), (2, .slice pa.ad pa.n pa.c), (3, .slice ad nt cp)] a := F.weak _ (subL_of kr)
  refine C_seqK (fun K1 hK1 => ?_)
  refine C_region ?_
  refine T_new F H kr (fun ad => pt ad 0) (ce (arrF .u8 32 key) 23) (fun w => kr) ?_
  clear F H; intro aq2 a v F H
  refine T_k F H (.slice none 0 0) ?_
  clear F; intro a F
  refine T_k F H (ni 0) ?_
  clear F; intro a F
  refine wpList_nil ?_
  refine hK1 _ _ ?_
  clear hK1
  try clear K1
  refine C_seqK (fun K3 hK3 => ?_)
  refine C_seqK (fun K4 hK4 => ?_)
  refine C_region ?_
  refine T_k F H (.slice pa.ad pa.n pa.c) ?_
  clear F; intro a F
  refine T_k F H (ni pa.n) ?_
  clear F; intro a F
  refine T_val F H kr (.bool true) (fun w _ => R_bin (x := (.tmp 14)) (y := (.const (.int .i64 4000))) rfl (k := .i64) (a := ((pa.n : Nat) : Int)) (b := ((4000 : Nat) : Int)) kr kr (i_gtn (by omega)) w) ?_
  clear F; intro a F
  refine T_k F H (.bool true) ?_
  clear F; intro a F
  refine T_skip F kr kr ?_
  clear F; intro a F
  refine T_skip F kr kr ?_
  clear F; intro a F
  refine T_skip F kr kr ?_
  clear F; intro a F
  refine T_k F H (.bool true) ?_
  clear F; intro a F
  refine wpList_nil ?_
  refine hK4 _ _ ?_
  clear hK4
  try clear K4
  refine C_if F true rfl rfl ?_
  refine C_seqK (fun K5 hK5 => ?_)
  refine C_region ?_
  refine T_k F H (.slice none 0 0) ?_
  clear F; intro a F
  refine T_k F H (ni 2) ?_
  clear F; intro a F
  refine wpList_nil ?_
  refine hK5 _ _ ?_
  clear hK5
  try clear K5
  refine wp_ret ?_
  repeat (first | with_reducible refine then_ret ?_ | with_reducible refine inB_ret ?_)
  exact C_ret F H (rs := [.tmp 8, .tmp 9]) rfl (vs := [.slice none 0 0, ni 2]) (.tmp rfl (.tmp rfl .nil)) (.tuple #[.slice none 0 0, ni 2]) rfl ⟨rfl, H.kept⟩

set_option maxRecDepth 100000 in
set_option maxHeartbeats 4000000 in
theorem seal_long2 (gm : Nat) (key : Nat → Nat) (pa : SlP) (ad : Option Addr) (nt cp : Nat) (h1 : pa.n ≤ 4000) (h2 : 4000 < nt) (w : World) : Calls Tryd.prog 43 #[.pointer (some ⟨gm, 0, none⟩), .agg (arrF .u8 32 key), .slice pa.ad pa.n pa.c, .slice ad nt cp] w fun e w' => e = .returned (.tuple #[.slice none 0 0, .int .i64 2]) ∧ Kept [] w w' := by
  refine C_enter Tryd.func43 rfl 35 Tryd.ntmps43 (Nat.le_of_ble_eq_true rfl) (fun a F => ?_)
  have H := Hp.start [] w
  replace F : Fm 35 [] [(0, pt gm 0), (1, kyV key), (2, .slice pa.ad pa.n pa.c), (3, .slice ad nt cp)] a := F.weak _ (subL_of kr)
  refine C_seqK (fun K1 hK1 => ?_)
  refine C_region ?_
  refine T_new F H kr (fun ad => pt ad 0) (ce (arrF .u8 32 key) 23) (fun w => kr) ?_
  clear F H; intro aq2 a v F H
  refine T_k F H (.slice none 0 0) ?_
  clear F; intro a F
  refine T_k F H (ni 0) ?_
  clear F; intro a F
  refine wpList_nil ?_
  refine hK1 _ _ ?_
  clear hK1
  try clear K1
  refine C_seqK (fun K3 hK3 => ?_)
  refine C_seqK (fun K4 hK4 => ?_)
  refine C_region ?_
  refine T_k F H (.slice pa.ad pa.n pa.c) ?_
  clear F; intro a F
  refine T_k F H (ni pa.n) ?_
  clear F; intro a F
  refine T_val F H kr (.bool false) (fun w _ => R_bin (x := (.tmp 14)) (y := (.const (.int .i64 4000))) rfl (k := .i64) (a := ((pa.n : Nat) : Int)) (b := ((4000 : Nat) : Int)) kr kr (i_ngtn (by omega)) w) ?_
  clear F; intro a F
  refine T_k F H (.bool false) ?_
  clear F; intro a F
  refine T_k F H (.slice ad nt cp) ?_
  clear F; intro a F
  refine T_k F H (ni nt) ?_
  clear F; intro a F
  refine T_val F H kr (.bool true) (fun w _ => R_bin (x := (.tmp 18)) (y := (.const (.int .i64 4000))) rfl (k := .i64) (a := ((nt : Nat) : Int)) (b := ((4000 : Nat) : Int)) kr kr (i_gtn (by omega)) w) ?_
  clear F; intro a F
  refine T_k F H (.bool true) ?_
  clear F; intro a F
  refine wpList_nil ?_
  refine hK4 _ _ ?_
  clear hK4
  try clear K4
  refine C_if F true rfl rfl ?_
  refine C_seqK (fun K5 hK5 => ?_)
  refine C_region ?_
  refine T_k F H (.slice none 0 0) ?_
  clear F; intro a F
  refine T_k F H (ni 2) ?_
  clear F; intro a F
  refine wpList_nil ?_
  refine hK5 _ _ ?_
  clear hK5
  try clear K5
  refine wp_ret ?_
  repeat (first | with_reducible refine then_ret ?_ | with_reducible refine inB_ret ?_)
  exact C_ret F H (rs := [.tmp 8, .tmp 9]) rfl (vs := [.slice none 0 0, ni 2]) (.tmp rfl (.tmp rfl .nil)) (.tuple #[.slice none 0 0, ni 2]) rfl ⟨rfl, H.kept⟩

set_option maxRecDepth 100000 in
set_option maxHeartbeats 4000000 in
theorem seal_none (gm n : Nat) (key : Nat → Nat) (hkey : ∀ i, i < 32 → key i < 256) (pa : SlP) (hba : ∀ x ∈ pa.l, x < 256) (hna : pa.l.length = pa.n) (hla : pa.n ≤ 4000) (ad : Option Addr) (cp : Nat) (w : World) (hW : LaidS w) (hm : w.heap[gm]? = some (.cells (mtr n) 91 (0, 0))) (hrda : RdK [gm] w pa) : Calls Tryd.prog 43 #[.pointer (some ⟨gm, 0, none⟩), .agg (arrF .u8 32 key), .slice pa.ad pa.n pa.c, .slice ad 0 cp] w fun e w' => ∃ r : SlR, e = .returned (.tuple #[.slice (some ⟨r.g, 0, none⟩) 32 r.cap, .int .i64 0]) ∧ True ∧ Own (oct (boxP key pa.l [] 0)) r.rest 32 r.cap 1 ∧ w.heap.size ≤ r.g ∧ w'.heap[r.g]? = some (.cells (sl (oct (boxP key pa.l [] 0)) r.rest) 5 (0, 0)) ∧ Kept [gm] w w' ∧ w'.heap[gm]? = some (.cells (mtr r.n) 91 (0, 0)) := by
  have hap := hW.apart1 hm
  refine C_enter Tryd.func43 rfl 35 Tryd.ntmps43 (Nat.le_of_ble_eq_true rfl) (fun a F => ?_)
  have H := Hp.startT (X := [gm]) (L := [bk gm (mtr n) 91]) ⟨hm, trivial⟩ (by simp) rfl
  replace F : Fm 35 [] [(0, pt gm 0), (1, kyV key), (2, .slice pa.ad pa.n pa.c), (3, .slice ad 0 cp)] a := F.weak _ (subL_of kr)
  refine C_seqK (fun K1 hK1 => ?_)
  refine C_region ?_
  refine T_new F H kr (fun ad => pt ad 0) (ce (arrF .u8 32 key) 23) (fun w => kr) ?_
  clear F H; intro aq2 a v F H
  refine T_k F H (.slice none 0 0) ?_
  clear F; intro a F
  refine T_k F H (ni 0) ?_
  clear F; intro a F
  refine wpList_nil ?_
  refine hK1 _ _ ?_
  clear hK1
  try clear K1
  refine C_seqK (fun K3 hK3 => ?_)
  refine C_seqK (fun K4 hK4 => ?_)
  refine C_region ?_
  refine T_k F H (.slice pa.ad pa.n pa.c) ?_
  clear F; intro a F
  refine T_k F H (ni pa.n) ?_
  clear F; intro a F
  refine T_val F H kr (.bool false) (fun w _ => R_bin (x := (.tmp 14)) (y := (.const (.int .i64 4000))) rfl (k := .i64) (a := ((pa.n : Nat) : Int)) (b := ((4000 : Nat) : Int)) kr kr (i_ngtn (by omega)) w) ?_
  clear F; intro a F
  refine T_k F H (.bool false) ?_
  clear F; intro a F
  refine T_k F H (.slice ad 0 cp) ?_
  clear F; intro a F
  refine T_k F H (ni 0) ?_
  clear F; intro a F
  refine T_k F H (.bool false) ?_
  clear F; intro a F
  refine T_k F H (.bool false) ?_
  clear F; intro a F
  refine wpList_nil ?_
  refine hK4 _ _ ?_
  clear hK4
  try clear K4
  refine C_if F false rfl rfl ?_
  refine wp_skip ?_
  refine hK3 _ _ ?_
  clear hK3
  try clear K3
  refine C_seqK (fun K5 hK5 => ?_)
  refine C_region ?_
  refine T_k F H (pt gm 0) ?_
  clear F; intro a F
  refine T_val F H kr (kyV key) (R_load (own := true) (g := aq2) (all := (arrF .u8 32 key)) (t := 23) (fr := (0, 0)) 0 kr 23 (.tmp 5) rfl 0 kr (arrF .u8 32 key) (part_all _) _ Tryd.underlying23 rfl (by rw [arrF_size]; kernel_rfl)) ?_
  clear F; intro a F
  refine T_callX (α := SlR) F H kr 66 #[pt gm 0, kyV key] (fun rX => pt rX.g 0) (fun rX => [bk rX.g (mkA gm key 0 0 zN 0 0 zN) 136, bk aq2 (arrF .u8 32 key) 23, bk gm (mtr n) 91]) (fun rX => True) (fun w => kr) (fun w H => callsX_newV H (made_any gm key _)) ?_
  clear F H; intro rq6 a v Qrq6 F H
  refine T_k F H (pt rq6.g 0) ?_
  clear F; intro a F
  refine wpList_nil ?_
  refine hK5 _ _ ?_
  clear hK5
  try clear K5
  refine C_seqK (fun K7 hK7 => ?_)
  refine C_region ?_
  refine T_k F H (pt rq6.g 0) ?_
  clear F; intro a F
  refine T_k F H (.slice ad 0 cp) ?_
  clear F; intro a F
  refine T_callX (α := SlR) F H kr 68 #[pt rq6.g 0, .slice ad 0 cp] (fun rX => .slice none 0 0) (fun rX => [bk rq6.g (mkA gm key 1 0 (hideK key) 0 0 zN) 136, bk aq2 (arrF .u8 32 key) 23, bk gm (mtr rX.n) 91]) (fun rX => True) (fun w => kr) (fun w H => callsX_put2 H (k := 2) (k2 := 0) rfl rfl (by decide) (mmix_none gm n rq6.g key hkey zN 0 0 zN ad cp _ (hW.keptS H.kept hap) (H.at_ (k := 2) rfl) (H.at_ (k := 0) rfl))) ?_
  clear F H; intro rq8 a v Qrq8 F H
  refine T_k F H (.slice none 0 0) ?_
  clear F; intro a F
  refine wpList_nil ?_
  refine hK7 _ _ ?_
  clear hK7
  try clear K7
  refine C_seqK (fun K9 hK9 => ?_)
  refine C_region ?_
  refine T_k F H (pt rq6.g 0) ?_
  clear F; intro a F
  refine T_k F H (.slice pa.ad pa.n pa.c) ?_
  clear F; intro a F
  refine T_k F H (.slice none 0 0) ?_
  clear F; intro a F
  refine T_callX (α := SlR) F H kr 67 #[pt rq6.g 0, .slice pa.ad pa.n pa.c, .slice none 0 0] (fun rX => kyV (tagP key pa.l [])) (fun rX => [bk rq6.g (mkA gm key 1 0 (hideK key) 1 0 (tagK key)) 136, bk aq2 (arrF .u8 32 key) 23, bk gm (mtr rX.n) 91]) (fun rX => True) (fun w => kr) (fun w H => callsX_put2 H (k := 2) (k2 := 0) rfl rfl (by decide) (msumx_any gm rq8.n rq6.g key hkey zN 1 0 (hideK key) pa ⟨none, 0, 0, []⟩ hba hna (by omega) (by simp) rfl (by show 0 ≤ 4000; omega) _ (hW.keptS H.kept hap) (H.at_ (k := 2) rfl) (H.at_ (k := 0) rfl) (hrda.step2 H (k := 2) (k2 := 0) rfl rfl) (fun _ _ => .inl ⟨rfl, rfl, rfl⟩))) ?_
  clear F H; intro rq10 a v Qrq10 F H
  refine T_new F H kr (fun ad => pt ad 0) (ce z8 23) (fun w => kr) ?_
  clear F H; intro aq11 a v F H
  refine T_set F H kr rfl 0 rfl (arrF .u8 32 (tagP key pa.l [])) (S_row 0 rfl 23 (.tmp 12) (.tmp 30) rfl kr (arrF .u8 32 (tagP key pa.l [])) kr (by rw [arrF_size]; kernel_rfl) (by rw [arrF_size]; kernel_rfl) (arrF_one _ _ _)) [bk aq11 (arrF .u8 32 (tagP key pa.l [])) 23, bk rq6.g (mkA gm key 1 0 (hideK key) 1 0 (tagK key)) 136, bk aq2 (arrF .u8 32 key) 23, bk gm (mtr rq10.n) 91] rfl ?_
  clear F H; intro a v F H
  refine wpList_nil ?_
  refine hK9 _ _ ?_
  clear hK9
  try clear K9
  refine C_seqK (fun K12 hK12 => ?_)
  refine C_region ?_
  refine T_k F H (.slice none 0 0) ?_
  clear F; intro a F
  refine T_k F H (sc aq11 0 32 32) ?_
  clear F; intro a F
  refine T_new F H kr (fun ad => sc ad 0 2 2) (ce #[.slice none 0 0, sc aq11 0 32 32] 54) (fun w => R_buildS (len := 2) rfl Tryd.underlying30 (#[.slice none 0 0, sc aq11 0 32 32]) kr w) ?_
  clear F H; intro aq13 a v F H
  refine T_callX (α := SlR) F H kr 71 #[sc aq13 0 2 2] (fun rX => sc rX.g 0 32 rX.cap) (fun rX => [bk rX.g (sl (oct (boxP key pa.l [] 0)) rX.rest) 5, bk aq13 #[.slice none 0 0, sc aq11 0 32 32] 54, bk aq11 (arrF .u8 32 (tagP key pa.l [])) 23, bk rq6.g (mkA gm key 1 0 (hideK key) 1 0 (tagK key)) 136, bk aq2 (arrF .u8 32 key) 23, bk gm (mtr rq10.n) 91]) (fun rX => Own (oct (boxP key pa.l [] 0)) rX.rest (32) rX.cap 1) (fun w => kr) (fun w H => callsX_newV H (concat_to [⟨none, 0, 0, []⟩, ⟨some ⟨aq11, 0, none⟩, 32, 32, kl (tagP key pa.l [])⟩] (boxP key pa.l [] 0) (32) (by show _ ++ (_ ++ []) = _; rw [List.append_nil]; rfl) (boxP_len _ _ [] 0) ⟨by omega, by omega, by simp⟩ _ _ (#[.slice none 0 0, sc aq11 0 32 32]) _ kr _ ⟨(.inl ⟨rfl, rfl, rfl⟩), (by first | rfl | simp [highL_len, hb_len, kl_len]), ⟨(RdS.of (H.at_ (k := 1) rfl) (Nat.le_refl _) (rd_key (tagP key pa.l []))), (by first | rfl | simp [highL_len, hb_len, kl_len]), trivial⟩⟩ (H.at_ (k := 0) rfl))) ?_
  clear F H; intro rq14 a v Qrq14 F H
  refine T_k F H (sc rq14.g 0 32 rq14.cap) ?_
  clear F; intro a F
  refine T_k F H (ni 0) ?_
  clear F; intro a F
  refine wpList_nil ?_
  refine hK12 _ _ ?_
  clear hK12
  try clear K12
  refine wp_ret ?_
  exact C_ret F H (rs := [.tmp 8, .tmp 9]) rfl (vs := [sc rq14.g 0 32 rq14.cap, ni 0]) (.tmp rfl (.tmp rfl .nil)) (.tuple #[sc rq14.g 0 32 rq14.cap, ni 0]) rfl ⟨⟨rq14.g, rq14.cap, rq14.rest, rq10.n⟩, rfl, trivial, Qrq14, (H.own _ (List.mem_of_getElem? (i := 0) rfl) rfl).resolve_right (fun hh => H.apart (i := 0) (j := 5) rfl rfl (by decide) (List.mem_singleton.1 hh)), H.at_ (k := 0) rfl, H.kept, H.at_ (k := 5) rfl⟩

set_option maxRecDepth 100000 in
set_option maxHeartbeats 4000000 in
theorem seal_some (gm n : Nat) (key : Nat → Nat) (hkey : ∀ i, i < 32 → key i < 256) (pa : SlP) (hba : ∀ x ∈ pa.l, x < 256) (hna : pa.l.length = pa.n) (hla : pa.n ≤ 4000) (tl : List Nat) (htl : ∀ x ∈ tl, x < 256) (ga oa nt cp : Nat) (arr : Array Value) (tyl : TypeId) (fr : Nat × Nat) (harr : ∀ j, j < nt → arr[oa + j]? = some (.int .u8 ((tl.getD j 0 : Nat) : Int))) (h0 : 0 < nt) (hnt : nt ≤ 4000) (hcp : nt ≤ cp) (hg1 : ga ≠ gm) (w : World) (hW : LaidS w) (hm : w.heap[gm]? = some (.cells (mtr n) 91 (0, 0))) (hrda : RdK [gm] w pa) (hga : w.heap[ga]? = some (.cells arr tyl fr)) : Calls Tryd.prog 43 #[.pointer (some ⟨gm, 0, none⟩), .agg (arrF .u8 32 key), .slice pa.ad pa.n pa.c, .slice (some ⟨ga, oa, none⟩) nt cp] w fun e w' => ∃ r : SlR, e = .returned (.tuple #[.slice (some ⟨r.g, 0, none⟩) (nt + 32) r.cap, .int .i64 0]) ∧ True ∧ Own (oct (boxP key pa.l tl nt)) r.rest (nt + 32) r.cap 1 ∧ w.heap.size ≤ r.g ∧ w'.heap[r.g]? = some (.cells (sl (oct (boxP key pa.l tl nt)) r.rest) 5 (0, 0)) ∧ Kept [gm] w w' ∧ w'.heap[gm]? = some (.cells (mtr r.n) 91 (0, 0)) := by
  have hap := hW.apart1 hm
  refine C_enter Tryd.func43 rfl 35 Tryd.ntmps43 (Nat.le_of_ble_eq_true rfl) (fun a F => ?_)
  have H := Hp.startM hm hga (Ne.symm hg1)
  replace F : Fm 35 [] [(0, pt gm 0), (1, kyV key), (2, .slice pa.ad pa.n pa.c), (3, sc ga oa nt cp)] a := F.weak _ (subL_of kr)
  refine C_seqK (fun K1 hK1 => ?_)
  refine C_region ?_
  refine T_new F H kr (fun ad => pt ad 0) (ce (arrF .u8 32 key) 23) (fun w => kr) ?_
  clear F H; intro aq2 a v F H
  refine T_k F H (.slice none 0 0) ?_
  clear F; intro a F
  refine T_k F H (ni 0) ?_
  clear F; intro a F
  refine wpList_nil ?_
  refine hK1 _ _ ?_
  clear hK1
  try clear K1
  refine C_seqK (fun K3 hK3 => ?_)
  refine C_seqK (fun K4 hK4 => ?_)
  refine C_region ?_
  refine T_k F H (.slice pa.ad pa.n pa.c) ?_
  clear F; intro a F
  refine T_k F H (ni pa.n) ?_
  clear F; intro a F
  refine T_val F H kr (.bool false) (fun w _ => R_bin (x := (.tmp 14)) (y := (.const (.int .i64 4000))) rfl (k := .i64) (a := ((pa.n : Nat) : Int)) (b := ((4000 : Nat) : Int)) kr kr (i_ngtn (by omega)) w) ?_
  clear F; intro a F
  refine T_k F H (.bool false) ?_
  clear F; intro a F
  refine T_k F H (sc ga oa nt cp) ?_
  clear F; intro a F
  refine T_k F H (ni nt) ?_
  clear F; intro a F
  refine T_val F H kr (.bool false) (fun w _ => R_bin (x := (.tmp 18)) (y := (.const (.int .i64 4000))) rfl (k := .i64) (a := ((nt : Nat) : Int)) (b := ((4000 : Nat) : Int)) kr kr (i_ngtn (by omega)) w) ?_
  clear F; intro a F
  refine T_k F H (.bool false) ?_
  clear F; intro a F
  refine wpList_nil ?_
  refine hK4 _ _ ?_
  clear hK4
  try clear K4
  refine C_if F false rfl rfl ?_
  refine wp_skip ?_
  refine hK3 _ _ ?_
  clear hK3
  try clear K3
  refine C_seqK (fun K5 hK5 => ?_)
  refine C_region ?_
  refine T_k F H (pt gm 0) ?_
  clear F; intro a F
  refine T_val F H kr (kyV key) (R_load (own := true) (g := aq2) (all := (arrF .u8 32 key)) (t := 23) (fr := (0, 0)) 0 kr 23 (.tmp 5) rfl 0 kr (arrF .u8 32 key) (part_all _) _ Tryd.underlying23 rfl (by rw [arrF_size]; kernel_rfl)) ?_
  clear F; intro a F
  refine T_callX (α := SlR) F H kr 66 #[pt gm 0, kyV key] (fun rX => pt rX.g 0) (fun rX => [bk rX.g (mkA gm key 0 0 zN 0 0 zN) 136, bk aq2 (arrF .u8 32 key) 23, bk gm (mtr n) 91, ⟨false, ga, .cells arr tyl fr⟩]) (fun rX => True) (fun w => kr) (fun w H => callsX_newV H (made_any gm key _)) ?_
  clear F H; intro rq6 a v Qrq6 F H
  refine T_k F H (pt rq6.g 0) ?_
  clear F; intro a F
  refine wpList_nil ?_
  refine hK5 _ _ ?_
  clear hK5
  try clear K5
  refine C_seqK (fun K7 hK7 => ?_)
  refine C_region ?_
  refine T_k F H (pt rq6.g 0) ?_
  clear F; intro a F
  refine T_k F H (sc ga oa nt cp) ?_
  clear F; intro a F
  refine T_callX (α := SlR) F H kr 68 #[pt rq6.g 0, sc ga oa nt cp] (fun rX => sc rX.g 0 nt rX.cap) (fun rX => [bk rX.g (sl (oct (hidP key tl nt)) rX.rest) 5, bk rq6.g (mkA gm key 1 0 (hideK key) 0 0 zN) 136, bk aq2 (arrF .u8 32 key) 23, bk gm (mtr rX.n) 91, ⟨false, ga, .cells arr tyl fr⟩]) (fun rX => Own (oct (hidP key tl nt)) rX.rest (nt) rX.cap 1) (fun w => kr) (fun w H => callsX_new2 H (k := 2) (k2 := 0) rfl rfl (by decide) (mmix_some gm n rq6.g key hkey zN 0 0 zN tl htl ga oa nt cp arr tyl fr harr h0 hnt hcp (H.apart (i := 3) (j := 2) rfl rfl (by decide)) (H.apart (i := 3) (j := 0) rfl rfl (by decide)) _ (hW.keptS H.kept hap) (H.at_ (k := 2) rfl) (H.at_ (k := 0) rfl) (H.at_ (k := 3) rfl))) ?_
  clear F H; intro rq8 a v Qrq8 F H
  refine T_k F H (sc rq8.g 0 nt rq8.cap) ?_
  clear F; intro a F
  refine wpList_nil ?_
  refine hK7 _ _ ?_
  clear hK7
  try clear K7
  refine C_seqK (fun K9 hK9 => ?_)
  refine C_region ?_
  refine T_k F H (pt rq6.g 0) ?_
  clear F; intro a F
  refine T_k F H (.slice pa.ad pa.n pa.c) ?_
  clear F; intro a F
  refine T_k F H (sc rq8.g 0 nt rq8.cap) ?_
  clear F; intro a F
  refine T_callX (α := SlR) F H kr 67 #[pt rq6.g 0, .slice pa.ad pa.n pa.c, sc rq8.g 0 nt rq8.cap] (fun rX => kyV (tagP key pa.l (hidP key tl nt))) (fun rX => [bk rq8.g (sl (oct (hidP key tl nt)) rq8.rest) 5, bk rq6.g (mkA gm key 1 0 (hideK key) 1 0 (tagK key)) 136, bk aq2 (arrF .u8 32 key) 23, bk gm (mtr rX.n) 91, ⟨false, ga, .cells arr tyl fr⟩]) (fun rX => True) (fun w => kr) (fun w H => callsX_put2 H (k := 3) (k2 := 1) rfl rfl (by decide) (msumx_any gm rq8.n rq6.g key hkey zN 1 0 (hideK key) pa ⟨some ⟨rq8.g, 0, none⟩, nt, rq8.cap, hidP key tl nt⟩ hba hna (by omega) (hidP_lt key htl nt) (hidP_len _ _ _) (by show nt ≤ 4000; omega) _ (hW.keptS H.kept hap) (H.at_ (k := 3) rfl) (H.at_ (k := 1) rfl) (hrda.step2 H (k := 3) (k2 := 1) rfl rfl) (RdK.own (H.at_ (k := 0) rfl) (Own.le Qrq8) (fun hh => (List.mem_cons.1 hh).elim (H.apart (i := 0) (j := 3) rfl rfl (by decide)) (fun h2 => H.apart (i := 0) (j := 1) rfl rfl (by decide) (List.mem_singleton.1 h2)))))) ?_
  clear F H; intro rq10 a v Qrq10 F H
  refine T_new F H kr (fun ad => pt ad 0) (ce z8 23) (fun w => kr) ?_
  clear F H; intro aq11 a v F H
  refine T_set F H kr rfl 0 rfl (arrF .u8 32 (tagP key pa.l (hidP key tl nt))) (S_row 0 rfl 23 (.tmp 12) (.tmp 30) rfl kr (arrF .u8 32 (tagP key pa.l (hidP key tl nt))) kr (by rw [arrF_size]; kernel_rfl) (by rw [arrF_size]; kernel_rfl) (arrF_one _ _ _)) [bk aq11 (arrF .u8 32 (tagP key pa.l (hidP key tl nt))) 23, bk rq8.g (sl (oct (hidP key tl nt)) rq8.rest) 5, bk rq6.g (mkA gm key 1 0 (hideK key) 1 0 (tagK key)) 136, bk aq2 (arrF .u8 32 key) 23, bk gm (mtr rq10.n) 91, ⟨false, ga, .cells arr tyl fr⟩] rfl ?_
  clear F H; intro a v F H
  refine wpList_nil ?_
  refine hK9 _ _ ?_
  clear hK9
  try clear K9
  refine C_seqK (fun K12 hK12 => ?_)
  refine C_region ?_
  refine T_k F H (sc rq8.g 0 nt rq8.cap) ?_
  clear F; intro a F
  refine T_k F H (sc aq11 0 32 32) ?_
  clear F; intro a F
  refine T_new F H kr (fun ad => sc ad 0 2 2) (ce #[sc rq8.g 0 nt rq8.cap, sc aq11 0 32 32] 54) (fun w => R_buildS (len := 2) rfl Tryd.underlying30 (#[sc rq8.g 0 nt rq8.cap, sc aq11 0 32 32]) kr w) ?_
  clear F H; intro aq13 a v F H
  refine T_callX (α := SlR) F H kr 71 #[sc aq13 0 2 2] (fun rX => sc rX.g 0 (nt + 32) rX.cap) (fun rX => [bk rX.g (sl (oct (boxP key pa.l tl nt)) rX.rest) 5, bk aq13 #[sc rq8.g 0 nt rq8.cap, sc aq11 0 32 32] 54, bk aq11 (arrF .u8 32 (tagP key pa.l (hidP key tl nt))) 23, bk rq8.g (sl (oct (hidP key tl nt)) rq8.rest) 5, bk rq6.g (mkA gm key 1 0 (hideK key) 1 0 (tagK key)) 136, bk aq2 (arrF .u8 32 key) 23, bk gm (mtr rq10.n) 91, ⟨false, ga, .cells arr tyl fr⟩]) (fun rX => Own (oct (boxP key pa.l tl nt)) rX.rest ((nt + 32)) rX.cap 1) (fun w => kr) (fun w H => callsX_newV H (concat_to [⟨some ⟨rq8.g, 0, none⟩, nt, rq8.cap, hidP key tl nt⟩, ⟨some ⟨aq11, 0, none⟩, 32, 32, kl (tagP key pa.l (hidP key tl nt))⟩] (boxP key pa.l tl nt) ((nt + 32)) (by show _ ++ (_ ++ []) = _; rw [List.append_nil]; rfl) (boxP_len _ _ _ _) ⟨by omega, by omega, by simp⟩ _ _ (#[sc rq8.g 0 nt rq8.cap, sc aq11 0 32 32]) _ kr _ ⟨(RdS.all (H.at_ (k := 2) rfl) (Own.le Qrq8)), (hidP_len _ _ _), ⟨(RdS.of (H.at_ (k := 1) rfl) (Nat.le_refl _) (rd_key (tagP key pa.l (hidP key tl nt)))), (by first | rfl | simp [highL_len, hb_len, kl_len]), trivial⟩⟩ (H.at_ (k := 0) rfl))) ?_
  clear F H; intro rq14 a v Qrq14 F H
  refine T_k F H (sc rq14.g 0 (nt + 32) rq14.cap) ?_
  clear F; intro a F
  refine T_k F H (ni 0) ?_
  clear F; intro a F
  refine wpList_nil ?_
  refine hK12 _ _ ?_
  clear hK12
  try clear K12
  refine wp_ret ?_
  exact C_ret F H (rs := [.tmp 8, .tmp 9]) rfl (vs := [sc rq14.g 0 (nt + 32) rq14.cap, ni 0]) (.tmp rfl (.tmp rfl .nil)) (.tuple #[sc rq14.g 0 (nt + 32) rq14.cap, ni 0]) rfl ⟨⟨rq14.g, rq14.cap, rq14.rest, rq10.n⟩, rfl, trivial, Qrq14, (H.own _ (List.mem_of_getElem? (i := 0) rfl) rfl).resolve_right (fun hh => H.apart (i := 0) (j := 6) rfl rfl (by decide) (List.mem_singleton.1 hh)), H.at_ (k := 0) rfl, H.kept, H.at_ (k := 6) rfl⟩
end Go.Proofs.YtdejhenkdbjakaaDoor
