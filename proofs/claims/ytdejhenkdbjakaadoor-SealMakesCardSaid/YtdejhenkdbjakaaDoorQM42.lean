/- VE VF -/
import Derived.Test.YtdejhenkdbjakaaDoorQM41
import Derived.Deep.AppendSrc
import Derived.Test.YtdejhenkdbjakaaDoorQM19
set_option linter.unusedVariables false
set_option linter.unusedSimpArgs false
set_option maxRecDepth 100000
set_option maxHeartbeats 4000000
namespace Go.Proofs.YtdejhenkdbjakaaDoor
open Go Go.RowKit
theorem run_appStr {P : Program} {o : Oper} {V : List (Nat × Value)} {w : World} {t tx : TypeId} {s x : Operand} (ho : o.op = .call { callee := .builtin .append, args := #[s, x], argTypes := #[t, tx] }) (ht : P.underlying t = some (.slice 5)) (htx : P.underlying tx = some .string) (hi0 : infoB P 5 1 1 = true) {g m0 cap : Nat} {xs : List Nat} (hs : evV V s = .slice (some ⟨g, 0, none⟩) m0 cap) (hm0 : xs.length = m0) (hc : cap = m0) (hg : w.heap[g]? = some (.cells (sl (oct xs) []) 5 (0, 0)))
    {sb : ByteArray} (hx : evV V x = .string sb) {lb : List Nat} (hsb : byteCells sb = oct lb) (hl : 1 ≤ lb.length) (hmax : m0 + lb.length < 1099511627776) :
    ∃ (r : SlR) (w' : World), (execOp (evV V) o).run P w = .ok (.value (.slice (some ⟨r.g, 0, none⟩) (m0 + lb.length) r.cap)) w' ∧ Own (oct (xs ++ lb)) r.rest (m0 + lb.length) r.cap 1 ∧ w.heap.size ≤ r.g ∧ w'.heap[r.g]? = some (.cells (sl (oct (xs ++ lb)) r.rest) 5 (0, 0)) ∧ Kept [] w w' := by
  obtain ⟨i, z, hi, hz, hsz, hb, hzs, _⟩ := infoB_spec hi0
  have hsn : sb.size = lb.length := by rw [← byteCells_length, hsb, ints_len]
  subst hm0 hc
  have hsrc := Src.ofString (P := P) w htx sb
  rw [hsn, hsb] at hsrc
  have hnew := run_append_grow_src (P := P) w t tx o.type 5 i z ht hi hz (some ⟨g, 0, none⟩) xs.length xs.length (oct xs) (run_firstCells_some (P := P) w.drew i.size xs.length ⟨g, 0, none⟩ xs.length xs.length (oct xs) (by rw [hsz, ints_len, Nat.mul_one]) (fun j u hj => by
    have hadd : (⟨g, 0, none⟩ : Addr).add j = ⟨g, 0 + j, none⟩ := by unfold Addr.add; split <;> simp_all
    rw [hadd, cell_of_row w.drew g (0 + j) _ 5 (0, 0) (show w.drew.heap[g]? = _ from hg), Nat.zero_add]
    exact sl_get hj)) (.string sb) lb.length (oct lb) (by rw [hsz]; exact hsrc) (by omega) (by omega) (by
      rw [hb]; exact growslice_fits (by omega) (by omega))
  have hge := grownCap_ge w (xs.length + lb.length) xs.length 5
  have hcm : grownCap w (xs.length + lb.length) xs.length 5 ≤ maxLen := grownCap_le_maxLen w (xs.length + lb.length) xs.length 5 (by simp only [maxLen]; omega)
  refine ⟨⟨w.heap.size, grownCap w (xs.length + lb.length) xs.length 5, (Builtin.zeroCells z.cells (grownCap w (xs.length + lb.length) xs.length 5 - (xs.length + lb.length))).toList, 0⟩, _, exec_append ho hs hx hnew, ⟨by rw [ints_len, List.length_append, Nat.mul_one], ?_, hge, hcm⟩, Nat.le_refl _, ?_, ?_⟩
  · have e1 : (oct (xs ++ lb)).length = xs.length + lb.length := by rw [ints_len, List.length_append]
    have e2 : ∀ a : Array Value, a.toList.length = a.size := fun _ => Array.length_toList
    dsimp only
    rw [e1, e2, size_zeroCells, hzs]
    omega
  · refine (heap_alloc_new w.drew _).trans ?_
    congr 2
    unfold sl
    rw [show oct (xs ++ lb) = oct xs ++ oct lb from ints_app .u8 xs lb]
    simp
  · exact (Kept.drew w).trans (by simp) (Kept.alloc _ _)
theorem lmac_blk (gl n kg kcap bg bm bcap : Nat) (kf : Nat → Nat) (hk : ∀ i, i < 32 → kf i < 256) (krest brest : List Value) (bl : List Nat) (hkc : 32 ≤ kcap) (hbn : bl.length = bm) (hbc : bm ≤ bcap) (hbs : bm < 549755813888) (hbb : ∀ x ∈ bl, x < 256) (w : World) (hkg : w.heap[kg]? = some (.cells (sl (oct (kl kf)) krest) 5 (0, 0))) (hbg : w.heap[bg]? = some (.cells (sl (oct bl) brest) 5 (0, 0))) (hm : w.heap[gl]? = some (.cells (lgr n) 32 (0, 0))) : Calls Tryd.prog 72 #[.pointer (some ⟨gl, 0, none⟩), .slice (some ⟨kg, 0, none⟩) 32 kcap, .slice (some ⟨bg, 0, none⟩) bm bcap] w fun e w' => ∃ r : SlR, e = .returned (.agg (arrF .u8 32 (macK (kl kf) bl))) ∧ True ∧ Kept [gl] w w' ∧ w'.heap[gl]? = some (.cells (lgr r.n) 32 (0, 0)) :=
  lmac_any gl n ⟨some ⟨kg, 0, none⟩, 32, kcap, kl kf⟩ (kl_lt hk) (kl_len kf) (by show 32 ≤ 64; omega) ⟨some ⟨bg, 0, none⟩, bm, bcap, bl⟩ hbb hbn hbs w (RdS.all hkg hkc) (fun ad n c e h => by
    cases e
    exact ne_of_ty hkg hm rfl (List.mem_singleton.1 h)) (RdS.all hbg hbc) (fun ad n c e h => by
    cases e
    exact ne_of_ty hbg hm rfl (List.mem_singleton.1 h)) hm

end Go.Proofs.YtdejhenkdbjakaaDoor
namespace Go.Proofs.YtdejhenkdbjakaaDoor
open Go Go.RowKit
theorem linfo0_any (sb : ByteArray) (lb : List Nat) (hsb : byteCells sb = oct lb) (hl0 : 1 ≤ lb.length) (hl1 : lb.length ≤ 255) (w : World) : Calls Tryd.prog 92 #[.string sb, .slice none 0 0] w (MadeS [] 5 1 (infoL lb []).length (oct (infoL lb [])) w) := by
  have hsz : sb.size = lb.length := by rw [← byteCells_length, hsb, ints_len]
  have hil : (infoL lb []).length = 1 + lb.length := by simp [infoL]; omega
  refine C_enter Tryd.func92 rfl 40 Tryd.ntmps92 (Nat.le_of_ble_eq_true rfl) (fun a F => ?_)
  have H := Hp.start [] w
  replace F : Fm 40 [] [(0, .string sb), (1, .slice none 0 0)] a := F.weak _ (subL_of kr);refine C_seqK fun K1 hK1 => C_region ?_;refine T_k F H (.slice none 0 0) ?_;clear F; intro a F;refine wpList_nil (hK1 _ _ ?_);clear hK1;refine C_seqK (fun K2 hK2 => ?_);refine C_seqK fun K3 hK3 => C_region ?_;refine T_k F H (.string sb) ?_;clear F; intro a F;refine T_val F H kr (ni lb.length) (fun step_ _ => by rw [← hsz]; kernel_rfl) ?_
  clear F; intro a F;refine T_val F H kr (.bool false) (fun w _ => R_bin rfl (k := .i64) (a := (lb.length : Nat)) (b := (255 : Nat)) kr kr (i_ngtn (by omega)) w) ?_;clear F; intro a F;refine wpList_nil (hK3 _ _ ?_);clear hK3;refine C_if F false rfl rfl ?_;refine wp_skip ?_;refine hK2 _ _ ?_;clear hK2;refine C_seqK fun K4 hK4 => C_region ?_;refine T_k F H (.string sb) ?_;clear F; intro a F;refine T_val F H kr (ni lb.length) (fun step_ _ => by rw [← hsz]; kernel_rfl) ?_;clear F; intro a F;refine T_val F H kr (nb lb.length) (fun w _ => R_conv rfl (k0 := .i64) kr kr (k := .i64) (a := (lb.length : Nat)) kr (wr8 (a := lb.length) (by omega)) w) ?_;clear F; intro a F;refine T_new F H kr (fun ad => sc ad 0 1 1) (ce (sl (ints .u8 [lb.length]) []) 5) (fun w => R_buildS (len := 1) rfl Tryd.underlying54 ((sl (ints .u8 [lb.length]) [])) kr w) ?_;clear F H; intro aq5 a v F H;refine T_k F H (.string sb) ?_;clear F; intro a F;refine T_newG F H kr (fun r => sc r.g 0 (1 + lb.length) r.cap) (fun r => ce (sl (oct ([lb.length] ++ lb)) r.rest) 5) (fun r => Own (oct ([lb.length] ++ lb)) r.rest (1 + lb.length) r.cap 1) (fun w hl => run_appStr (s := (.tmp 15)) rfl Tryd.underlying54 Tryd.underlying9 kr (m0 := 1) (cap := 1) (xs := [lb.length]) kr rfl rfl (hl.at_ (k := 0) rfl) (sb := sb) kr hsb hl0 (by omega)) ?_;clear F H; intro rq6 a v Qrq6 F H;refine T_k F H (sc rq6.g 0 (1 + lb.length) rq6.cap) ?_;clear F; intro a F;refine wpList_nil (hK4 _ _ ?_);clear hK4;refine C_seqK (fun K7 hK7 => ?_);refine C_seqK fun K8 hK8 => C_region ?_;refine T_k F H (ni 0) ?_;clear F; intro a F;refine wpList_nil ?_;replace F : Fm 40 [] [(6, ni 0), (5, sc rq6.g 0 (1 + lb.length) rq6.cap), (1, .slice none 0 0)] a := F.weak _ (subL_of kr);replace H : Hp [] w [bk rq6.g (sl (oct ([lb.length] ++ lb)) rq6.rest) 5] v := H.pick [0] kr _ rfl
  have hc9 : [lb.length] ++ lb = infoL lb [] := (by unfold infoL; simp)
  rw [hc9] at H Qrq6
  rw [← hil] at F Qrq6
  refine hK8 _ _ ?_;clear hK8;refine wp_block ?_;refine C_loop (fun m a v => Fm 40 [] [(6, ni 0), (5, sc rq6.g 0 (infoL lb []).length rq6.cap), (1, .slice none 0 0)] a ∧ Hp [] w [bk rq6.g (sl (oct (infoL lb [])) rq6.rest) 5] v) 0 ⟨F, H⟩ ?_;clear F H;intro m a v ⟨F, H⟩;refine C_seqK (fun K9 hK9 => ?_);refine C_seqK fun K10 hK10 => C_region ?_;refine T_k F H (ni 0) ?_;clear F; intro a F;refine T_k F H (.slice none 0 0) ?_;clear F; intro a F;refine T_k F H (ni 0) ?_;clear F; intro a F;refine T_k F H (.bool false) ?_;clear F; intro a F;refine wpList_nil (hK10 _ _ ?_);clear hK10;refine C_if F false rfl rfl ?_;refine wp_exit ?_;refine hK7 _ _ ?_;clear hK7;refine C_seqK fun K11 hK11 => C_region ?_;refine T_k F H (sc rq6.g 0 (infoL lb []).length rq6.cap) ?_;clear F; intro a F;refine T_k F H (sc rq6.g 0 (infoL lb []).length rq6.cap) ?_;clear F; intro a F;refine wpList_nil (hK11 _ _ ?_);clear hK11;refine wp_ret ?_
  exact C_ret F H (rs := [.tmp 4]) rfl (vs := [sc rq6.g 0 (infoL lb []).length rq6.cap]) (.tmp rfl .nil) (sc rq6.g 0 (infoL lb []).length rq6.cap) rfl (made_ret H (k := 0) rfl Qrq6)

theorem lder0_any (gl n : Nat) (key : Nat → Nat) (hkey : ∀ i, i < 32 → key i < 256) (sb : ByteArray) (lb : List Nat) (hsb : byteCells sb = oct lb) (hl0 : 1 ≤ lb.length) (hl1 : lb.length ≤ 255) (hlb : ∀ x ∈ lb, x < 256) (w : World) (hm : w.heap[gl]? = some (.cells (lgr n) 32 (0, 0))) : Calls Tryd.prog 69 #[.pointer (some ⟨gl, 0, none⟩), .agg (arrF .u8 32 key), .string sb, .slice none 0 0] w fun e w' => ∃ r : SlR, e = .returned (.agg (arrF .u8 32 (derK key lb []))) ∧ True ∧ Kept [gl] w w' ∧ w'.heap[gl]? = some (.cells (lgr r.n) 32 (0, 0)) := by
  have hil : (infoL lb []).length = 1 + lb.length := by simp [infoL]; omega
  have hlt9 : ∀ x ∈ (infoL lb []), x < 256 := by
    intro x hx
    unfold infoL at hx
    simp only [List.map_nil, List.flatten_nil, List.append_nil, List.mem_cons] at hx
    rcases hx with rfl | hx
    · omega
    · first | exact hlb x hx | (simp at hx; exact hlb x hx)
  obtain ⟨fk, hfk⟩ : ∃ fk, fk = derK key lb [] := ⟨_, rfl⟩
  rw [← hfk]
  refine C_enter Tryd.func69 rfl 20 Tryd.ntmps69 (Nat.le_of_ble_eq_true rfl) (fun a F => ?_)
  have H := Hp.startT (X := [gl]) (L := [bk gl (lgr n) 32]) ⟨hm, trivial⟩ (by simp) rfl
  replace F : Fm 20 [] [(0, pt gl 0), (1, kyV key), (2, .string sb), (3, .slice none 0 0)] a := F.weak _ (subL_of kr);refine C_seqK fun K1 hK1 => C_region ?_;refine T_new F H kr (fun ad => pt ad 0) (ce (arrF .u8 32 key) 23) (fun w => kr) ?_;clear F H; intro aq2 a v F H;refine T_new F H kr (fun ad => pt ad 0) (ce z8 23) (fun w => kr) ?_;clear F H; intro aq3 a v F H;refine wpList_nil (hK1 _ _ ?_);clear hK1;refine C_seqK fun K4 hK4 => C_region ?_;refine T_k F H (.string sb) ?_;clear F; intro a F;refine T_k F H (.slice none 0 0) ?_;clear F; intro a F;refine T_callX (α := SlR) F H kr 92 #[.string sb, .slice none 0 0] (fun rX => sc rX.g 0 (infoL lb []).length rX.cap) (fun rX => [bk rX.g (sl (oct ((infoL lb []))) rX.rest) 5, bk aq3 z8 23, bk aq2 (arrF .u8 32 key) 23, bk gl (lgr n) 32]) (fun rX => Own (oct ((infoL lb []))) rX.rest ((infoL lb []).length) rX.cap 1) (fun w => kr) (fun w H => callsX_newV H (linfo0_any sb lb hsb hl0 hl1 _)) ?_;clear F H; intro rq5 a v Qrq5 F H;refine T_k F H (sc rq5.g 0 (infoL lb []).length rq5.cap) ?_;clear F; intro a F;refine wpList_nil (hK4 _ _ ?_);clear hK4;refine C_seqK fun K6 hK6 => C_region ?_;refine T_k F H (pt gl 0) ?_;clear F; intro a F;refine T_val F H kr (kyV key) (R_load (own := true) (g := aq2) (all := (arrF .u8 32 key)) (t := 23) (fr := (0, 0)) 2 kr 23 (.tmp 5) rfl 0 kr (arrF .u8 32 key) (part_all _) _ Tryd.underlying23 rfl (by rw [arrF_size]; kernel_rfl)) ?_;clear F; intro a F;refine T_callX (α := SlR) F H kr 47 #[kyV key] (fun rX => sc rX.g 0 32 rX.cap) (fun rX => [bk rX.g (sl (oct (kl key)) rX.rest) 5, bk rq5.g (sl (oct ((infoL lb []))) rq5.rest) 5, bk aq3 z8 23, bk aq2 (arrF .u8 32 key) 23, bk gl (lgr n) 32]) (fun rX => Own (oct (kl key)) rX.rest (32) rX.cap 1) (fun w => kr) (fun w H => callsX_newV H (bytesR_any key _)) ?_;clear F H; intro rq7 a v Qrq7 F H;refine T_k F H (sc rq5.g 0 (infoL lb []).length rq5.cap) ?_;clear F; intro a F;refine T_new F H kr (fun ad => sc ad 0 1 1) (ce (sl (ints .u8 [1]) []) 5) (fun w => R_buildS (len := 1) rfl Tryd.underlying54 ((sl (ints .u8 [1]) [])) kr w) ?_;clear F H; intro aq8 a v F H;refine T_app F H kr 54 5 (.tmp 16) (.tmp 17) rfl 1 1 kr kr 2 rfl Qrq5 kr (1) (ints .u8 [1]) (fun w hk hl => (RdS.all (hl.at_ (k := 0) rfl) (Nat.le_refl _))) (by rw [ints_len]; first | rfl | simp [highL_len, hb_len]) (ints_one _ _) (by simp only [maxLen]; omega) (by omega) _ rfl ?_;clear F H; intro rq9 a v Qrq9 F H
  have hc9 : (oct ((infoL lb []))) ++ (ints .u8 [1]) = oct ((infoL lb []) ++ [1]) := (ints_app .u8 _ _).symm
  rw [hc9] at H Qrq9
  refine T_callX (α := SlR) F H kr 72 #[pt gl 0, sc rq7.g 0 32 rq7.cap, sc rq9.g 0 ((infoL lb []).length + 1) rq9.cap] (fun rX => kyV fk) (fun rX => [bk rq9.g (sl (oct ((infoL lb []) ++ [1])) rq9.rest) 5, bk aq8 (sl (ints .u8 [1]) []) 5, bk rq7.g (sl (oct (kl key)) rq7.rest) 5, bk aq3 z8 23, bk aq2 (arrF .u8 32 key) 23, bk gl (lgr rX.n) 32]) (fun rX => True) (fun w => kr) (fun w H => callsX_putV H (k := 5) rfl ((lmac_blk gl n rq7.g rq7.cap rq9.g (((infoL lb []).length + 1)) (rq9.cap) key hkey _ _ ((infoL lb []) ++ [1]) Qrq7.le (by rw [List.length_append]; rfl) Qrq9.le (by omega) (fun x hx => (List.mem_append.1 hx).elim (hlt9 x) (fun h => by simp at h; omega)) _ (H.at_ (k := 2) rfl) (H.at_ (k := 0) rfl) (H.at_ (k := 5) rfl)).mono (fun _ _ ⟨r, q1, q2⟩ => ⟨r, by rw [q1, hfk]; rfl, q2⟩))) ?_;clear F H; intro rq10 a v Qrq10 F H;refine T_set F H kr rfl 3 rfl (arrF .u8 32 fk) (S_row 3 rfl 23 (.tmp 8) (.tmp 19) rfl kr (arrF .u8 32 fk) kr (by rw [arrF_size]; kernel_rfl) (by rw [arrF_size]; kernel_rfl) (arrF_one _ _ _)) [bk rq9.g (sl (oct ((infoL lb []) ++ [1])) rq9.rest) 5, bk aq8 (sl (ints .u8 [1]) []) 5, bk rq7.g (sl (oct (kl key)) rq7.rest) 5, bk aq3 (arrF .u8 32 fk) 23, bk aq2 (arrF .u8 32 key) 23, bk gl (lgr rq10.n) 32] rfl ?_;clear F H; intro a v F H;refine wpList_nil (hK6 _ _ ?_);clear hK6;refine wp_ret ?_
  exact C_ret F H (rs := [.cell 8 23]) rfl (vs := [kyV fk]) (.row 3 rfl rfl _ Tryd.underlying23 rfl kr .nil) (kyV fk) rfl ⟨⟨0, 0, [], rq10.n⟩, rfl, trivial, H.kept, H.at_ (k := 5) rfl⟩

end Go.Proofs.YtdejhenkdbjakaaDoor
