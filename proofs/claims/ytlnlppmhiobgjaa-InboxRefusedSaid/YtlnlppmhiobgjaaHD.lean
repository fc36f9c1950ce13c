/- Walk: InboxRefused. -/
import Derived.Test.YtlnlppmhiobgjaaHC
set_option linter.unusedVariables false
set_option linter.unusedSimpArgs false
namespace Go.Proofs.Ytlnlppmhiobgjaa
open Go Go.RowKit
section
variable {X : List Nat} {w0 w : World} {R : List Blk} {xb : Nat} {s : InS}
theorem put_full_S (hs : s.ok) (H : Hp X w0 (s.blks xb ++ R) w) (b : Sv) (hb : b.RdK (s.ads xb) w) (h8 : s.U.length = 8) : Calls Try.prog 10 #[.pointer (some ⟨xb, 0, none⟩), b.v] w fun e w' => ∃ s' : InS, e = .returned (.int .i64 63) ∧ (s'.ok ∧ s'.U = s.U ∧ s'.M = s.M) ∧ Hp X w0 (s'.blks xb ++ R) w' := by
  have h := put_S hs H b hb
  rw [if_pos h8, if_pos h8] at h
  exact h
theorem put_room_S (hs : s.ok) (H : Hp X w0 (s.blks xb ++ R) w) (b : Sv) (hb : b.RdK (s.ads xb) w) (h8 : ¬ s.U.length = 8) : Calls Try.prog 10 #[.pointer (some ⟨xb, 0, none⟩), b.v] w fun e w' => ∃ s' : InS, e = .returned (.int .i64 0) ∧ (s'.ok ∧ s'.U = s.U ++ [b.l] ∧ s'.M = s.M) ∧ Hp X w0 (s'.blks xb ++ R) w' := by
  have h := put_S hs H b hb
  rw [if_neg h8, if_neg h8] at h
  exact h
end
theorem pm2 {α : Type} {A B R : List α} {p : α} : (A ++ (B ++ (p :: R))).Perm (p :: (A ++ (B ++ R))) := (List.Perm.append_left A List.perm_middle).trans List.perm_middle
theorem hHold_inv {nx ix : Nat} {l : List Nat} {D : HD} (ol : octs l) (oD : ∀ d ∈ D, octs d.2) : (∀ d ∈ (hHold nx ix l D).2, octs d.2) ∧ (hHold nx ix l D).2.length ≤ D.length + 1 ∧ ((hHold nx ix l D).1 ≠ 0 → (hHold nx ix l D).2 = D) := by
  unfold hHold
  split
  · exact ⟨oD, Nat.le_succ _, fun _ => rfl⟩
  · split
    · exact ⟨oD, Nat.le_succ _, fun _ => rfl⟩
    · split
      · refine ⟨fun d hd => (List.mem_append.1 hd).elim (oD d) fun h => ?_, by rw [List.length_append]; exact Nat.le_refl _, fun h => absurd rfl h⟩
        rw [List.mem_singleton.1 h]; exact ol
      · split
        · exact ⟨oD, Nat.le_succ _, fun h => absurd rfl h⟩
        · exact ⟨oD, Nat.le_succ _, fun _ => rfl⟩
theorem hLoad_inv {h : List (Nat × Sv)} {u : List (List Nat)} {D : HD} {U : List (List Nat)} (oh : ∀ x ∈ h, octs x.2.l) (oD : ∀ d ∈ D, octs d.2) : (∀ d ∈ (hLoad (h.map dS) u D U).2.1, octs d.2) ∧ (hLoad (h.map dS) u D U).2.1.length ≤ D.length + 3 ∧ ((hLoad (h.map dS) u D U).1 ≠ 0 → (hLoad (h.map dS) u D U).2.1 = D ∧ (hLoad (h.map dS) u D U).2.2 = U) := by
  unfold hLoad
  split
  · exact ⟨oD, Nat.le_add_right _ _, fun _ => ⟨rfl, rfl⟩⟩
  · rename_i hn
    split
    · exact ⟨oD, Nat.le_add_right _ _, fun _ => ⟨rfl, rfl⟩⟩
    · refine ⟨fun d hd => ?_, ?_, fun h => absurd rfl h⟩
      · obtain ⟨x, hx, rfl⟩ := List.mem_map.1 hd
        exact oh x hx
      · have : ¬ 4 ≤ (h.map dS).length := fun q => hn (.inr q)
        show (h.map dS).length ≤ _
        omega
/-- What there is, at the k-th operation. -/
structure Iv (s : InS) (k : Nat) : Prop where
  ok : s.ok
  o : ∀ d ∈ s.hD, octs d.2
  len : s.hD.length ≤ 3 * k
theorem opj_ld {w : World} {g off k : Nat} {ops : List OpJ} {op : OpJ} (h : RdB w g off (ops.flatMap OpJ.cells)) (hk : ops[k]? = some op) : ∀ j v, op.cells.toArray[j]? = some v → w.cell? ⟨g, off + k * 6 + j, none⟩ = some v := fun j v hj => by
  rw [List.getElem?_toArray] at hj
  exact opj_cell h hk hj
abbrev opA (d : Int) (nx ix : Nat) (b : Sv) (h : Hv) (u : Uv) : Array Value := #[.int .i64 d, .int .u32 ((nx : Nat) : Int), .int .u32 ((ix : Nat) : Int), .slice b.ad b.l.length b.c, .slice h.ad h.hs.length h.c, .slice u.ad u.ss.length u.c]
theorem opA_one (d : Int) (nx ix : Nat) (b : Sv) (h : Hv) (u : Uv) : (opA d nx ix b h u).all (·.oneCell') = true := by
  simp only [opA, List.all_toArray, List.all_cons, List.all_nil, Bool.and_true]
  rfl
theorem told_at {o p : Hs} (h : o.D = p.D) {k : Nat} {a : Nat × Cl} (hk : o.cs[k]? = some a) : ∃ b, p.cs[k]? = some b ∧ b.1 = a.1 ∧ b.2.l = a.2.l := by
  have h1 : (o.cs.map dH)[k]? = (p.cs.map dH)[k]? := congrArg (fun l => l[k]?) h
  rw [List.getElem?_map, List.getElem?_map, hk] at h1
  cases hp : p.cs[k]? with
  | none => rw [hp] at h1; cases h1
  | some b =>
    rw [hp] at h1
    have h2 : dH a = dH b := Option.some.inj h1
    exact ⟨b, rfl, (congrArg Prod.fst h2).symm, (congrArg Prod.snd h2).symm⟩
theorem Hs.mem {o : Hs} (h : o.ok) {k : Nat} {c : Nat × Cl} (hk : o.cs[k]? = some c) {p : Blk} (hp : p ∈ c.2.blks) : p ∈ o.blks := by
  obtain ⟨nl, g, cap, rest, cs⟩ := o
  cases nl with
  | true => have h0 : cs = [] := h.nil rfl; subst h0; cases hk
  | false => exact List.mem_cons_of_mem _ (List.mem_flatMap.2 ⟨c.2, List.mem_map_of_mem (List.mem_of_getElem? hk), hp⟩)
theorem find_in {nx : Nat} {D : HD} : (∃ l, (nx, l) ∈ D) ∨ ∀ d ∈ D, d.1 ≠ nx := by
  by_cases h : ∃ l, (nx, l) ∈ D
  · exact .inl h
  · exact .inr fun d hd e => h ⟨d.2, by rw [← e]; exact hd⟩
theorem rf_weak {w0 w : World} {p : Blk} {A B R : List Blk} (H : Hp [] w0 (p :: (A ++ (B ++ R))) w) : Hp [] w0 (A ++ R) w := H.weak (List.Sublist.cons _ (List.Sublist.append (List.Sublist.refl _) (List.sublist_append_right _ _)))

set_option maxRecDepth 100000 in
set_option maxHeartbeats 4000000 in
theorem inboxRefused_any (la : Option Addr) (c : Nat) (ops : List OpJ) (w : World) (hI : OpsK w la c ops) : Calls Try.prog 7 #[.slice la ops.length c] w fun e w' => e = .returned (.bool true) ∧ Kept [] w w' := by
  refine C_enter Try.func7 rfl 125 Try.ntmps7 (Nat.le_of_ble_eq_true rfl) (fun a F => ?_)
  have H := Hp.start [] w
  replace F : Fm 125 [] [(0, .slice la ops.length c)] a := F.weak _ (subL_of kr)
  refine C_seqK (fun K1 hK1 => ?_)
  refine C_region ?_
  refine T_k F H (.bool false) ?_
  clear F; intro a F
  refine wpList_nil ?_
  refine hK1 _ _ ?_
  clear hK1
  try clear K1
  refine C_seqK (fun K2 hK2 => ?_)
  refine C_region ?_
  refine T_call F H kr 8 #[] (.bool true) (fun w => kr) (awake22_any _) ?_
  clear F H; intro a v F H
  refine T_k F H (.bool true) ?_
  clear F; intro a F
  refine wpList_nil ?_
  refine hK2 _ _ ?_
  clear hK2
  try clear K2
  refine C_seqK (fun K3 hK3 => ?_)
  refine C_region ?_
  refine T_k F H (.agg #[.map none, .slice none 0 0]) ?_
  clear F; intro a F
  refine T_new F H kr (fun ad => pt ad 0) (ce #[.map none, .slice none 0 0] 28) (fun w => kr) ?_
  clear F H; intro aq4 a v F H
  refine T_k F H (pt aq4 0) ?_
  clear F; intro a F
  refine wpList_nil ?_
  replace H : Hp [] w [bk aq4 #[.map none, .slice none 0 0] 28] v := H.pick [0] kr _ rfl
  generalize aq4 = xb at F H
  replace H : Hp [] w ((⟨true, 0, 0, [], true, none, r0, []⟩ : InS).blks xb ++ []) v := H
  refine hK3 _ _ ?_
  clear hK3
  try clear K3
  refine C_seqK (fun K5 hK5 => ?_)
  refine C_seqK (fun K6 hK6 => ?_)
  refine C_region ?_
  refine T_k F H (.slice la ops.length c) ?_
  clear F; intro a F
  refine T_k F H (ni ops.length) ?_
  clear F; intro a F
  refine T_val F H kr (.bool (decide (80 < ops.length))) (fun w _ => R_bin (x := (.tmp 17)) (y := (.const (.int .i64 80))) rfl (k := .i64) (a := ((ops.length : Nat) : Int)) (b := ((80 : Nat) : Int)) kr kr i_gtrd w) ?_
  clear F; intro a F
  refine wpList_nil ?_
  refine hK6 _ _ ?_
  clear hK6
  try clear K6
  by_cases hc : 80 < ops.length
  · rw [decide_eq_true hc] at F
    refine C_if F true rfl rfl ?_
    refine C_seqK (fun K7 hK7 => ?_)
    refine C_region ?_
    refine T_k F H (.bool true) ?_
    clear F; intro a F
    refine T_k F H (.bool true) ?_
    clear F; intro a F
    refine wpList_nil ?_
    refine hK7 _ _ ?_
    clear hK7
    try clear K7
    refine wp_ret ?_
    repeat (first | with_reducible refine then_ret ?_ | with_reducible refine inB_ret ?_)
    exact C_ret F H (rs := [.tmp 2]) rfl (vs := [.bool true]) (.tmp rfl .nil) (.bool true) rfl ⟨rfl, H.kept⟩
  rw [decide_eq_false hc] at F
  refine C_if F false rfl rfl ?_
  refine wp_skip ?_
  refine hK5 _ _ ?_
  clear hK5
  try clear K5
  refine C_seqK (fun K8 hK8 => ?_)
  refine C_seqK (fun K9 hK9 => ?_)
  refine C_region ?_
  refine T_k F H (ni 0) ?_
  clear F; intro a F
  refine wpList_nil ?_
  refine hK9 _ _ ?_
  clear hK9
  try clear K9
  replace F : Fm 125 [] [(5, ni 0), (0, .slice la ops.length c), (3, .bool true), (4, pt xb 0)] a := F.weak _ (subL_of kr)
  have hlen : ops.length ≤ 80 := Nat.not_lt.1 hc
  clear hc
  refine wp_block ?_
  refine C_loop (fun m a v => ∃ (k : Nat) (s : InS), k + m = ops.length ∧ Iv s k ∧ Fm 125 [] [(5, ni k), (0, .slice la ops.length c), (3, .bool true), (4, pt xb 0)] a ∧ Hp [] w (s.blks xb ++ []) v) ops.length ⟨0, (⟨true, 0, 0, [], true, none, r0, []⟩ : InS), Nat.zero_add _, ⟨i0_ok, (fun d hd => by cases hd), Nat.zero_le _⟩, F, H⟩ ?_
  clear F H
  intro m a v ⟨k, s, hk, hJ, F, H⟩
  rcases m with _ | m
  rotate_left
  · obtain ⟨op, hop⟩ : ∃ op, ops[k]? = some op := ⟨_, List.getElem?_eq_getElem (show k < ops.length by omega)⟩
    obtain ⟨ga, oa, e1, hr⟩ := hI.j.at_ (fun e => by rw [e] at hop; cases hop)
    subst e1
    have hopm := List.mem_of_getElem? hop
    obtain ⟨hob, hnx32, hix⟩ := hI.j.each op hopm
    have hoo := hI.o op hopm
    obtain ⟨hh, ehh, hhr⟩ := hI.h op hopm
    obtain ⟨uu, euu, huu⟩ := hI.u op hopm
    obtain ⟨dd, nx, ix, b, hv, uv⟩ := op
    dsimp only at ehh euu hob hnx32 hix hoo
    subst ehh euu
    have hs := hJ.ok
    have hJl := hJ.len
    replace F : Fm 125 [] [(5, ni k), (0, sc ga oa ops.length c), (3, .bool true), (4, pt xb 0)] a := F
    replace H : Hp [] w (s.blks xb ++ []) v := H
    refine C_seqK (fun K10 hK10 => ?_)
    refine C_seqK (fun K11 hK11 => ?_)
    refine C_region ?_
    refine T_k F H (ni k) ?_
    clear F; intro a F
    refine T_k F H (sc ga oa ops.length c) ?_
    clear F; intro a F
    refine T_k F H (ni ops.length) ?_
    clear F; intro a F
    refine T_val F H kr (.bool true) (fun w _ => R_bin (x := (.tmp 20)) (y := (.tmp 22)) rfl (k := .i64) (a := ((k : Nat) : Int)) (b := ((ops.length : Nat) : Int)) kr kr (i_lt (by omega)) w) ?_
    clear F; intro a F
    refine wpList_nil ?_
    refine hK11 _ _ ?_
    clear hK11
    try clear K11
    refine C_if F true rfl rfl ?_
    refine wp_skip ?_
    refine hK10 _ _ ?_
    clear hK10
    try clear K10
    refine C_seqK (fun K12 hK12 => ?_)
    refine wp_block ?_
    refine C_seqK (fun K13 hK13 => ?_)
    refine C_region ?_
    refine T_k F H (sc ga oa ops.length c) ?_
    clear F; intro a F
    refine T_k F H (ni k) ?_
    clear F; intro a F
    refine T_val F H kr (pt ga (oa + (k) * 6)) (fun w _ => R_indexS (k := .i64) (g := ga) (off := oa) (len := ops.length) (cap := c) (x := (.tmp 26)) (y := (.tmp 27)) rfl Try.underlying22 kr (k) kr (by omega) (sz := 6) kr w) ?_
    clear F; intro a F
    refine T_valK F H kr (.agg (opA dd nx ix b hh uu)) (fun w hk hl => R_ldA (y := (.tmp 28)) rfl (g := ga) (off := oa + k * 6) kr (opA dd nx ix b hh uu) (opj_ld (hr.kept hk List.not_mem_nil) hop) _ Try.underlying33 rfl kr) ?_
    clear F; intro a F
    refine T_new F H kr (fun ad => pt ad 0) (ce #[.int .i64 0, .int .u32 0, .int .u32 0, .slice none 0 0, .slice none 0 0, .slice none 0 0] 33) (fun w => kr) ?_
    clear F H; intro aq14 a v F H
    refine T_set F H kr rfl 0 rfl (opA dd nx ix b hh uu) (S_row 0 rfl 33 (.tmp 6) (.tmp 29) rfl kr (opA dd nx ix b hh uu) kr kr kr (opA_one ..)) ((bk aq14 (opA dd nx ix b hh uu) 33) :: (s.blks xb ++ [])) rfl ?_
    clear F H; intro a v F H
    generalize aq14 = pb at F H
    refine wpList_nil ?_
    refine hK13 _ _ ?_
    clear hK13
    try clear K13
    refine C_seqK (fun K15 hK15 => ?_)
    refine C_region ?_
    refine T_k F H (pt xb 0) ?_
    clear F; intro a F
    refine T_callX (α := Hs) F H kr 22 #[pt xb 0] (fun rX => rX.v) (fun rX => (bk pb (opA dd nx ix b hh uu) 33) :: (s.blks xb ++ (rX.blks ++ []))) (fun rX => rX.ok ∧ rX.cs.Pairwise (fun a b => a.1 ≤ b.1) ∧ rX.D.Perm s.hD) (fun w => kr) (fun w H => (held_S hs (by omega) (H.perm List.perm_middle.symm)).mono fun _ _ ⟨r, q1, q2, q3⟩ => ⟨r, q1, q2, q3.perm pm2⟩) ?_
    clear F H; intro s16 a v Qs16 F H
    obtain ⟨o1, hx1⟩ : ∃ q, q = s16 := ⟨_, rfl⟩
    rw [← hx1] at Qs16 F H
    clear hx1
    obtain ⟨ho1, hpw1, hpm1⟩ := Qs16
    rw [Hs.v_eq ho1] at F
    have hle1 := Hs.le ho1
    have hol1 : o1.cs.length = s.hD.length := by
      have h1 := hpm1.length_eq
      unfold Hs.D at h1
      rwa [List.length_map] at h1
    have hcell1 := fun k c (hk : o1.cs[k]? = some c) => Hs.cell ho1 hk
    obtain ⟨ad1, had1⟩ : ∃ q, q = o1.ad := ⟨_, rfl⟩
    obtain ⟨cp1, hcp1⟩ : ∃ q, q = o1.cp := ⟨_, rfl⟩
    rw [← had1, ← hcp1] at F
    rw [← hcp1] at hle1
    simp only [← had1] at hcell1
    clear had1 hcp1
    replace F : Fm 125 [] [(31, .slice ad1 o1.cs.length cp1), (30, pt xb 0), (6, pt pb 0), (29, .agg (opA dd nx ix b hh uu)), (28, pt ga (oa + (k) * 6)), (27, ni k), (26, sc ga oa ops.length c), (23, .bool true), (22, ni ops.length), (21, sc ga oa ops.length c), (20, ni k), (5, ni k), (0, sc ga oa ops.length c), (3, .bool true), (4, pt xb 0)] a := F.weak _ (subL_of kr)
    replace H : Hp [] w ((bk pb (opA dd nx ix b hh uu) 33) :: (s.blks xb ++ (o1.blks ++ []))) v := H
    refine T_k F H (.slice ad1 o1.cs.length cp1) ?_
    clear F; intro a F
    refine wpList_nil ?_
    refine hK15 _ _ ?_
    clear hK15
    try clear K15
    refine C_seqK (fun K17 hK17 => ?_)
    refine C_region ?_
    refine T_k F H (pt xb 0) ?_
    clear F; intro a F
    refine T_callX (α := Ls) F H kr 13 #[pt xb 0] (fun rX => rX.v) (fun rX => (bk pb (opA dd nx ix b hh uu) 33) :: (s.blks xb ++ (rX.blks ++ (o1.blks ++ [])))) (fun rX => rX.ok ∧ rX.ls = s.U ∧ rX.cs.length ≤ 8) (fun w => kr) (fun w H => (unread_S hs (H.perm List.perm_middle.symm)).mono fun _ _ ⟨r, q1, q2, q3⟩ => ⟨r, q1, q2, q3.perm pm2⟩) ?_
    clear F H; intro s18 a v Qs18 F H
    obtain ⟨v1, hx1⟩ : ∃ q, q = s18 := ⟨_, rfl⟩
    rw [← hx1] at Qs18 F H
    clear hx1
    obtain ⟨hv1, hvl1, hvn1⟩ := Qs18
    replace F : Fm 125 [] [(33, (v1.v)), (32, pt xb 0), (7, .slice ad1 o1.cs.length cp1), (31, .slice ad1 o1.cs.length cp1), (30, pt xb 0), (6, pt pb 0), (29, .agg (opA dd nx ix b hh uu)), (28, pt ga (oa + (k) * 6)), (27, ni k), (26, sc ga oa ops.length c), (23, .bool true), (22, ni ops.length), (21, sc ga oa ops.length c), (20, ni k), (5, ni k), (0, sc ga oa ops.length c), (3, .bool true), (4, pt xb 0)] a := F.weak _ (subL_of kr)
    replace H : Hp [] w ((bk pb (opA dd nx ix b hh uu) 33) :: (s.blks xb ++ (v1.blks ++ (o1.blks ++ [])))) v := H
    refine T_k F H ((v1.v)) ?_
    clear F; intro a F
    refine wpList_nil ?_
    refine hK17 _ _ ?_
    clear hK17
    try clear K17
    refine C_seqK (fun K19 hK19 => ?_)
    refine C_region ?_
    refine T_k F H (ni 0) ?_
    clear F; intro a F
    refine wpList_nil ?_
    refine hK19 _ _ ?_
    clear hK19
    try clear K19
    refine C_seqK (fun K20 hK20 => ?_)
    refine (fun (hN : ∀ a v, (∃ (s3 : InS) (code : Nat), (Iv s3 (k + 1) ∧ (code ≠ 0 → s3.hD = s.hD ∧ s3.U = s.U)) ∧ Fm 125 [] [(9, ni code), (8, (v1.v)), (7, .slice ad1 o1.cs.length cp1), (5, ni k), (0, sc ga oa ops.length c), (3, .bool true), (4, pt xb 0)] a ∧ Hp [] w (s3.blks xb ++ (v1.blks ++ (o1.blks ++ []))) v) → K20 a v) => ?_) (fun a v ⟨s3, code, ⟨hJ3, hsame⟩, F, H⟩ => hK20 _ _ ?_)
    · clear hK20
      have hcase : dd = 1 ∨ dd = 2 ∨ dd = 3 ∨ dd = 4 ∨ dd = 5 ∨ (dd ≠ 1 ∧ dd ≠ 2 ∧ dd ≠ 3 ∧ dd ≠ 4 ∧ dd ≠ 5) := by omega
      rcases hcase with hd | hd | hd | hd | hd | ⟨hd1, hd2, hd3, hd4, hd5⟩
      · skip
        refine C_seqK (fun K21 hK21 => ?_)
        refine C_region ?_
        refine T_k F H (pt pb 0) ?_
        clear F; intro a F
        refine T_val F H kr (.int .i64 dd) (R_cell (own := true) (g := pb) (all := (opA dd nx ix b hh uu)) (t := 33) (fr := (0, 0)) 0 kr 3 (.tmp 34) rfl 0 kr (.int .i64 dd) kr _ Try.underlying3 rfl) ?_
        clear F; intro a F
        refine wpList_nil ?_
        refine hK21 _ _ ?_
        clear hK21
        try clear K21
        refine wp_block ?_
        refine C_seqK (fun K22 hK22 => ?_)
        refine C_region ?_
        refine T_val F H kr (.bool true) (fun w _ => R_bin (x := (.tmp 35)) (y := (.const (.int .i64 1))) rfl (k := .i64) (a := dd) (b := 1) kr kr (i_eqI'.trans (by rw [decide_eq_true (by omega)])) w) ?_
        clear F; intro a F
        refine T_k F H (.bool true) ?_
        clear F; intro a F
        refine wpList_nil ?_
        refine hK22 _ _ ?_
        clear hK22
        try clear K22
        refine C_if F true rfl rfl ?_
        refine C_region ?_
        refine T_k F H (pt xb 0) ?_
        clear F; intro a F
        refine T_k F H (pt pb 1) ?_
        clear F; intro a F
        refine T_val F H kr (nw nx) (R_cell (own := true) (g := pb) (all := (opA dd nx ix b hh uu)) (t := 33) (fr := (0, 0)) 0 kr 29 (.tmp 39) rfl 1 kr (nw nx) kr _ Try.underlying29 rfl) ?_
        clear F; intro a F
        refine T_k F H (pt pb 2) ?_
        clear F; intro a F
        refine T_val F H kr (nw ix) (R_cell (own := true) (g := pb) (all := (opA dd nx ix b hh uu)) (t := 33) (fr := (0, 0)) 0 kr 29 (.tmp 41) rfl 2 kr (nw ix) kr _ Try.underlying29 rfl) ?_
        clear F; intro a F
        refine T_k F H (pt pb 3) ?_
        clear F; intro a F
        refine T_val F H kr (.slice b.ad b.l.length b.c) (R_cell (own := true) (g := pb) (all := (opA dd nx ix b hh uu)) (t := 33) (fr := (0, 0)) 0 kr 30 (.tmp 43) rfl 3 kr (.slice b.ad b.l.length b.c) kr _ Try.underlying30 rfl) ?_
        clear F; intro a F
        refine T_callX (α := InS) F H kr 20 #[pt xb 0, nw nx, nw ix, .slice b.ad b.l.length b.c] (fun rX => ni ((hHold nx ix b.l s.hD).1)) (fun rX => (bk pb (opA dd nx ix b hh uu) 33) :: (rX.blks xb ++ (v1.blks ++ (o1.blks ++ [])))) (fun rX => rX.ok ∧ rX.U = s.U ∧ rX.hD = (hHold nx ix b.l s.hD).2) (fun w => kr) (fun w H => (hold_S hs (H.perm List.perm_middle.symm) nx ix b (ix_rd0 (H.perm List.perm_middle.symm) hob) hoo hJ.o hix).mono fun _ _ ⟨r, q1, q2, q3⟩ => ⟨r, q1, q2, q3.perm List.perm_middle⟩) ?_
        clear F H; intro s23 a v Qs23 F H
        refine T_k F H (ni ((hHold nx ix b.l s.hD).1)) ?_
        clear F; intro a F
        refine wpList_nil ?_
        have hi := hHold_inv (nx := nx) (ix := ix) hoo hJ.o
        exact hN _ _ ⟨s23, (hHold nx ix b.l s.hD).1, ⟨⟨Qs23.1, by rw [Qs23.2.2]; exact hi.1, by rw [Qs23.2.2]; have := hi.2.1; omega⟩, fun hc => ⟨by rw [Qs23.2.2, hi.2.2 hc], Qs23.2.1⟩⟩, F.weak _ (subL_of kr), rf_weak (B := []) H⟩
      · skip
        rcases find_in (nx := nx) (D := s.hD) with ⟨l', hl'⟩ | hno
        · skip
          refine C_seqK (fun K24 hK24 => ?_)
          refine C_region ?_
          refine T_k F H (pt pb 0) ?_
          clear F; intro a F
          refine T_val F H kr (.int .i64 dd) (R_cell (own := true) (g := pb) (all := (opA dd nx ix b hh uu)) (t := 33) (fr := (0, 0)) 0 kr 3 (.tmp 34) rfl 0 kr (.int .i64 dd) kr _ Try.underlying3 rfl) ?_
          clear F; intro a F
          refine wpList_nil ?_
          refine hK24 _ _ ?_
          clear hK24
          try clear K24
          refine wp_block ?_
          refine C_seqK (fun K25 hK25 => ?_)
          refine C_region ?_
          refine T_val F H kr (.bool false) (fun w _ => R_bin (x := (.tmp 35)) (y := (.const (.int .i64 1))) rfl (k := .i64) (a := dd) (b := 1) kr kr (i_eqI'.trans (by rw [decide_eq_false (by omega)])) w) ?_
          clear F; intro a F
          refine T_k F H (.bool false) ?_
          clear F; intro a F
          refine wpList_nil ?_
          refine hK25 _ _ ?_
          clear hK25
          try clear K25
          refine C_if F false rfl rfl ?_
          refine C_seqK (fun K26 hK26 => ?_)
          refine C_region ?_
          refine T_val F H kr (.bool true) (fun w _ => R_bin (x := (.tmp 35)) (y := (.const (.int .i64 2))) rfl (k := .i64) (a := dd) (b := 2) kr kr (i_eqI'.trans (by rw [decide_eq_true (by omega)])) w) ?_
          clear F; intro a F
          refine T_k F H (.bool true) ?_
          clear F; intro a F
          refine wpList_nil ?_
          refine hK26 _ _ ?_
          clear hK26
          try clear K26
          refine C_if F true rfl rfl ?_
          refine C_region ?_
          refine T_k F H (pt xb 0) ?_
          clear F; intro a F
          refine T_k F H (pt pb 1) ?_
          clear F; intro a F
          refine T_val F H kr (nw nx) (R_cell (own := true) (g := pb) (all := (opA dd nx ix b hh uu)) (t := 33) (fr := (0, 0)) 0 kr 29 (.tmp 50) rfl 1 kr (nw nx) kr _ Try.underlying29 rfl) ?_
          clear F; intro a F
          refine T_callX (α := InS × Cl) F H kr 21 #[pt xb 0, nw nx] (fun rX => .tuple #[rX.2.v, .bool true]) (fun rX => (bk pb (opA dd nx ix b hh uu) 33) :: (rX.1.blks xb ++ (rX.2.blks ++ (v1.blks ++ (o1.blks ++ []))))) (fun rX => rX.1.ok ∧ rX.2.ok ∧ rX.2.l = l' ∧ rX.1.U = s.U ∧ rX.1.hD = s.hD.filter fun d => decide (nx < d.1)) (fun w => kr) (fun w H => (turn_S1 hs (H.perm List.perm_middle.symm) nx l' hl').mono fun _ _ ⟨r, q1, q2, q3⟩ => ⟨r, q1, q2, q3.perm pm2⟩) ?_
          clear F H; intro s27 a v Qs27 F H
          obtain ⟨s27, cs27⟩ := s27
          dsimp only at Qs27
          replace F : Fm 125 [] [(52, .tuple #[cs27.v, .bool true]), (51, nw nx), (50, pt pb 1), (49, pt xb 0), (46, .bool true), (47, .bool true), (36, .bool false), (37, .bool false), (35, .int .i64 dd), (34, pt pb 0), (9, ni 0), (8, (v1.v)), (33, (v1.v)), (32, pt xb 0), (7, .slice ad1 o1.cs.length cp1), (31, .slice ad1 o1.cs.length cp1), (30, pt xb 0), (6, pt pb 0), (29, .agg (opA dd nx ix b hh uu)), (28, pt ga (oa + (k) * 6)), (27, ni k), (26, sc ga oa ops.length c), (23, .bool true), (22, ni ops.length), (21, sc ga oa ops.length c), (20, ni k), (5, ni k), (0, sc ga oa ops.length c), (3, .bool true), (4, pt xb 0)] a := F.weak _ (subL_of kr)
          replace H : Hp [] w ((bk pb (opA dd nx ix b hh uu) 33) :: (s27.blks xb ++ (cs27.blks ++ (v1.blks ++ (o1.blks ++ []))))) v := H
          refine T_k F H (.tuple #[cs27.v, .bool true]) ?_
          clear F; intro a F
          refine T_k F H (cs27.v) ?_
          clear F; intro a F
          refine T_k F H (.bool true) ?_
          clear F; intro a F
          refine wpList_nil ?_
          exact hN _ _ ⟨s27, 0, ⟨⟨Qs27.1, by rw [Qs27.2.2.2.2]; exact fun d hd => hJ.o d (List.mem_filter.1 hd).1, by rw [Qs27.2.2.2.2]; exact Nat.le_trans (List.length_filter_le _ _) (by omega)⟩, fun hc => absurd rfl hc⟩, F.weak _ (subL_of kr), rf_weak (B := cs27.blks) H⟩
        · skip
          refine C_seqK (fun K28 hK28 => ?_)
          refine C_region ?_
          refine T_k F H (pt pb 0) ?_
          clear F; intro a F
          refine T_val F H kr (.int .i64 dd) (R_cell (own := true) (g := pb) (all := (opA dd nx ix b hh uu)) (t := 33) (fr := (0, 0)) 0 kr 3 (.tmp 34) rfl 0 kr (.int .i64 dd) kr _ Try.underlying3 rfl) ?_
          clear F; intro a F
          refine wpList_nil ?_
          refine hK28 _ _ ?_
          clear hK28
          try clear K28
          refine wp_block ?_
          refine C_seqK (fun K29 hK29 => ?_)
          refine C_region ?_
          refine T_val F H kr (.bool false) (fun w _ => R_bin (x := (.tmp 35)) (y := (.const (.int .i64 1))) rfl (k := .i64) (a := dd) (b := 1) kr kr (i_eqI'.trans (by rw [decide_eq_false (by omega)])) w) ?_
          clear F; intro a F
          refine T_k F H (.bool false) ?_
          clear F; intro a F
          refine wpList_nil ?_
          refine hK29 _ _ ?_
          clear hK29
          try clear K29
          refine C_if F false rfl rfl ?_
          refine C_seqK (fun K30 hK30 => ?_)
          refine C_region ?_
          refine T_val F H kr (.bool true) (fun w _ => R_bin (x := (.tmp 35)) (y := (.const (.int .i64 2))) rfl (k := .i64) (a := dd) (b := 2) kr kr (i_eqI'.trans (by rw [decide_eq_true (by omega)])) w) ?_
          clear F; intro a F
          refine T_k F H (.bool true) ?_
          clear F; intro a F
          refine wpList_nil ?_
          refine hK30 _ _ ?_
          clear hK30
          try clear K30
          refine C_if F true rfl rfl ?_
          refine C_region ?_
          refine T_k F H (pt xb 0) ?_
          clear F; intro a F
          refine T_k F H (pt pb 1) ?_
          clear F; intro a F
          refine T_val F H kr (nw nx) (R_cell (own := true) (g := pb) (all := (opA dd nx ix b hh uu)) (t := 33) (fr := (0, 0)) 0 kr 29 (.tmp 50) rfl 1 kr (nw nx) kr _ Try.underlying29 rfl) ?_
          clear F; intro a F
          refine T_callX (α := InS) F H kr 21 #[pt xb 0, nw nx] (fun rX => .tuple #[.slice none 0 0, .bool false]) (fun rX => (bk pb (opA dd nx ix b hh uu) 33) :: (rX.blks xb ++ (v1.blks ++ (o1.blks ++ [])))) (fun rX => rX.ok ∧ rX.U = s.U ∧ rX.hD = s.hD.filter fun d => decide (nx < d.1)) (fun w => kr) (fun w H => (turn_S0 hs (H.perm List.perm_middle.symm) nx hno).mono fun _ _ ⟨r, q1, q2, q3⟩ => ⟨r, q1, q2, q3.perm List.perm_middle⟩) ?_
          clear F H; intro s31 a v Qs31 F H
          refine T_k F H (.tuple #[.slice none 0 0, .bool false]) ?_
          clear F; intro a F
          refine T_k F H (.slice none 0 0) ?_
          clear F; intro a F
          refine T_k F H (.bool false) ?_
          clear F; intro a F
          refine wpList_nil ?_
          exact hN _ _ ⟨s31, 0, ⟨⟨Qs31.1, by rw [Qs31.2.2]; exact fun d hd => hJ.o d (List.mem_filter.1 hd).1, by rw [Qs31.2.2]; exact Nat.le_trans (List.length_filter_le _ _) (by omega)⟩, fun hc => absurd rfl hc⟩, F.weak _ (subL_of kr), rf_weak (B := []) H⟩
      · skip
        by_cases h8 : s.U.length = 8
        · skip
          refine C_seqK (fun K32 hK32 => ?_)
          refine C_region ?_
          refine T_k F H (pt pb 0) ?_
          clear F; intro a F
          refine T_val F H kr (.int .i64 dd) (R_cell (own := true) (g := pb) (all := (opA dd nx ix b hh uu)) (t := 33) (fr := (0, 0)) 0 kr 3 (.tmp 34) rfl 0 kr (.int .i64 dd) kr _ Try.underlying3 rfl) ?_
          clear F; intro a F
          refine wpList_nil ?_
          refine hK32 _ _ ?_
          clear hK32
          try clear K32
          refine wp_block ?_
          refine C_seqK (fun K33 hK33 => ?_)
          refine C_region ?_
          refine T_val F H kr (.bool false) (fun w _ => R_bin (x := (.tmp 35)) (y := (.const (.int .i64 1))) rfl (k := .i64) (a := dd) (b := 1) kr kr (i_eqI'.trans (by rw [decide_eq_false (by omega)])) w) ?_
          clear F; intro a F
          refine T_k F H (.bool false) ?_
          clear F; intro a F
          refine wpList_nil ?_
          refine hK33 _ _ ?_
          clear hK33
          try clear K33
          refine C_if F false rfl rfl ?_
          refine C_seqK (fun K34 hK34 => ?_)
          refine C_region ?_
          refine T_val F H kr (.bool false) (fun w _ => R_bin (x := (.tmp 35)) (y := (.const (.int .i64 2))) rfl (k := .i64) (a := dd) (b := 2) kr kr (i_eqI'.trans (by rw [decide_eq_false (by omega)])) w) ?_
          clear F; intro a F
          refine T_k F H (.bool false) ?_
          clear F; intro a F
          refine wpList_nil ?_
          refine hK34 _ _ ?_
          clear hK34
          try clear K34
          refine C_if F false rfl rfl ?_
          refine C_seqK (fun K35 hK35 => ?_)
          refine C_region ?_
          refine T_val F H kr (.bool true) (fun w _ => R_bin (x := (.tmp 35)) (y := (.const (.int .i64 3))) rfl (k := .i64) (a := dd) (b := 3) kr kr (i_eqI'.trans (by rw [decide_eq_true (by omega)])) w) ?_
          clear F; intro a F
          refine T_k F H (.bool true) ?_
          clear F; intro a F
          refine wpList_nil ?_
          refine hK35 _ _ ?_
          clear hK35
          try clear K35
          refine C_if F true rfl rfl ?_
          refine C_region ?_
          refine T_k F H (pt xb 0) ?_
          clear F; intro a F
          refine T_k F H (pt pb 3) ?_
          clear F; intro a F
          refine T_val F H kr (.slice b.ad b.l.length b.c) (R_cell (own := true) (g := pb) (all := (opA dd nx ix b hh uu)) (t := 33) (fr := (0, 0)) 0 kr 30 (.tmp 58) rfl 3 kr (.slice b.ad b.l.length b.c) kr _ Try.underlying30 rfl) ?_
          clear F; intro a F
          refine T_callX (α := InS) F H kr 10 #[pt xb 0, .slice b.ad b.l.length b.c] (fun rX => .int .i64 63) (fun rX => (bk pb (opA dd nx ix b hh uu) 33) :: (rX.blks xb ++ (v1.blks ++ (o1.blks ++ [])))) (fun rX => rX.ok ∧ rX.U = s.U ∧ rX.M = s.M) (fun w => kr) (fun w H => (put_full_S hs (H.perm List.perm_middle.symm) b (ix_rd0 (H.perm List.perm_middle.symm) hob) h8).mono fun _ _ ⟨r, q1, q2, q3⟩ => ⟨r, q1, q2, q3.perm List.perm_middle⟩) ?_
          clear F H; intro s36 a v Qs36 F H
          refine T_k F H (.int .i64 63) ?_
          clear F; intro a F
          refine wpList_nil ?_
          have e9 : s36.hD = s.hD := congrArg (List.map fun m : MEn => (m.k, m.c.l)) Qs36.2.2
          exact hN _ _ ⟨s36, 63, ⟨⟨Qs36.1, by rw [e9]; exact hJ.o, by rw [e9]; omega⟩, fun _ => ⟨e9, Qs36.2.1⟩⟩, F.weak _ (subL_of kr), rf_weak (B := []) H⟩
        · skip
          refine C_seqK (fun K37 hK37 => ?_)
          refine C_region ?_
          refine T_k F H (pt pb 0) ?_
          clear F; intro a F
          refine T_val F H kr (.int .i64 dd) (R_cell (own := true) (g := pb) (all := (opA dd nx ix b hh uu)) (t := 33) (fr := (0, 0)) 0 kr 3 (.tmp 34) rfl 0 kr (.int .i64 dd) kr _ Try.underlying3 rfl) ?_
          clear F; intro a F
          refine wpList_nil ?_
          refine hK37 _ _ ?_
          clear hK37
          try clear K37
          refine wp_block ?_
          refine C_seqK (fun K38 hK38 => ?_)
          refine C_region ?_
          refine T_val F H kr (.bool false) (fun w _ => R_bin (x := (.tmp 35)) (y := (.const (.int .i64 1))) rfl (k := .i64) (a := dd) (b := 1) kr kr (i_eqI'.trans (by rw [decide_eq_false (by omega)])) w) ?_
          clear F; intro a F
          refine T_k F H (.bool false) ?_
          clear F; intro a F
          refine wpList_nil ?_
          refine hK38 _ _ ?_
          clear hK38
          try clear K38
          refine C_if F false rfl rfl ?_
          refine C_seqK (fun K39 hK39 => ?_)
          refine C_region ?_
          refine T_val F H kr (.bool false) (fun w _ => R_bin (x := (.tmp 35)) (y := (.const (.int .i64 2))) rfl (k := .i64) (a := dd) (b := 2) kr kr (i_eqI'.trans (by rw [decide_eq_false (by omega)])) w) ?_
          clear F; intro a F
          refine T_k F H (.bool false) ?_
          clear F; intro a F
          refine wpList_nil ?_
          refine hK39 _ _ ?_
          clear hK39
          try clear K39
          refine C_if F false rfl rfl ?_
          refine C_seqK (fun K40 hK40 => ?_)
          refine C_region ?_
          refine T_val F H kr (.bool true) (fun w _ => R_bin (x := (.tmp 35)) (y := (.const (.int .i64 3))) rfl (k := .i64) (a := dd) (b := 3) kr kr (i_eqI'.trans (by rw [decide_eq_true (by omega)])) w) ?_
          clear F; intro a F
          refine T_k F H (.bool true) ?_
          clear F; intro a F
          refine wpList_nil ?_
          refine hK40 _ _ ?_
          clear hK40
          try clear K40
          refine C_if F true rfl rfl ?_
          refine C_region ?_
          refine T_k F H (pt xb 0) ?_
          clear F; intro a F
          refine T_k F H (pt pb 3) ?_
          clear F; intro a F
          refine T_val F H kr (.slice b.ad b.l.length b.c) (R_cell (own := true) (g := pb) (all := (opA dd nx ix b hh uu)) (t := 33) (fr := (0, 0)) 0 kr 30 (.tmp 58) rfl 3 kr (.slice b.ad b.l.length b.c) kr _ Try.underlying30 rfl) ?_
          clear F; intro a F
          refine T_callX (α := InS) F H kr 10 #[pt xb 0, .slice b.ad b.l.length b.c] (fun rX => .int .i64 0) (fun rX => (bk pb (opA dd nx ix b hh uu) 33) :: (rX.blks xb ++ (v1.blks ++ (o1.blks ++ [])))) (fun rX => rX.ok ∧ rX.U = s.U ++ [b.l] ∧ rX.M = s.M) (fun w => kr) (fun w H => (put_room_S hs (H.perm List.perm_middle.symm) b (ix_rd0 (H.perm List.perm_middle.symm) hob) h8).mono fun _ _ ⟨r, q1, q2, q3⟩ => ⟨r, q1, q2, q3.perm List.perm_middle⟩) ?_
          clear F H; intro s41 a v Qs41 F H
          refine T_k F H (.int .i64 0) ?_
          clear F; intro a F
          refine wpList_nil ?_
          have e9 : s41.hD = s.hD := congrArg (List.map fun m : MEn => (m.k, m.c.l)) Qs41.2.2
          exact hN _ _ ⟨s41, 0, ⟨⟨Qs41.1, by rw [e9]; exact hJ.o, by rw [e9]; omega⟩, fun hc => absurd rfl hc⟩, F.weak _ (subL_of kr), rf_weak (B := []) H⟩
      · skip
        rcases hUs : s.U with _ | ⟨u0, us⟩
        · skip
          refine C_seqK (fun K42 hK42 => ?_)
          refine C_region ?_
          refine T_k F H (pt pb 0) ?_
          clear F; intro a F
          refine T_val F H kr (.int .i64 dd) (R_cell (own := true) (g := pb) (all := (opA dd nx ix b hh uu)) (t := 33) (fr := (0, 0)) 0 kr 3 (.tmp 34) rfl 0 kr (.int .i64 dd) kr _ Try.underlying3 rfl) ?_
          clear F; intro a F
          refine wpList_nil ?_
          refine hK42 _ _ ?_
          clear hK42
          try clear K42
          refine wp_block ?_
          refine C_seqK (fun K43 hK43 => ?_)
          refine C_region ?_
          refine T_val F H kr (.bool false) (fun w _ => R_bin (x := (.tmp 35)) (y := (.const (.int .i64 1))) rfl (k := .i64) (a := dd) (b := 1) kr kr (i_eqI'.trans (by rw [decide_eq_false (by omega)])) w) ?_
          clear F; intro a F
          refine T_k F H (.bool false) ?_
          clear F; intro a F
          refine wpList_nil ?_
          refine hK43 _ _ ?_
          clear hK43
          try clear K43
          refine C_if F false rfl rfl ?_
          refine C_seqK (fun K44 hK44 => ?_)
          refine C_region ?_
          refine T_val F H kr (.bool false) (fun w _ => R_bin (x := (.tmp 35)) (y := (.const (.int .i64 2))) rfl (k := .i64) (a := dd) (b := 2) kr kr (i_eqI'.trans (by rw [decide_eq_false (by omega)])) w) ?_
          clear F; intro a F
          refine T_k F H (.bool false) ?_
          clear F; intro a F
          refine wpList_nil ?_
          refine hK44 _ _ ?_
          clear hK44
          try clear K44
          refine C_if F false rfl rfl ?_
          refine C_seqK (fun K45 hK45 => ?_)
          refine C_region ?_
          refine T_val F H kr (.bool false) (fun w _ => R_bin (x := (.tmp 35)) (y := (.const (.int .i64 3))) rfl (k := .i64) (a := dd) (b := 3) kr kr (i_eqI'.trans (by rw [decide_eq_false (by omega)])) w) ?_
          clear F; intro a F
          refine T_k F H (.bool false) ?_
          clear F; intro a F
          refine wpList_nil ?_
          refine hK45 _ _ ?_
          clear hK45
          try clear K45
          refine C_if F false rfl rfl ?_
          refine C_seqK (fun K46 hK46 => ?_)
          refine C_region ?_
          refine T_val F H kr (.bool true) (fun w _ => R_bin (x := (.tmp 35)) (y := (.const (.int .i64 4))) rfl (k := .i64) (a := dd) (b := 4) kr kr (i_eqI'.trans (by rw [decide_eq_true (by omega)])) w) ?_
          clear F; intro a F
          refine T_k F H (.bool true) ?_
          clear F; intro a F
          refine wpList_nil ?_
          refine hK46 _ _ ?_
          clear hK46
          try clear K46
          refine C_if F true rfl rfl ?_
          refine C_region ?_
          refine T_k F H (pt xb 0) ?_
          clear F; intro a F
          refine T_call F H kr 11 #[pt xb 0] (.tuple #[.slice none 0 0, .int .i64 90]) (fun w => kr) (fetch_S0 hs hUs (H.perm List.perm_middle.symm)) ?_
          clear F H; intro a v F H
          refine T_k F H (.tuple #[.slice none 0 0, .int .i64 90]) ?_
          clear F; intro a F
          refine T_k F H (.slice none 0 0) ?_
          clear F; intro a F
          refine T_k F H (.int .i64 90) ?_
          clear F; intro a F
          refine T_k F H (.int .i64 90) ?_
          clear F; intro a F
          refine wpList_nil ?_
          exact hN _ _ ⟨s, 90, ⟨⟨hs, hJ.o, by omega⟩, fun _ => ⟨rfl, rfl⟩⟩, F.weak _ (subL_of kr), rf_weak (B := []) H⟩
        · skip
          refine C_seqK (fun K47 hK47 => ?_)
          refine C_region ?_
          refine T_k F H (pt pb 0) ?_
          clear F; intro a F
          refine T_val F H kr (.int .i64 dd) (R_cell (own := true) (g := pb) (all := (opA dd nx ix b hh uu)) (t := 33) (fr := (0, 0)) 0 kr 3 (.tmp 34) rfl 0 kr (.int .i64 dd) kr _ Try.underlying3 rfl) ?_
          clear F; intro a F
          refine wpList_nil ?_
          refine hK47 _ _ ?_
          clear hK47
          try clear K47
          refine wp_block ?_
          refine C_seqK (fun K48 hK48 => ?_)
          refine C_region ?_
          refine T_val F H kr (.bool false) (fun w _ => R_bin (x := (.tmp 35)) (y := (.const (.int .i64 1))) rfl (k := .i64) (a := dd) (b := 1) kr kr (i_eqI'.trans (by rw [decide_eq_false (by omega)])) w) ?_
          clear F; intro a F
          refine T_k F H (.bool false) ?_
          clear F; intro a F
          refine wpList_nil ?_
          refine hK48 _ _ ?_
          clear hK48
          try clear K48
          refine C_if F false rfl rfl ?_
          refine C_seqK (fun K49 hK49 => ?_)
          refine C_region ?_
          refine T_val F H kr (.bool false) (fun w _ => R_bin (x := (.tmp 35)) (y := (.const (.int .i64 2))) rfl (k := .i64) (a := dd) (b := 2) kr kr (i_eqI'.trans (by rw [decide_eq_false (by omega)])) w) ?_
          clear F; intro a F
          refine T_k F H (.bool false) ?_
          clear F; intro a F
          refine wpList_nil ?_
          refine hK49 _ _ ?_
          clear hK49
          try clear K49
          refine C_if F false rfl rfl ?_
          refine C_seqK (fun K50 hK50 => ?_)
          refine C_region ?_
          refine T_val F H kr (.bool false) (fun w _ => R_bin (x := (.tmp 35)) (y := (.const (.int .i64 3))) rfl (k := .i64) (a := dd) (b := 3) kr kr (i_eqI'.trans (by rw [decide_eq_false (by omega)])) w) ?_
          clear F; intro a F
          refine T_k F H (.bool false) ?_
          clear F; intro a F
          refine wpList_nil ?_
          refine hK50 _ _ ?_
          clear hK50
          try clear K50
          refine C_if F false rfl rfl ?_
          refine C_seqK (fun K51 hK51 => ?_)
          refine C_region ?_
          refine T_val F H kr (.bool true) (fun w _ => R_bin (x := (.tmp 35)) (y := (.const (.int .i64 4))) rfl (k := .i64) (a := dd) (b := 4) kr kr (i_eqI'.trans (by rw [decide_eq_true (by omega)])) w) ?_
          clear F; intro a F
          refine T_k F H (.bool true) ?_
          clear F; intro a F
          refine wpList_nil ?_
          refine hK51 _ _ ?_
          clear hK51
          try clear K51
          refine C_if F true rfl rfl ?_
          refine C_region ?_
          refine T_k F H (pt xb 0) ?_
          clear F; intro a F
          refine T_callX (α := InS × Cl) F H kr 11 #[pt xb 0] (fun rX => .tuple #[rX.2.v, .int .i64 0]) (fun rX => (bk pb (opA dd nx ix b hh uu) 33) :: (rX.1.blks xb ++ (rX.2.blks ++ (v1.blks ++ (o1.blks ++ []))))) (fun rX => rX.1.ok ∧ rX.2.ok ∧ rX.2.l = u0 ∧ rX.1.U = us ∧ rX.1.M = s.M) (fun w => kr) (fun w H => (fetch_S hs hUs (H.perm List.perm_middle.symm)).mono fun _ _ ⟨r, q1, q2, q3⟩ => ⟨r, q1, q2, q3.perm pm2⟩) ?_
          clear F H; intro s52 a v Qs52 F H
          obtain ⟨s52, cs52⟩ := s52
          dsimp only at Qs52
          replace F : Fm 125 [] [(65, .tuple #[cs52.v, .int .i64 0]), (64, pt xb 0), (61, .bool true), (62, .bool true), (55, .bool false), (56, .bool false), (46, .bool false), (47, .bool false), (36, .bool false), (37, .bool false), (35, .int .i64 dd), (34, pt pb 0), (9, ni 0), (8, (v1.v)), (33, (v1.v)), (32, pt xb 0), (7, .slice ad1 o1.cs.length cp1), (31, .slice ad1 o1.cs.length cp1), (30, pt xb 0), (6, pt pb 0), (29, .agg (opA dd nx ix b hh uu)), (28, pt ga (oa + (k) * 6)), (27, ni k), (26, sc ga oa ops.length c), (23, .bool true), (22, ni ops.length), (21, sc ga oa ops.length c), (20, ni k), (5, ni k), (0, sc ga oa ops.length c), (3, .bool true), (4, pt xb 0)] a := F.weak _ (subL_of kr)
          replace H : Hp [] w ((bk pb (opA dd nx ix b hh uu) 33) :: (s52.blks xb ++ (cs52.blks ++ (v1.blks ++ (o1.blks ++ []))))) v := H
          refine T_k F H (.tuple #[cs52.v, .int .i64 0]) ?_
          clear F; intro a F
          refine T_k F H (cs52.v) ?_
          clear F; intro a F
          refine T_k F H (.int .i64 0) ?_
          clear F; intro a F
          refine T_k F H (.int .i64 0) ?_
          clear F; intro a F
          refine wpList_nil ?_
          have e9 : s52.hD = s.hD := congrArg (List.map fun m : MEn => (m.k, m.c.l)) Qs52.2.2.2.2
          exact hN _ _ ⟨s52, 0, ⟨⟨Qs52.1, by rw [e9]; exact hJ.o, by rw [e9]; omega⟩, fun hc => absurd rfl hc⟩, F.weak _ (subL_of kr), rf_weak (B := cs52.blks) H⟩
      · skip
        refine C_seqK (fun K53 hK53 => ?_)
        refine C_region ?_
        refine T_k F H (pt pb 0) ?_
        clear F; intro a F
        refine T_val F H kr (.int .i64 dd) (R_cell (own := true) (g := pb) (all := (opA dd nx ix b hh uu)) (t := 33) (fr := (0, 0)) 0 kr 3 (.tmp 34) rfl 0 kr (.int .i64 dd) kr _ Try.underlying3 rfl) ?_
        clear F; intro a F
        refine wpList_nil ?_
        refine hK53 _ _ ?_
        clear hK53
        try clear K53
        refine wp_block ?_
        refine C_seqK (fun K54 hK54 => ?_)
        refine C_region ?_
        refine T_val F H kr (.bool false) (fun w _ => R_bin (x := (.tmp 35)) (y := (.const (.int .i64 1))) rfl (k := .i64) (a := dd) (b := 1) kr kr (i_eqI'.trans (by rw [decide_eq_false (by omega)])) w) ?_
        clear F; intro a F
        refine T_k F H (.bool false) ?_
        clear F; intro a F
        refine wpList_nil ?_
        refine hK54 _ _ ?_
        clear hK54
        try clear K54
        refine C_if F false rfl rfl ?_
        refine C_seqK (fun K55 hK55 => ?_)
        refine C_region ?_
        refine T_val F H kr (.bool false) (fun w _ => R_bin (x := (.tmp 35)) (y := (.const (.int .i64 2))) rfl (k := .i64) (a := dd) (b := 2) kr kr (i_eqI'.trans (by rw [decide_eq_false (by omega)])) w) ?_
        clear F; intro a F
        refine T_k F H (.bool false) ?_
        clear F; intro a F
        refine wpList_nil ?_
        refine hK55 _ _ ?_
        clear hK55
        try clear K55
        refine C_if F false rfl rfl ?_
        refine C_seqK (fun K56 hK56 => ?_)
        refine C_region ?_
        refine T_val F H kr (.bool false) (fun w _ => R_bin (x := (.tmp 35)) (y := (.const (.int .i64 3))) rfl (k := .i64) (a := dd) (b := 3) kr kr (i_eqI'.trans (by rw [decide_eq_false (by omega)])) w) ?_
        clear F; intro a F
        refine T_k F H (.bool false) ?_
        clear F; intro a F
        refine wpList_nil ?_
        refine hK56 _ _ ?_
        clear hK56
        try clear K56
        refine C_if F false rfl rfl ?_
        refine C_seqK (fun K57 hK57 => ?_)
        refine C_region ?_
        refine T_val F H kr (.bool false) (fun w _ => R_bin (x := (.tmp 35)) (y := (.const (.int .i64 4))) rfl (k := .i64) (a := dd) (b := 4) kr kr (i_eqI'.trans (by rw [decide_eq_false (by omega)])) w) ?_
        clear F; intro a F
        refine T_k F H (.bool false) ?_
        clear F; intro a F
        refine wpList_nil ?_
        refine hK57 _ _ ?_
        clear hK57
        try clear K57
        refine C_if F false rfl rfl ?_
        refine C_seqK (fun K58 hK58 => ?_)
        refine C_region ?_
        refine T_val F H kr (.bool true) (fun w _ => R_bin (x := (.tmp 35)) (y := (.const (.int .i64 5))) rfl (k := .i64) (a := dd) (b := 5) kr kr (i_eqI'.trans (by rw [decide_eq_true (by omega)])) w) ?_
        clear F; intro a F
        refine T_k F H (.bool true) ?_
        clear F; intro a F
        refine wpList_nil ?_
        refine hK58 _ _ ?_
        clear hK58
        try clear K58
        refine C_if F true rfl rfl ?_
        refine C_region ?_
        refine T_k F H (pt xb 0) ?_
        clear F; intro a F
        refine T_k F H (pt pb 4) ?_
        clear F; intro a F
        refine T_val F H kr (.slice hh.ad hh.hs.length hh.c) (R_cell (own := true) (g := pb) (all := (opA dd nx ix b hh uu)) (t := 33) (fr := (0, 0)) 0 kr 31 (.tmp 71) rfl 4 kr (.slice hh.ad hh.hs.length hh.c) kr _ Try.underlying31 rfl) ?_
        clear F; intro a F
        refine T_k F H (pt pb 5) ?_
        clear F; intro a F
        refine T_val F H kr (.slice uu.ad uu.ss.length uu.c) (R_cell (own := true) (g := pb) (all := (opA dd nx ix b hh uu)) (t := 33) (fr := (0, 0)) 0 kr 26 (.tmp 73) rfl 5 kr (.slice uu.ad uu.ss.length uu.c) kr _ Try.underlying26 rfl) ?_
        clear F; intro a F
        refine T_callX (α := InS) F H kr 27 #[pt xb 0, .slice hh.ad hh.hs.length hh.c, .slice uu.ad uu.ss.length uu.c] (fun rX => ni ((hLoad (hh.hs.map dS) (uu.ss.map (·.l)) s.hD s.U).1)) (fun rX => (bk pb (opA dd nx ix b hh uu) 33) :: (rX.blks xb ++ (v1.blks ++ (o1.blks ++ [])))) (fun rX => rX.ok ∧ rX.hD = (hLoad (hh.hs.map dS) (uu.ss.map (·.l)) s.hD s.U).2.1 ∧ rX.U = (hLoad (hh.hs.map dS) (uu.ss.map (·.l)) s.hD s.U).2.2) (fun w => kr) (fun w H => (load_S hs (H.perm List.perm_middle.symm) hh uu hhr huu).mono fun _ _ ⟨r, q1, q2, q3⟩ => ⟨r, q1, q2, q3.perm List.perm_middle⟩) ?_
        clear F H; intro s59 a v Qs59 F H
        refine T_k F H (ni ((hLoad (hh.hs.map dS) (uu.ss.map (·.l)) s.hD s.U).1)) ?_
        clear F; intro a F
        refine wpList_nil ?_
        have hi := hLoad_inv (h := hh.hs) (u := uu.ss.map (·.l)) (U := s.U) (fun x hx => (hhr.each x hx).2.2) hJ.o
        exact hN _ _ ⟨s59, (hLoad (hh.hs.map dS) (uu.ss.map (·.l)) s.hD s.U).1, ⟨⟨Qs59.1, by rw [Qs59.2.1]; exact hi.1, by rw [Qs59.2.1]; have := hi.2.1; omega⟩, fun hc => ⟨by rw [Qs59.2.1, (hi.2.2 hc).1], by rw [Qs59.2.2, (hi.2.2 hc).2]⟩⟩, F.weak _ (subL_of kr), rf_weak (B := []) H⟩
      · skip
        refine C_seqK (fun K60 hK60 => ?_)
        refine C_region ?_
        refine T_k F H (pt pb 0) ?_
        clear F; intro a F
        refine T_val F H kr (.int .i64 dd) (R_cell (own := true) (g := pb) (all := (opA dd nx ix b hh uu)) (t := 33) (fr := (0, 0)) 0 kr 3 (.tmp 34) rfl 0 kr (.int .i64 dd) kr _ Try.underlying3 rfl) ?_
        clear F; intro a F
        refine wpList_nil ?_
        refine hK60 _ _ ?_
        clear hK60
        try clear K60
        refine wp_block ?_
        refine C_seqK (fun K61 hK61 => ?_)
        refine C_region ?_
        refine T_val F H kr (.bool false) (fun w _ => R_bin (x := (.tmp 35)) (y := (.const (.int .i64 1))) rfl (k := .i64) (a := dd) (b := 1) kr kr (i_eqI'.trans (by rw [decide_eq_false (by omega)])) w) ?_
        clear F; intro a F
        refine T_k F H (.bool false) ?_
        clear F; intro a F
        refine wpList_nil ?_
        refine hK61 _ _ ?_
        clear hK61
        try clear K61
        refine C_if F false rfl rfl ?_
        refine C_seqK (fun K62 hK62 => ?_)
        refine C_region ?_
        refine T_val F H kr (.bool false) (fun w _ => R_bin (x := (.tmp 35)) (y := (.const (.int .i64 2))) rfl (k := .i64) (a := dd) (b := 2) kr kr (i_eqI'.trans (by rw [decide_eq_false (by omega)])) w) ?_
        clear F; intro a F
        refine T_k F H (.bool false) ?_
        clear F; intro a F
        refine wpList_nil ?_
        refine hK62 _ _ ?_
        clear hK62
        try clear K62
        refine C_if F false rfl rfl ?_
        refine C_seqK (fun K63 hK63 => ?_)
        refine C_region ?_
        refine T_val F H kr (.bool false) (fun w _ => R_bin (x := (.tmp 35)) (y := (.const (.int .i64 3))) rfl (k := .i64) (a := dd) (b := 3) kr kr (i_eqI'.trans (by rw [decide_eq_false (by omega)])) w) ?_
        clear F; intro a F
        refine T_k F H (.bool false) ?_
        clear F; intro a F
        refine wpList_nil ?_
        refine hK63 _ _ ?_
        clear hK63
        try clear K63
        refine C_if F false rfl rfl ?_
        refine C_seqK (fun K64 hK64 => ?_)
        refine C_region ?_
        refine T_val F H kr (.bool false) (fun w _ => R_bin (x := (.tmp 35)) (y := (.const (.int .i64 4))) rfl (k := .i64) (a := dd) (b := 4) kr kr (i_eqI'.trans (by rw [decide_eq_false (by omega)])) w) ?_
        clear F; intro a F
        refine T_k F H (.bool false) ?_
        clear F; intro a F
        refine wpList_nil ?_
        refine hK64 _ _ ?_
        clear hK64
        try clear K64
        refine C_if F false rfl rfl ?_
        refine C_seqK (fun K65 hK65 => ?_)
        refine C_region ?_
        refine T_val F H kr (.bool false) (fun w _ => R_bin (x := (.tmp 35)) (y := (.const (.int .i64 5))) rfl (k := .i64) (a := dd) (b := 5) kr kr (i_eqI'.trans (by rw [decide_eq_false (by omega)])) w) ?_
        clear F; intro a F
        refine T_k F H (.bool false) ?_
        clear F; intro a F
        refine wpList_nil ?_
        refine hK65 _ _ ?_
        clear hK65
        try clear K65
        refine C_if F false rfl rfl ?_
        refine wp_skip ?_
        exact hN _ _ ⟨s, 0, ⟨⟨hs, hJ.o, by omega⟩, fun _ => ⟨rfl, rfl⟩⟩, F.weak _ (subL_of kr), rf_weak (B := []) H⟩
    clear hK20
    try clear K20
    have hJ3l := hJ3.len
    refine C_seqK (fun K66 hK66 => ?_)
    refine C_region ?_
    refine T_k F H (pt xb 0) ?_
    clear F; intro a F
    refine T_callX (α := Hs) F H kr 22 #[pt xb 0] (fun rX => rX.v) (fun rX => (s3.blks xb ++ (rX.blks ++ (v1.blks ++ (o1.blks ++ []))))) (fun rX => rX.ok ∧ rX.cs.Pairwise (fun a b => a.1 ≤ b.1) ∧ rX.D.Perm s3.hD) (fun w => kr) (fun w H => held_S hJ3.ok (by omega) H) ?_
    clear F H; intro s67 a v Qs67 F H
    obtain ⟨o2, hx2⟩ : ∃ q, q = s67 := ⟨_, rfl⟩
    rw [← hx2] at Qs67 F H
    clear hx2
    obtain ⟨ho2, hpw2, hpm2⟩ := Qs67
    rw [Hs.v_eq ho2] at F
    have hle2 := Hs.le ho2
    have hol2 : o2.cs.length = s3.hD.length := by
      have h1 := hpm2.length_eq
      unfold Hs.D at h1
      rwa [List.length_map] at h1
    have hcell2 := fun k c (hk : o2.cs[k]? = some c) => Hs.cell ho2 hk
    obtain ⟨ad2, had2⟩ : ∃ q, q = o2.ad := ⟨_, rfl⟩
    obtain ⟨cp2, hcp2⟩ : ∃ q, q = o2.cp := ⟨_, rfl⟩
    rw [← had2, ← hcp2] at F
    rw [← hcp2] at hle2
    simp only [← had2] at hcell2
    clear had2 hcp2
    replace F : Fm 125 [] [(77, .slice ad2 o2.cs.length cp2), (76, pt xb 0), (9, ni code), (8, (v1.v)), (7, .slice ad1 o1.cs.length cp1), (5, ni k), (0, sc ga oa ops.length c), (3, .bool true), (4, pt xb 0)] a := F.weak _ (subL_of kr)
    replace H : Hp [] w (s3.blks xb ++ (o2.blks ++ (v1.blks ++ (o1.blks ++ [])))) v := H
    refine T_k F H (.slice ad2 o2.cs.length cp2) ?_
    clear F; intro a F
    refine wpList_nil ?_
    refine hK66 _ _ ?_
    clear hK66
    try clear K66
    refine C_seqK (fun K68 hK68 => ?_)
    refine C_region ?_
    refine T_k F H (pt xb 0) ?_
    clear F; intro a F
    refine T_callX (α := Ls) F H kr 13 #[pt xb 0] (fun rX => rX.v) (fun rX => (s3.blks xb ++ (rX.blks ++ (o2.blks ++ (v1.blks ++ (o1.blks ++ [])))))) (fun rX => rX.ok ∧ rX.ls = s3.U ∧ rX.cs.length ≤ 8) (fun w => kr) (fun w H => unread_S hJ3.ok H) ?_
    clear F H; intro s69 a v Qs69 F H
    obtain ⟨v2, hx2⟩ : ∃ q, q = s69 := ⟨_, rfl⟩
    rw [← hx2] at Qs69 F H
    clear hx2
    obtain ⟨hv2, hvl2, hvn2⟩ := Qs69
    replace F : Fm 125 [] [(79, (v2.v)), (78, pt xb 0), (10, .slice ad2 o2.cs.length cp2), (77, .slice ad2 o2.cs.length cp2), (76, pt xb 0), (9, ni code), (8, (v1.v)), (7, .slice ad1 o1.cs.length cp1), (5, ni k), (0, sc ga oa ops.length c), (3, .bool true), (4, pt xb 0)] a := F.weak _ (subL_of kr)
    replace H : Hp [] w (s3.blks xb ++ (v2.blks ++ (o2.blks ++ (v1.blks ++ (o1.blks ++ []))))) v := H
    refine T_k F H ((v2.v)) ?_
    clear F; intro a F
    refine wpList_nil ?_
    refine hK68 _ _ ?_
    clear hK68
    try clear K68
    refine C_seqK (fun K70 hK70 => ?_)
    refine C_seqK (fun K71 hK71 => ?_)
    refine C_region ?_
    refine T_k F H (ni code) ?_
    clear F; intro a F
    refine T_val F H kr (.bool (decide (code = 0))) (fun w _ => R_bin (x := (.tmp 80)) (y := (.const (.int .i64 0))) rfl (k := .i64) (a := ((code : Nat) : Int)) (b := ((0 : Nat) : Int)) kr kr i_eqd w) ?_
    clear F; intro a F
    refine wpList_nil ?_
    refine hK71 _ _ ?_
    clear hK71
    try clear K71
    by_cases hc : code = 0
    · rw [decide_eq_true hc] at F
      refine C_if F true rfl rfl ?_
      refine wp_exit ?_
      refine hK12 _ _ ?_
      refine C_region ?_
      refine T_k F H (ni k) ?_
      clear F; intro a F
      refine T_val F H kr (ni (k + 1)) (fun w _ => R_bin (x := (.tmp 24)) (y := (.const (.int .i64 1))) rfl (k := .i64) (a := ((k : Nat) : Int)) (b := ((1 : Nat) : Int)) kr kr (i_addn64 (a := k) (b := 1) (by omega)) w) ?_
      clear F; intro a F
      refine T_k F H (ni (k + 1)) ?_
      clear F; intro a F
      refine wpList_nil ?_
      exact ⟨m, Nat.lt_succ_self m, k + 1, s3, by omega, hJ3, F.weak _ (subL_of kr), ix_weak (T := []) H⟩
    rw [decide_eq_false hc] at F
    refine C_if F false rfl rfl ?_
    refine wp_skip ?_
    refine hK70 _ _ ?_
    clear hK70
    try clear K70
    refine C_seqK (fun K72 hK72 => ?_)
    refine C_seqK (fun K73 hK73 => ?_)
    obtain ⟨hsD, hsU⟩ := hsame hc
    rw [hsD] at hpm2
    rw [hsU] at hvl2
    have hDD : o2.D = o1.D := told_once (keys_hD hs) hpw2 hpw1 hpm2 hpm1
    have hLL : o2.cs.length = o1.cs.length := by have := congrArg List.length hDD; unfold Hs.D at this; rwa [List.length_map, List.length_map] at this
    refine C_region ?_
    refine T_k F H (.slice ad2 o2.cs.length cp2) ?_
    clear F; intro a F
    refine T_k F H (ni o2.cs.length) ?_
    clear F; intro a F
    refine T_k F H (.slice ad1 o1.cs.length cp1) ?_
    clear F; intro a F
    refine T_k F H (ni o1.cs.length) ?_
    clear F; intro a F
    refine T_val F H kr (.bool false) (fun w _ => R_bin (x := (.tmp 83)) (y := (.tmp 85)) rfl (k := .i64) (a := ((o2.cs.length : Nat) : Int)) (b := ((o1.cs.length : Nat) : Int)) kr kr (i_ned.trans (by rw [decide_eq_false (by omega)])) w) ?_
    clear F; intro a F
    refine T_k F H (.bool false) ?_
    clear F; intro a F
    refine T_k F H ((v1.v)) ?_
    clear F; intro a F
    refine T_k F H ((v2.v)) ?_
    clear F; intro a F
    refine T_call F H kr 14 #[(v1.v), (v2.v)] (.bool true) (fun w => kr) (lists_true v1.lv v2.lv (Ls.lv_v hv1) (Ls.lv_v hv2) (Ls.rd hv1 (fun p hp => H.held p (by simp only [rdL, List.nil_append, List.mem_append, List.mem_cons, hp, true_or, or_true])) (by omega)) (Ls.rd hv2 (fun p hp => H.held p (by simp only [rdL, List.nil_append, List.mem_append, List.mem_cons, hp, true_or, or_true])) (by omega)) (by rw [Ls.lv_ls, Ls.lv_ls, hvl1, hvl2])) ?_
    clear F H; intro a v F H
    refine T_k F H (.bool false) ?_
    clear F; intro a F
    refine T_k F H (.bool false) ?_
    clear F; intro a F
    refine wpList_nil ?_
    refine hK73 _ _ ?_
    clear hK73
    try clear K73
    refine C_if F false rfl rfl ?_
    refine wp_skip ?_
    refine hK72 _ _ ?_
    clear hK72
    try clear K72
    refine C_seqK (fun K74 hK74 => ?_)
    refine C_region ?_
    refine T_k F H (ni 0) ?_
    clear F; intro a F
    refine wpList_nil ?_
    refine hK74 _ _ ?_
    clear hK74
    try clear K74
    replace F : Fm 125 [] [(12, ni 0), (10, .slice ad2 o2.cs.length cp2), (7, .slice ad1 o1.cs.length cp1), (5, ni k), (0, sc ga oa ops.length c), (3, .bool true), (4, pt xb 0)] a := F.weak _ (subL_of kr)
    refine wp_block ?_
    refine C_loop (fun mj a v => ∃ j, j + mj = o2.cs.length ∧ Fm 125 [] [(12, ni j), (10, .slice ad2 o2.cs.length cp2), (7, .slice ad1 o1.cs.length cp1), (5, ni k), (0, sc ga oa ops.length c), (3, .bool true), (4, pt xb 0)] a ∧ Hp [] w (s3.blks xb ++ (v2.blks ++ (o2.blks ++ (v1.blks ++ (o1.blks ++ []))))) v) (o2.cs.length) ⟨0, Nat.zero_add _, F, H⟩ ?_
    clear F H
    intro mj a v ⟨j, hj, F, H⟩
    rcases mj with _ | mj
    rotate_left
    · obtain ⟨y2, hy2⟩ : ∃ y2, o2.cs[j]? = some y2 := ⟨_, List.getElem?_eq_getElem (show j < o2.cs.length by omega)⟩
      obtain ⟨y1, hy1, hk1, hl1⟩ := told_at hDD hy2
      obtain ⟨g2, e2, hce2⟩ := hcell2 j y2 hy2
      obtain ⟨g1, e1, hce1⟩ := hcell1 j y1 hy1
      subst e2 e1
      have hok2 := ho2.each y2 (List.mem_of_getElem? hy2)
      have hok1 := ho1.each y1 (List.mem_of_getElem? hy1)
      replace F : Fm 125 [] [(12, ni j), (10, sc g2 0 o2.cs.length cp2), (7, sc g1 0 o1.cs.length cp1), (5, ni k), (0, sc ga oa ops.length c), (3, .bool true), (4, pt xb 0)] a := F
      refine C_seqK (fun K75 hK75 => ?_)
      refine C_seqK (fun K76 hK76 => ?_)
      refine C_region ?_
      refine T_k F H (ni j) ?_
      clear F; intro a F
      refine T_k F H (sc g2 0 o2.cs.length cp2) ?_
      clear F; intro a F
      refine T_k F H (ni o2.cs.length) ?_
      clear F; intro a F
      refine T_val F H kr (.bool true) (fun w _ => R_bin (x := (.tmp 93)) (y := (.tmp 95)) rfl (k := .i64) (a := ((j : Nat) : Int)) (b := ((o2.cs.length : Nat) : Int)) kr kr (i_lt (by omega)) w) ?_
      clear F; intro a F
      refine wpList_nil ?_
      refine hK76 _ _ ?_
      clear hK76
      try clear K76
      refine C_if F true rfl rfl ?_
      refine wp_skip ?_
      refine hK75 _ _ ?_
      clear hK75
      try clear K75
      refine C_seqK (fun K77 hK77 => ?_)
      refine wp_block ?_
      refine C_seqK (fun K78 hK78 => ?_)
      refine E_regionH (A := []) (R := (s3.blks xb ++ (v2.blks ++ (o2.blks ++ (v1.blks ++ (o1.blks ++ [])))))) F H (fun β => [(99, sc g2 0 o2.cs.length cp2), (100, ni j), (101, pt g2 (0 + (j) * 2)), (102, pt g2 ((0 + (j) * 2) + 0)), (103, nw y2.1), (104, sc g1 0 o1.cs.length cp1), (105, ni j), (106, pt g1 (0 + (j) * 2)), (107, pt g1 ((0 + (j) * 2) + 0)), (108, nw y1.1), (109, .bool false), (110, .bool false), (111, sc g2 0 o2.cs.length cp2), (112, ni j), (113, pt g2 (0 + (j) * 2)), (114, pt g2 ((0 + (j) * 2) + 1)), (115, y2.2.v), (116, sc g1 0 o1.cs.length cp1), (117, ni j), (118, pt g1 (0 + (j) * 2)), (119, pt g1 ((0 + (j) * 2) + 1)), (120, y1.2.v), (121, .bool true), (122, .bool false), (123, .bool false)]) [99, 100, 101, 102, 103, 104, 105, 106, 107, 108, 109, 110, 111, 112, 113, 114, 115, 116, 117, 118, 119, 120, 121, 122, 123] [] [] [] 2 [] kr kr kr kr (fun β => rfl) trivial ⟨?_, ?_, ?_, ?_, ?_, ?_, ?_, ?_, ?_, ?_, ?_, ?_, ?_, ?_, ?_, ?_, ?_, ?_, ?_, ?_, ?_, ?_, ?_, ?_, ?_, trivial⟩ ?_
      · exact E_k 125 (fun β => sc g2 0 o2.cs.length cp2) 99 2
      · exact E_k 125 (fun β => ni j) 100 2
      · exact E_v 125 (fun β => pt g2 (0 + (j) * 2)) 101 2 [] (fun β w hk hl hq => R_indexS (k := .i64) (g := g2) (off := 0) (len := o2.cs.length) (cap := cp2) (x := (.tmp 99)) (y := (.tmp 100)) rfl Try.underlying31 kr (j) kr (by omega) (sz := 2) kr w)
      · exact E_k 125 (fun β => pt g2 ((0 + (j) * 2) + 0)) 102 2
      · exact E_v 125 (fun β => nw y2.1) 103 2 [] (fun β w hk hl hq => R_ld (y := (.tmp 102)) rfl (g := g2) (off := ((0 + (j) * 2) + 0)) kr (hce2 _ (fun p hp => hl.held p (by simp only [rdL, List.nil_append, List.mem_append, List.mem_cons, hp, true_or, or_true])) 0 _ rfl) _ Try.underlying29 rfl)
      · exact E_k 125 (fun β => sc g1 0 o1.cs.length cp1) 104 2
      · exact E_k 125 (fun β => ni j) 105 2
      · exact E_v 125 (fun β => pt g1 (0 + (j) * 2)) 106 2 [] (fun β w hk hl hq => R_indexS (k := .i64) (g := g1) (off := 0) (len := o1.cs.length) (cap := cp1) (x := (.tmp 104)) (y := (.tmp 105)) rfl Try.underlying31 kr (j) kr (by omega) (sz := 2) kr w)
      · exact E_k 125 (fun β => pt g1 ((0 + (j) * 2) + 0)) 107 2
      · exact E_v 125 (fun β => nw y1.1) 108 2 [] (fun β w hk hl hq => R_ld (y := (.tmp 107)) rfl (g := g1) (off := ((0 + (j) * 2) + 0)) kr (hce1 _ (fun p hp => hl.held p (by simp only [rdL, List.nil_append, List.mem_append, List.mem_cons, hp, true_or, or_true])) 0 _ rfl) _ Try.underlying29 rfl)
      · exact E_v 125 (fun β => .bool false) 109 2 [] (fun β w hk hl hq => R_bin (x := (.tmp 103)) (y := (.tmp 108)) rfl (k := .u32) (a := ((y2.1 : Nat) : Int)) (b := ((y1.1 : Nat) : Int)) kr kr (i_ned.trans (by rw [decide_eq_false (by omega)])) w)
      · exact E_k 125 (fun β => .bool false) 110 2
      · exact E_k 125 (fun β => sc g2 0 o2.cs.length cp2) 111 2
      · exact E_k 125 (fun β => ni j) 112 2
      · exact E_v 125 (fun β => pt g2 (0 + (j) * 2)) 113 2 [] (fun β w hk hl hq => R_indexS (k := .i64) (g := g2) (off := 0) (len := o2.cs.length) (cap := cp2) (x := (.tmp 111)) (y := (.tmp 112)) rfl Try.underlying31 kr (j) kr (by omega) (sz := 2) kr w)
      · exact E_k 125 (fun β => pt g2 ((0 + (j) * 2) + 1)) 114 2
      · exact E_v 125 (fun β => y2.2.v) 115 2 [] (fun β w hk hl hq => R_ld (y := (.tmp 114)) rfl (g := g2) (off := ((0 + (j) * 2) + 1)) kr (hce2 _ (fun p hp => hl.held p (by simp only [rdL, List.nil_append, List.mem_append, List.mem_cons, hp, true_or, or_true])) 1 _ rfl) _ Try.underlying30 rfl)
      · exact E_k 125 (fun β => sc g1 0 o1.cs.length cp1) 116 2
      · exact E_k 125 (fun β => ni j) 117 2
      · exact E_v 125 (fun β => pt g1 (0 + (j) * 2)) 118 2 [] (fun β w hk hl hq => R_indexS (k := .i64) (g := g1) (off := 0) (len := o1.cs.length) (cap := cp1) (x := (.tmp 116)) (y := (.tmp 117)) rfl Try.underlying31 kr (j) kr (by omega) (sz := 2) kr w)
      · exact E_k 125 (fun β => pt g1 ((0 + (j) * 2) + 1)) 119 2
      · exact E_v 125 (fun β => y1.2.v) 120 2 [] (fun β w hk hl hq => R_ld (y := (.tmp 119)) rfl (g := g1) (off := ((0 + (j) * 2) + 1)) kr (hce1 _ (fun p hp => hl.held p (by simp only [rdL, List.nil_append, List.mem_append, List.mem_cons, hp, true_or, or_true])) 1 _ rfl) _ Try.underlying30 rfl)
      · exact E_call 125 kq (fun β => .bool true) 121 rfl kq 12 (fun β => #[y2.2.v, y1.2.v]) (fun β w => kr) 2 [] kr rfl (fun β w hk hl hq => same_true y2.2.sv y1.2.sv (Cl.sv_v hok2) (Cl.sv_v hok1) (Cl.rd hok2 (fun p hp => hl.held p (by have hp := Hs.mem ho2 hy2 hp; simp only [rdL, List.nil_append, List.mem_append, hp, true_or, or_true]))) (Cl.rd hok1 (fun p hp => hl.held p (by have hp := Hs.mem ho1 hy1 hp; simp only [rdL, List.nil_append, List.mem_append, hp, true_or, or_true]))) (by rw [Cl.sv_l, Cl.sv_l, hl1]))
      · exact E_k 125 (fun β => .bool false) 122 2
      · exact E_k 125 (fun β => .bool false) 123 2
      clear F H; intro β a v Q F H
      replace H : Hp [] w (s3.blks xb ++ (v2.blks ++ (o2.blks ++ (v1.blks ++ (o1.blks ++ []))))) v := H
      replace F : Fm 125 [] [(123, .bool false), (122, .bool false), (121, .bool true), (120, y1.2.v), (119, pt g1 ((0 + (j) * 2) + 1)), (118, pt g1 (0 + (j) * 2)), (117, ni j), (116, sc g1 0 o1.cs.length cp1), (115, y2.2.v), (114, pt g2 ((0 + (j) * 2) + 1)), (113, pt g2 (0 + (j) * 2)), (112, ni j), (111, sc g2 0 o2.cs.length cp2), (110, .bool false), (109, .bool false), (108, nw y1.1), (107, pt g1 ((0 + (j) * 2) + 0)), (106, pt g1 (0 + (j) * 2)), (105, ni j), (104, sc g1 0 o1.cs.length cp1), (103, nw y2.1), (102, pt g2 ((0 + (j) * 2) + 0)), (101, pt g2 (0 + (j) * 2)), (100, ni j), (99, sc g2 0 o2.cs.length cp2), (96, .bool true), (95, ni o2.cs.length), (94, sc g2 0 o2.cs.length cp2), (93, ni j), (12, ni j), (10, sc g2 0 o2.cs.length cp2), (7, sc g1 0 o1.cs.length cp1), (5, ni k), (0, sc ga oa ops.length c), (3, .bool true), (4, pt xb 0)] a := F.weak _ (subL_of kr)
      clear Q
      refine ?_
      refine hK78 _ _ ?_
      clear hK78
      try clear K78
      refine C_if F false rfl rfl ?_
      refine wp_skip ?_
      refine hK77 _ _ ?_
      clear hK77
      try clear K77
      refine C_region ?_
      refine T_k F H (ni j) ?_
      clear F; intro a F
      refine T_val F H kr (ni (j + 1)) (fun w _ => R_bin (x := (.tmp 97)) (y := (.const (.int .i64 1))) rfl (k := .i64) (a := ((j : Nat) : Int)) (b := ((1 : Nat) : Int)) kr kr (i_addn64 (a := j) (b := 1) (by omega)) w) ?_
      clear F; intro a F
      refine T_k F H (ni (j + 1)) ?_
      clear F; intro a F
      refine wpList_nil ?_
      exact ⟨mj, Nat.lt_succ_self mj, j + 1, by omega, F.weak _ (subL_of kr), H⟩
    refine C_seqK (fun K79 hK79 => ?_)
    refine C_seqK (fun K80 hK80 => ?_)
    refine C_region ?_
    refine T_k F H (ni j) ?_
    clear F; intro a F
    refine T_k F H (.slice ad2 o2.cs.length cp2) ?_
    clear F; intro a F
    refine T_k F H (ni o2.cs.length) ?_
    clear F; intro a F
    refine T_val F H kr (.bool false) (fun w _ => R_bin (x := (.tmp 93)) (y := (.tmp 95)) rfl (k := .i64) (a := ((j : Nat) : Int)) (b := ((o2.cs.length : Nat) : Int)) kr kr (i_nlt (by omega)) w) ?_
    clear F; intro a F
    refine wpList_nil ?_
    refine hK80 _ _ ?_
    clear hK80
    try clear K80
    refine C_if F false rfl rfl ?_
    refine wp_exit ?_
    refine hK12 _ _ ?_
    clear hK12
    try clear K12
    refine C_region ?_
    refine T_k F H (ni k) ?_
    clear F; intro a F
    refine T_val F H kr (ni (k + 1)) (fun w _ => R_bin (x := (.tmp 24)) (y := (.const (.int .i64 1))) rfl (k := .i64) (a := ((k : Nat) : Int)) (b := ((1 : Nat) : Int)) kr kr (i_addn64 (a := k) (b := 1) (by omega)) w) ?_
    clear F; intro a F
    refine T_k F H (ni (k + 1)) ?_
    clear F; intro a F
    refine wpList_nil ?_
    exact ⟨m, Nat.lt_succ_self m, k + 1, s3, by omega, hJ3, F.weak _ (subL_of kr), ix_weak (T := []) H⟩
  refine C_seqK (fun K81 hK81 => ?_)
  refine C_seqK (fun K82 hK82 => ?_)
  refine C_region ?_
  refine T_k F H (ni k) ?_
  clear F; intro a F
  refine T_k F H (.slice la ops.length c) ?_
  clear F; intro a F
  refine T_k F H (ni ops.length) ?_
  clear F; intro a F
  refine T_val F H kr (.bool false) (fun w _ => R_bin (x := (.tmp 20)) (y := (.tmp 22)) rfl (k := .i64) (a := ((k : Nat) : Int)) (b := ((ops.length : Nat) : Int)) kr kr (i_nlt (by omega)) w) ?_
  clear F; intro a F
  refine wpList_nil ?_
  refine hK82 _ _ ?_
  clear hK82
  try clear K82
  refine C_if F false rfl rfl ?_
  refine wp_exit ?_
  refine hK8 _ _ ?_
  clear hK8
  try clear K8
  refine C_seqK (fun K83 hK83 => ?_)
  refine C_region ?_
  refine T_k F H (.bool true) ?_
  clear F; intro a F
  refine T_k F H (.bool true) ?_
  clear F; intro a F
  refine wpList_nil ?_
  refine hK83 _ _ ?_
  clear hK83
  try clear K83
  refine wp_ret ?_
  exact C_ret F H (rs := [.tmp 2]) rfl (vs := [.bool true]) (.tmp rfl .nil) (.bool true) rfl ⟨rfl, H.kept⟩
end Go.Proofs.Ytlnlppmhiobgjaa
