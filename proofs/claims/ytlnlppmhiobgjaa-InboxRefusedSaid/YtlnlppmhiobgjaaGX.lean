/- Walks: inbox.Held. -/
import Derived.Test.YtlnlppmhiobgjaaGY
set_option linter.unusedVariables false
set_option linter.unusedSimpArgs false
namespace Go.Proofs.Ytlnlppmhiobgjaa
open Go Go.RowKit
/-- What Held makes: frames with their numbers. -/
structure Hs where
  nl : Bool
  g : Nat
  cap : Nat
  rest : List Value
  cs : List (Nat × Cl)
def dH (c : Nat × Cl) : Nat × List Nat := (c.1, c.2.l)
def clH (cs : List (Nat × Cl)) : List Blk := clB (cs.map (·.2))
def Hs.v (o : Hs) : Value := match o.nl with | true => .slice none 0 0 | false => .slice (some ⟨o.g, 0, none⟩) o.cs.length o.cap
def Hs.blks (o : Hs) : List Blk := match o.nl with | true => [] | false => ⟨true, o.g, .cells (sl (o.cs.flatMap encH) o.rest) 60 (0, 0)⟩ :: clH o.cs
def Hs.D (o : Hs) : HD := o.cs.map dH
structure Hs.ok (o : Hs) : Prop where
  nil : o.nl = true → o.cs = []
  own : o.nl = false → Own (o.cs.flatMap encH) o.rest o.cs.length o.cap 2
  each : ∀ c ∈ o.cs, c.2.ok
theorem encH_one (cs : List (Nat × Cl)) : ∀ u ∈ cs.flatMap encH, u.oneCell' = true := fun u hu => by
  obtain ⟨c, _, h⟩ := List.mem_flatMap.1 hu
  exact encH1 c u h
theorem clH_snoc (cs : List (Nat × Cl)) (c : Nat × Cl) : clH (cs ++ [c]) = clH cs ++ c.2.blks := by unfold clH; rw [List.map_append]; exact clB_snoc _ _
theorem clH_perm {cs cs' : List (Nat × Cl)} (h : cs'.Perm cs) : (clH cs').Perm (clH cs) := by
  induction h with
  | nil => exact List.Perm.refl _
  | cons a _ ih => exact List.Perm.append_left _ ih
  | swap a b l => show List.Perm (b.2.blks ++ (a.2.blks ++ clH l)) (a.2.blks ++ (b.2.blks ++ clH l)); exact perm3 _ _ _
  | trans _ _ h1 h2 => exact h1.trans h2
theorem clH_own (cs : List (Nat × Cl)) : ∀ p ∈ clH cs, p.own = true := clB_own _
theorem Hs.blks_own (o : Hs) : ∀ p ∈ o.blks, p.own = true := by
  obtain ⟨nl, g, cap, rest, cs⟩ := o
  cases nl with
  | true => intro p hp; cases hp
  | false =>
    intro p hp
    rcases List.mem_cons.1 hp with rfl | hp
    · rfl
    · exact clH_own cs p hp
theorem Hp.tailH {X : List Nat} {w0 w : World} {A : List Blk} {c : Nat × Cl} {cs : List (Nat × Cl)} (H : Hp X w0 (A ++ (c.2.blks ++ clH cs)) w) : Hp X w0 (A ++ clH (cs ++ [c])) w := H.perm (by rw [clH_snoc]; exact List.perm_append_comm.append_left A)
theorem sn_step {m0 : MEn} {seen : Array Nat} (hs : seen.contains m0.born = false) : ∀ {M : List MEn}, (M.map (·.born)).Nodup → m0 ∈ M → (M.filter fun m => (seen.push m0.born).contains m.born).Perm ((M.filter fun m => seen.contains m.born) ++ [m0])
  | m :: M, h, hm => by
    rw [List.map_cons, List.nodup_cons] at h
    rw [List.filter_cons, List.filter_cons, Array.contains_push]
    rcases List.mem_cons.1 hm with rfl | hm'
    · have e : (M.filter fun m => (seen.push m0.born).contains m.born) = M.filter fun m => seen.contains m.born := List.filter_congr fun x hx => by
        have : x.born ≠ m0.born := fun e => h.1 (by rw [← e]; exact List.mem_map_of_mem hx)
        rw [Array.contains_push]
        have h3 : (x.born == m0.born) = false := by simpa using this
        rw [h3]; simp
      rw [e, hs]
      simp only [beq_self_eq_true, Bool.or_true, if_true, Bool.false_eq_true, if_false]
      exact (List.perm_append_singleton _ _).symm
    · have hne : m.born ≠ m0.born := fun e => h.1 (by rw [e]; exact List.mem_map_of_mem hm')
      have h3 : (m.born == m0.born) = false := by simpa using hne
      rw [h3, Bool.or_false]
      by_cases hc : seen.contains m.born = true
      · rw [if_pos hc, if_pos hc]; exact List.Perm.cons _ (sn_step hs h.2 hm')
      · rw [if_neg hc, if_neg hc]; exact sn_step hs h.2 hm'
theorem left_all {clock : Nat} {M : List MEn} {seen : Array Nat} (hM : MOK M clock) (h : (leftOf (M.map MEn.e).toArray seen).size = 0) : (M.filter fun m => seen.contains m.born) = M := by
  refine List.filter_eq_self.2 fun m hm => ?_
  cases hs : seen.contains m.born with
  | true => rfl
  | false =>
    exfalso
    have : m.e ∈ leftOf (M.map MEn.e).toArray seen := by
      unfold leftOf
      refine Array.mem_filter.2 ⟨by simpa using ⟨m, hm, rfl⟩, ?_⟩
      show (!seen.contains m.born) = true
      rw [hs]; rfl
    rw [Array.eq_empty_of_size_eq_zero h] at this
    simp at this
theorem ent_nodup2 {clock : Nat} {M : List MEn} (hM : MOK M clock) : ((((M.map MEn.e).toArray).toList).map (·.born)).Nodup := by
  show ((M.map MEn.e).map (·.born)).Nodup
  rw [List.map_map]
  exact hM.births
theorem sort_O {X : List Nat} {w0 w : World} {A : List Blk} (o : Hs) (ho : o.ok) (hn : o.cs.length < 1000000) (H : Hp X w0 (A ++ o.blks) w) : Calls Try.prog 34 #[o.v, .func (.func 35) #[] #[]] w fun e w' => ∃ o' : Hs, e = .returned (.tuple #[]) ∧ (o'.ok ∧ o'.v = o.v ∧ o'.cs.Perm o.cs ∧ o'.cs.Pairwise (fun a b => a.1 ≤ b.1)) ∧ Hp X w0 (A ++ o'.blks) w' := by
  obtain ⟨nl, g, cap, rest, cs⟩ := o
  cases nl with
  | true =>
    have h0 : cs = [] := ho.nil rfl
    subst h0
    exact (sort0 none 0 _ w).mono fun e w' ⟨h1, h2⟩ => ⟨⟨true, g, cap, rest, []⟩, h1, ⟨ho, rfl, List.Perm.refl _, List.Pairwise.nil⟩, by rw [h2]; exact H⟩
  | false =>
    have Hq : Hp X w0 ([⟨true, g, .cells (sl (cs.flatMap encH) rest) 60 (0, 0)⟩] ++ (clH cs ++ A)) w := H.perm (by
      show List.Perm (A ++ (_ :: clH cs)) (_ :: (clH cs ++ A))
      exact List.perm_append_comm)
    refine (sort_S g cap cs rest w (Hq.at_ (k := 0) rfl) hn).mono fun e w' ⟨cs', h1, hp, hs, Hc⟩ => ⟨⟨false, g, cap, rest, cs'⟩, h1, ⟨⟨(fun h => by cases h), fun _ => ?_, fun c hc => ho.each c (hp.mem_iff.1 hc)⟩, ?_, hp, hs⟩, ?_⟩
    · have h2 := ho.own rfl
      have e : (cs'.flatMap encH).length = (cs.flatMap encH).length := by rw [encL, encL, hp.length_eq]
      exact ⟨by show (cs'.flatMap encH).length = cs'.length * 2; rw [encL], by show (cs'.flatMap encH).length + _ = _; rw [e]; exact h2.tot, by show cs'.length ≤ _; rw [hp.length_eq]; exact h2.le, h2.max⟩
    · show Value.slice _ cs'.length _ = Value.slice _ cs.length _
      rw [hp.length_eq]
    · have hm := Hp.merge2 Hq rfl rfl Hc (fun p hp => by rw [List.mem_singleton.1 hp])
      refine hm.perm ?_
      show List.Perm (_ :: (clH cs ++ A)) (A ++ (_ :: clH cs'))
      exact (List.Perm.cons _ (List.Perm.append_right _ (clH_perm hp).symm)).trans (show List.Perm ((_ :: clH cs') ++ A) (A ++ (_ :: clH cs')) from List.perm_append_comm)

set_option maxRecDepth 100000 in
set_option maxHeartbeats 4000000 in
theorem held_nil (xb : Nat) (uv : Value) (w : World) (hx : w.heap[xb]? = some (.cells #[.map none, uv] 28 (0, 0))) : Calls Try.prog 22 #[.pointer (some ⟨xb, 0, none⟩)] w fun e w' => e = .returned (.slice none 0 0) ∧ Kept [] w w' := by
  refine C_enter Try.func22 rfl 26 Try.ntmps22 (Nat.le_of_ble_eq_true rfl) (fun a F => ?_)
  have H := Hp.start1 [] hx
  replace F : Fm 26 [] [(0, pt xb 0)] a := F.weak _ (subL_of kr)
  refine C_seqK (fun K1 hK1 => ?_)
  refine C_region ?_
  refine T_k F H (.slice none 0 0) ?_
  clear F; intro a F
  refine wpList_nil ?_
  refine hK1 _ _ ?_
  clear hK1
  try clear K1
  refine C_seqK (fun K2 hK2 => ?_)
  refine C_region ?_
  refine T_k F H (.slice none 0 0) ?_
  clear F; intro a F
  refine wpList_nil ?_
  refine hK2 _ _ ?_
  clear hK2
  try clear K2
  refine C_seqK (fun K3 hK3 => ?_)
  refine C_seqK (fun K4 hK4 => ?_)
  refine C_region ?_
  refine T_k F H (pt xb 0) ?_
  clear F; intro a F
  refine T_k F H (pt xb 0) ?_
  clear F; intro a F
  refine T_k F H (pt xb 0) ?_
  clear F; intro a F
  refine T_val F H kr (.map none) (R_cell  0 rfl 25 (.tmp 8) rfl 0 kr (.map none) kr _ Try.underlying25 rfl) ?_
  clear F; intro a F
  refine T_new F H kr (fun ad => pt ad 0) (.mapIter none 0 #[] 0) (fun w => R_rangeN (x := (.tmp 9)) rfl Try.underlying25 kr w) ?_
  clear F H; intro it5 a v F H
  generalize it5 = it at F H
  refine wpList_nil ?_
  refine hK4 _ _ ?_
  clear hK4
  try clear K4
  replace F : Fm 26 [] [(10, pt it 0), (3, .slice none 0 0)] a := F.weak _ (subL_of kr)
  refine wp_block ?_
  refine C_loop (fun m a v => Fm 26 [] [(10, pt it 0), (3, .slice none 0 0)] a ∧ Hp [] w [⟨true, it, .mapIter none 0 #[] 0⟩, br xb #[.map none, uv] 28] v) 0 ⟨F, H⟩ ?_
  clear F H
  intro m a v ⟨F, H⟩
  refine C_seqK (fun K6 hK6 => ?_)
  refine C_region ?_
  refine T_val F H kr (.tuple #[.bool false]) (fun w hl => R_nextN (x := (.tmp 10)) rfl kr (hl.at_ (k := 0) rfl)) ?_
  clear F; intro a F
  refine T_k F H (.bool false) ?_
  clear F; intro a F
  refine wpList_nil ?_
  refine hK6 _ _ ?_
  clear hK6
  try clear K6
  refine C_seqK (fun K7 hK7 => ?_)
  refine C_if F false rfl rfl ?_
  refine wp_exit ?_
  refine hK3 _ _ ?_
  clear hK3
  try clear K3
  refine C_seqK (fun K8 hK8 => ?_)
  refine C_region ?_
  refine T_k F H (.slice none 0 0) ?_
  clear F; intro a F
  refine T_call F H kr 34 #[.slice none 0 0, .func (.func 35) #[] #[]] (.tuple #[]) (fun w => kr) ((sort0 none 0 _ _).mono fun e w' ⟨h1, h2⟩ => ⟨h1, by rw [h2]; exact Kept.refl _ _⟩) ?_
  clear F H; intro a v F H
  refine wpList_nil ?_
  refine hK8 _ _ ?_
  clear hK8
  try clear K8
  refine C_seqK (fun K9 hK9 => ?_)
  refine C_region ?_
  refine T_k F H (.slice none 0 0) ?_
  clear F; intro a F
  refine T_k F H (.slice none 0 0) ?_
  clear F; intro a F
  refine wpList_nil ?_
  refine hK9 _ _ ?_
  clear hK9
  try clear K9
  refine wp_ret ?_
  exact C_ret F H (rs := [.tmp 2]) rfl (vs := [.slice none 0 0]) (.tmp rfl .nil) (.slice none 0 0) rfl ⟨rfl, H.kept⟩

theorem Hp.start2H {w : World} {a b : Nat} {o p : Obj} (ha : w.heap[a]? = some o) (hb : w.heap[b]? = some p) (hne : a ≠ b) : Hp [] w [⟨false, a, o⟩, ⟨false, b, p⟩] w :=
  ⟨Kept.refl _ _, fun q hq => by
    simp only [List.mem_cons, List.not_mem_nil, or_false] at hq
    rcases hq with rfl | rfl
    · exact ha
    · exact hb, fun q hq ho => by
    simp only [List.mem_cons, List.not_mem_nil, or_false] at hq
    rcases hq with rfl | rfl
    · exact Bool.noConfusion ho
    · exact Bool.noConfusion ho,
    List.pairwise_cons.2 ⟨fun q hq => by rw [List.mem_singleton.1 hq]; exact hne, List.pairwise_singleton _ _⟩⟩

set_option maxRecDepth 100000 in
set_option maxHeartbeats 4000000 in
theorem held_some (xb mb clock : Nat) (M : List MEn) (uv : Value) (hM : MOK M clock) (hn : M.length < 1000000) (w : World) (hx : w.heap[xb]? = some (.cells #[.map (some mb), uv] 28 (0, 0))) (hm0 : w.heap[mb]? = some (mpO M clock)) (hne : mb ≠ xb) (hcs : ∀ m ∈ M, m.c.ok ∧ m.c.sv.Rd w) : Calls Try.prog 22 #[.pointer (some ⟨xb, 0, none⟩)] w fun e w' => ∃ o : Hs, e = .returned o.v ∧ o.ok ∧ o.cs.Pairwise (fun a b => a.1 ≤ b.1) ∧ o.D.Perm (M.map fun m => (m.k, m.c.l)) ∧ Hp [] w o.blks w' := by
  refine C_enter Try.func22 rfl 26 Try.ntmps22 (Nat.le_of_ble_eq_true rfl) (fun a F => ?_)
  have H : Hp [] w [⟨false, mb, mpO M clock⟩, br xb #[.map (some mb), uv] 28] w := Hp.start2H hm0 hx hne
  replace F : Fm 26 [] [(0, pt xb 0)] a := F.weak _ (subL_of kr)
  refine C_seqK (fun K1 hK1 => ?_)
  refine C_region ?_
  refine T_k F H (.slice none 0 0) ?_
  clear F; intro a F
  refine wpList_nil ?_
  refine hK1 _ _ ?_
  clear hK1
  try clear K1
  refine C_seqK (fun K2 hK2 => ?_)
  refine C_region ?_
  refine T_k F H (.slice none 0 0) ?_
  clear F; intro a F
  refine wpList_nil ?_
  refine hK2 _ _ ?_
  clear hK2
  try clear K2
  refine C_seqK (fun K3 hK3 => ?_)
  refine C_seqK (fun K4 hK4 => ?_)
  refine C_region ?_
  refine T_k F H (pt xb 0) ?_
  clear F; intro a F
  refine T_k F H (pt xb 0) ?_
  clear F; intro a F
  refine T_k F H (pt xb 0) ?_
  clear F; intro a F
  refine T_val F H kr (.map (some mb)) (R_cell (own := false) (g := xb) (all := #[.map (some mb), uv]) (t := 28) (fr := (0, 0)) 1 kr 25 (.tmp 8) rfl 0 kr (.map (some mb)) kr _ Try.underlying25 rfl) ?_
  clear F; intro a F
  refine T_newH F H kr (fun ad => pt ad 0) (.mapIter (some mb) clock #[] clock) (fun w hl => R_range (x := (.tmp 9)) rfl Try.underlying25 kr (hl.at_ (k := 0) rfl)) ?_
  clear F H; intro it5 a v F H
  generalize it5 = it at F H
  refine wpList_nil ?_
  refine hK4 _ _ ?_
  clear hK4
  try clear K4
  replace F : Fm 26 [] [(10, pt it 0), (3, .slice none 0 0)] a := F.weak _ (subL_of kr)
  refine wp_block ?_
  refine C_loop (fun m a v => ∃ (seen : Array Nat) (o : Hs), cntv M seen = m ∧ (o.ok ∧ o.D.Perm ((M.filter fun m => seen.contains m.born).map fun m => (m.k, m.c.l))) ∧ Fm 26 [] [(10, pt it 0), (3, (o.v))] a ∧ Hp [] w (⟨true, it, .mapIter (some mb) clock seen clock⟩ :: ⟨false, mb, mpO M clock⟩ :: (br xb #[.map (some mb), uv] 28) :: o.blks) v) (cntv M #[]) ⟨#[], ⟨true, 0, 0, [], []⟩, rfl, ⟨⟨fun _ => rfl, (fun e => by cases e), fun c hc => by cases hc⟩, by rw [List.filter_eq_nil_iff.2 (fun m _ => by simp)]; exact List.Perm.refl _⟩, F, H⟩ ?_
  clear F H
  intro m a v ⟨seen, o, hcnt, ⟨ho, hD⟩, F, H⟩
  have hol : o.cs.length ≤ M.length := by
    have h1 := hD.length_eq
    unfold Hs.D at h1
    rw [List.length_map, List.length_map] at h1
    rw [h1]; exact List.length_filter_le _ _
  refine C_seqK (fun K hK => ?_)
  refine C_region ?_
  refine T_next F H kr (it := (.tmp 10)) rfl (ki := 0) (km := 1) rfl rfl kr (fun x hx => by simp only [List.mem_map] at hx; obtain ⟨m, hm, rfl⟩ := hx; exact hM.old m hm) (Nat.le_refl _) (fun hz a F => ?_) (fun e he a v H0 H1 => ?_)
  rotate_left
  · clear F H
    obtain ⟨m0, hm0, rfl, hs0⟩ := left_mem he
    have hstep := sn_step hs0 hM.births hm0
    have hdec := cntv_dec hM hm0 hs0
    obtain ⟨hckok, hckr⟩ := hcs m0 hm0
    have hnd := ent_nodup2 hM
    replace H0 : Fm 26 [] [(11, .tuple #[.bool true, nw m0.k, m0.c.v]), (10, pt it 0), (3, (o.v))] a := H0.weak _ (subL_of kr)
    have F := H0
    have H : Hp [] w (⟨true, it, .mapIter (some mb) clock (seen.push m0.born) clock⟩ :: ⟨false, mb, mpO M clock⟩ :: (br xb #[.map (some mb), uv] 28) :: o.blks) v := H1
    clear H0 H1
    refine T_k F H (.bool true) ?_
    clear F; intro a F
    refine wpList_nil ?_
    refine hK _ _ ?_
    clear hK
    try clear K
    obtain ⟨k0, ⟨cnl, bg, bc, br_, l⟩, born⟩ := m0
    obtain ⟨onl, og, oc, orest, cs0⟩ := o
    cases onl <;> cases cnl
    · skip
      have hOo : Own (cs0.flatMap encH) orest cs0.length oc 2 := ho.own rfl
      replace hol : cs0.length ≤ M.length := hol
      replace F : Fm 26 [] [(12, .bool true), (11, .tuple #[.bool true, nw k0, sc bg 0 l.length bc]), (10, pt it 0), (3, sc og 0 cs0.length oc)] a := F
      replace H : Hp [] w (⟨true, it, .mapIter (some mb) clock (seen.push born) clock⟩ :: ⟨false, mb, mpO M clock⟩ :: (br xb #[.map (some mb), uv] 28) :: (bk og (sl (cs0.flatMap encH) orest) 60) :: clH cs0) v := H
      refine C_seqK (fun K6 hK6 => ?_)
      refine C_if F true rfl rfl ?_
      refine wp_skip ?_
      refine hK6 _ _ ?_
      clear hK6
      try clear K6
      refine wp_block ?_
      refine C_seqK (fun K7 hK7 => ?_)
      refine C_region ?_
      refine T_val F H kr (.tuple #[nw k0, sc bg 0 l.length bc]) (fun w hl => R_entry (x := (.tmp 10)) rfl (e := MEn.e ⟨k0, ⟨false, bg, bc, br_, l⟩, born⟩) kr (hl.at_ (k := 0) rfl) (hl.at_ (k := 1) rfl) (by simpa using ⟨_, hm0, rfl⟩) hnd) ?_
      clear F; intro a F
      refine T_k F H (nw k0) ?_
      clear F; intro a F
      refine T_k F H (sc bg 0 l.length bc) ?_
      clear F; intro a F
      refine T_k F H (nw k0) ?_
      clear F; intro a F
      refine T_k F H (sc bg 0 l.length bc) ?_
      clear F; intro a F
      refine wpList_nil ?_
      refine hK7 _ _ ?_
      clear hK7
      try clear K7
      refine C_region ?_
      refine T_k F H (sc og 0 cs0.length oc) ?_
      clear F; intro a F
      refine T_k F H (nw k0) ?_
      clear F; intro a F
      refine T_k F H (sc bg 0 l.length bc) ?_
      clear F; intro a F
      refine T_callX (α := SlR) F H kr 29 #[sc bg 0 l.length bc] (fun rX => sc rX.g 0 l.length rX.cap) (fun rX => ((bk rX.g (sl (oct (l)) rX.rest) 5) :: ⟨true, it, .mapIter (some mb) clock (seen.push born) clock⟩ :: ⟨false, mb, mpO M clock⟩ :: (br xb #[.map (some mb), uv] 28) :: (bk og (sl (cs0.flatMap encH) orest) 60) :: clH cs0)) (fun rX => Own (oct (l)) rX.rest (l.length) rX.cap 1) (fun w => kr) (fun w H => callsX_newV H (clone_some ⟨bg, 0, none⟩ l.length bc l rfl hckok.big _ ((hckr.kept H.kept).rds rfl))) ?_
      clear F H; intro rq8 a v Qrq8 F H
      refine T_k F H (.agg #[nw k0, sc rq8.g 0 l.length rq8.cap]) ?_
      clear F; intro a F
      refine T_new F H kr (fun ad => sc ad 0 1 1) (ce (sl ([nw k0, sc rq8.g 0 l.length rq8.cap]) []) 60) (fun w => R_buildS (len := 1) rfl Try.underlying31 ((sl ([nw k0, sc rq8.g 0 l.length rq8.cap]) [])) kr w) ?_
      clear F H; intro aq9 a v F H
      refine T_app F H kr 31 60 (.tmp 16) (.tmp 21) rfl 2 32 kr kr 5 rfl hOo kr (1) ([nw k0, sc rq8.g 0 l.length rq8.cap]) (fun w hk hl => (RdS.all (hl.at_ (k := 0) rfl) (Nat.le_refl _))) rfl (by intro u hu; simp only [List.mem_cons, List.not_mem_nil, or_false] at hu; first | (subst hu; rfl) | (rcases hu with rfl | rfl | rfl <;> rfl)) (by simp only [maxLen]; omega) (by omega) _ rfl ?_
      clear F H; intro rq10 a v Qrq10 F H
      refine T_k F H (sc rq10.g 0 (cs0.length + 1) rq10.cap) ?_
      clear F; intro a F
      refine wpList_nil ?_
      replace H : Hp [] w (⟨true, it, .mapIter (some mb) clock (seen.push born) clock⟩ :: ⟨false, mb, mpO M clock⟩ :: (br xb #[.map (some mb), uv] 28) :: (bk rq10.g (sl ((cs0.flatMap encH) ++ ([nw k0, sc rq8.g 0 l.length rq8.cap])) rq10.rest) 60) :: (bk rq8.g (sl (oct (l)) rq8.rest) 5) :: clH cs0) v := Hp.pickT (A := [bk rq10.g (sl ((cs0.flatMap encH) ++ ([nw k0, sc rq8.g 0 l.length rq8.cap])) rq10.rest) 60, bk aq9 (sl ([nw k0, sc rq8.g 0 l.length rq8.cap]) []) 60, bk rq8.g (sl (oct (l)) rq8.rest) 5, ⟨true, it, .mapIter (some mb) clock (seen.push born) clock⟩, ⟨false, mb, mpO M clock⟩, br xb #[.map (some mb), uv] 28]) (R := clH cs0) H [3, 4, 5, 0, 2] kr _ rfl
      refine ⟨_, hcnt ▸ hdec, seen.push born, (⟨false, rq10.g, rq10.cap, rq10.rest, cs0 ++ [(k0, (⟨false, rq8.g, rq8.cap, rq8.rest, l⟩ : Cl))]⟩ : Hs), rfl, ⟨⟨(fun e => by cases e), (fun _ => by rw [List.flatMap_append, List.length_append]; exact Qrq10), (fun c hc => (List.mem_append.1 hc).elim (ho.each c) (fun hc => by rw [List.mem_singleton.1 hc]; exact ⟨hckok.big, (fun e => by cases e), fun _ => Qrq8⟩))⟩, ?_⟩, ?_, ?_⟩
      · have h2 := (hD.append_right [(k0, l)]).trans ((hstep.map fun m => (m.k, m.c.l)).trans (by rw [List.map_append]; exact List.Perm.refl _)).symm
        refine List.Perm.trans (List.Perm.of_eq ?_) h2
        show (cs0 ++ [(k0, (⟨false, rq8.g, rq8.cap, rq8.rest, l⟩ : Cl))]).map dH = cs0.map dH ++ [_]
        rw [List.map_append]; rfl
      · show Fm 26 [] [(10, pt it 0), (3, sc rq10.g 0 (cs0 ++ [(k0, (⟨false, rq8.g, rq8.cap, rq8.rest, l⟩ : Cl))]).length rq10.cap)] a
        rw [List.length_append]
        exact F.weak _ (subL_of kr)
      · refine Hp.tailH (A := [⟨true, it, .mapIter (some mb) clock (seen.push born) clock⟩, ⟨false, mb, mpO M clock⟩, br xb #[.map (some mb), uv] 28, bk rq10.g (sl ((cs0 ++ [(k0, (⟨false, rq8.g, rq8.cap, rq8.rest, l⟩ : Cl))]).flatMap encH) rq10.rest) 60]) (c := (k0, (⟨false, rq8.g, rq8.cap, rq8.rest, l⟩ : Cl))) (cs := cs0) ?_
        rw [List.flatMap_append]
        exact H
    · skip
      have hOo : Own (cs0.flatMap encH) orest cs0.length oc 2 := ho.own rfl
      replace hol : cs0.length ≤ M.length := hol
      have h1 : l = [] := hckok.nil rfl
      subst h1
      replace F : Fm 26 [] [(12, .bool true), (11, .tuple #[.bool true, nw k0, .slice none 0 0]), (10, pt it 0), (3, sc og 0 cs0.length oc)] a := F
      replace H : Hp [] w (⟨true, it, .mapIter (some mb) clock (seen.push born) clock⟩ :: ⟨false, mb, mpO M clock⟩ :: (br xb #[.map (some mb), uv] 28) :: (bk og (sl (cs0.flatMap encH) orest) 60) :: clH cs0) v := H
      refine C_seqK (fun K11 hK11 => ?_)
      refine C_if F true rfl rfl ?_
      refine wp_skip ?_
      refine hK11 _ _ ?_
      clear hK11
      try clear K11
      refine wp_block ?_
      refine C_seqK (fun K12 hK12 => ?_)
      refine C_region ?_
      refine T_val F H kr (.tuple #[nw k0, .slice none 0 0]) (fun w hl => R_entry (x := (.tmp 10)) rfl (e := MEn.e ⟨k0, ⟨true, bg, bc, br_, []⟩, born⟩) kr (hl.at_ (k := 0) rfl) (hl.at_ (k := 1) rfl) (by simpa using ⟨_, hm0, rfl⟩) hnd) ?_
      clear F; intro a F
      refine T_k F H (nw k0) ?_
      clear F; intro a F
      refine T_k F H (.slice none 0 0) ?_
      clear F; intro a F
      refine T_k F H (nw k0) ?_
      clear F; intro a F
      refine T_k F H (.slice none 0 0) ?_
      clear F; intro a F
      refine wpList_nil ?_
      refine hK12 _ _ ?_
      clear hK12
      try clear K12
      refine C_region ?_
      refine T_k F H (sc og 0 cs0.length oc) ?_
      clear F; intro a F
      refine T_k F H (nw k0) ?_
      clear F; intro a F
      refine T_k F H (.slice none 0 0) ?_
      clear F; intro a F
      refine T_call F H kr 29 #[.slice none 0 0] (.slice none 0 0) (fun w => kr) (clone_nil _) ?_
      clear F H; intro a v F H
      refine T_k F H (.agg #[nw k0, .slice none 0 0]) ?_
      clear F; intro a F
      refine T_new F H kr (fun ad => sc ad 0 1 1) (ce (sl ([nw k0, .slice none 0 0]) []) 60) (fun w => R_buildS (len := 1) rfl Try.underlying31 ((sl ([nw k0, .slice none 0 0]) [])) kr w) ?_
      clear F H; intro aq13 a v F H
      refine T_app F H kr 31 60 (.tmp 16) (.tmp 21) rfl 2 32 kr kr 4 rfl hOo kr (1) ([nw k0, .slice none 0 0]) (fun w hk hl => (RdS.all (hl.at_ (k := 0) rfl) (Nat.le_refl _))) rfl (by intro u hu; simp only [List.mem_cons, List.not_mem_nil, or_false] at hu; first | (subst hu; rfl) | (rcases hu with rfl | rfl | rfl <;> rfl)) (by simp only [maxLen]; omega) (by omega) _ rfl ?_
      clear F H; intro rq14 a v Qrq14 F H
      refine T_k F H (sc rq14.g 0 (cs0.length + 1) rq14.cap) ?_
      clear F; intro a F
      refine wpList_nil ?_
      replace H : Hp [] w (⟨true, it, .mapIter (some mb) clock (seen.push born) clock⟩ :: ⟨false, mb, mpO M clock⟩ :: (br xb #[.map (some mb), uv] 28) :: (bk rq14.g (sl ((cs0.flatMap encH) ++ ([nw k0, .slice none 0 0])) rq14.rest) 60) :: clH cs0) v := Hp.pickT (A := [bk rq14.g (sl ((cs0.flatMap encH) ++ ([nw k0, .slice none 0 0])) rq14.rest) 60, bk aq13 (sl ([nw k0, .slice none 0 0]) []) 60, ⟨true, it, .mapIter (some mb) clock (seen.push born) clock⟩, ⟨false, mb, mpO M clock⟩, br xb #[.map (some mb), uv] 28]) (R := clH cs0) H [2, 3, 4, 0] kr _ rfl
      refine ⟨_, hcnt ▸ hdec, seen.push born, (⟨false, rq14.g, rq14.cap, rq14.rest, cs0 ++ [(k0, (⟨true, 0, 0, [], []⟩ : Cl))]⟩ : Hs), rfl, ⟨⟨(fun e => by cases e), (fun _ => by rw [List.flatMap_append, List.length_append]; exact Qrq14), (fun c hc => (List.mem_append.1 hc).elim (ho.each c) (fun hc => by rw [List.mem_singleton.1 hc]; exact ⟨Nat.zero_le _, fun _ => rfl, fun e => by cases e⟩))⟩, ?_⟩, ?_, ?_⟩
      · have h2 := (hD.append_right [(k0, ([] : List Nat))]).trans ((hstep.map fun m => (m.k, m.c.l)).trans (by rw [List.map_append]; exact List.Perm.refl _)).symm
        refine List.Perm.trans (List.Perm.of_eq ?_) h2
        show (cs0 ++ [(k0, (⟨true, 0, 0, [], []⟩ : Cl))]).map dH = cs0.map dH ++ [_]
        rw [List.map_append]; rfl
      · show Fm 26 [] [(10, pt it 0), (3, sc rq14.g 0 (cs0 ++ [(k0, (⟨true, 0, 0, [], []⟩ : Cl))]).length rq14.cap)] a
        rw [List.length_append]
        exact F.weak _ (subL_of kr)
      · refine Hp.tailH (A := [⟨true, it, .mapIter (some mb) clock (seen.push born) clock⟩, ⟨false, mb, mpO M clock⟩, br xb #[.map (some mb), uv] 28, bk rq14.g (sl ((cs0 ++ [(k0, (⟨true, 0, 0, [], []⟩ : Cl))]).flatMap encH) rq14.rest) 60]) (c := (k0, (⟨true, 0, 0, [], []⟩ : Cl))) (cs := cs0) ?_
        rw [List.flatMap_append]
        exact H
    · skip
      have h0 : cs0 = [] := ho.nil rfl
      subst h0
      replace F : Fm 26 [] [(12, .bool true), (11, .tuple #[.bool true, nw k0, sc bg 0 l.length bc]), (10, pt it 0), (3, .slice none 0 0)] a := F
      replace H : Hp [] w [⟨true, it, .mapIter (some mb) clock (seen.push born) clock⟩, ⟨false, mb, mpO M clock⟩, br xb #[.map (some mb), uv] 28] v := H
      refine C_seqK (fun K15 hK15 => ?_)
      refine C_if F true rfl rfl ?_
      refine wp_skip ?_
      refine hK15 _ _ ?_
      clear hK15
      try clear K15
      refine wp_block ?_
      refine C_seqK (fun K16 hK16 => ?_)
      refine C_region ?_
      refine T_val F H kr (.tuple #[nw k0, sc bg 0 l.length bc]) (fun w hl => R_entry (x := (.tmp 10)) rfl (e := MEn.e ⟨k0, ⟨false, bg, bc, br_, l⟩, born⟩) kr (hl.at_ (k := 0) rfl) (hl.at_ (k := 1) rfl) (by simpa using ⟨_, hm0, rfl⟩) hnd) ?_
      clear F; intro a F
      refine T_k F H (nw k0) ?_
      clear F; intro a F
      refine T_k F H (sc bg 0 l.length bc) ?_
      clear F; intro a F
      refine T_k F H (nw k0) ?_
      clear F; intro a F
      refine T_k F H (sc bg 0 l.length bc) ?_
      clear F; intro a F
      refine wpList_nil ?_
      refine hK16 _ _ ?_
      clear hK16
      try clear K16
      refine C_region ?_
      refine T_k F H (.slice none 0 0) ?_
      clear F; intro a F
      refine T_k F H (nw k0) ?_
      clear F; intro a F
      refine T_k F H (sc bg 0 l.length bc) ?_
      clear F; intro a F
      refine T_callX (α := SlR) F H kr 29 #[sc bg 0 l.length bc] (fun rX => sc rX.g 0 l.length rX.cap) (fun rX => [bk rX.g (sl (oct (l)) rX.rest) 5, ⟨true, it, .mapIter (some mb) clock (seen.push born) clock⟩, ⟨false, mb, mpO M clock⟩, br xb #[.map (some mb), uv] 28]) (fun rX => Own (oct (l)) rX.rest (l.length) rX.cap 1) (fun w => kr) (fun w H => callsX_newV H (clone_some ⟨bg, 0, none⟩ l.length bc l rfl hckok.big _ ((hckr.kept H.kept).rds rfl))) ?_
      clear F H; intro rq17 a v Qrq17 F H
      refine T_k F H (.agg #[nw k0, sc rq17.g 0 l.length rq17.cap]) ?_
      clear F; intro a F
      refine T_new F H kr (fun ad => sc ad 0 1 1) (ce (sl ([nw k0, sc rq17.g 0 l.length rq17.cap]) []) 60) (fun w => R_buildS (len := 1) rfl Try.underlying31 ((sl ([nw k0, sc rq17.g 0 l.length rq17.cap]) [])) kr w) ?_
      clear F H; intro aq18 a v F H
      refine T_appN F H kr 31 60 (.tmp 16) (.tmp 21) rfl 2 32 kr kr kr (1) ([nw k0, sc rq17.g 0 l.length rq17.cap]) (fun w hk hl => (RdS.all (hl.at_ (k := 0) rfl) (Nat.le_refl _))) rfl (by decide) (by simp only [maxLen]; decide) (by decide) ?_
      clear F H; intro rq19 a v Qrq19 F H
      refine T_k F H (sc rq19.g 0 1 rq19.cap) ?_
      clear F; intro a F
      refine wpList_nil ?_
      replace H : Hp [] w [⟨true, it, .mapIter (some mb) clock (seen.push born) clock⟩, ⟨false, mb, mpO M clock⟩, br xb #[.map (some mb), uv] 28, bk rq19.g (sl ([nw k0, sc rq17.g 0 l.length rq17.cap]) rq19.rest) 60, bk rq17.g (sl (oct (l)) rq17.rest) 5] v := H.pick [3, 4, 5, 0, 2] kr _ rfl
      refine ⟨_, hcnt ▸ hdec, seen.push born, (⟨false, rq19.g, rq19.cap, rq19.rest, [] ++ [(k0, (⟨false, rq17.g, rq17.cap, rq17.rest, l⟩ : Cl))]⟩ : Hs), rfl, ⟨⟨(fun e => by cases e), (fun _ => by show Own (([(k0, (⟨false, rq17.g, rq17.cap, rq17.rest, l⟩ : Cl))] : List (Nat × Cl)).flatMap encH) _ ([(k0, (⟨false, rq17.g, rq17.cap, rq17.rest, l⟩ : Cl))] : List (Nat × Cl)).length _ 2; simp only [List.flatMap_cons, List.flatMap_nil, List.append_nil]; exact Qrq19), (fun c hc => by rw [List.mem_singleton.1 hc]; exact ⟨hckok.big, (fun e => by cases e), fun _ => Qrq17⟩)⟩, ?_⟩, ?_, ?_⟩
      · have h2 := (hD.append_right [(k0, l)]).trans ((hstep.map fun m => (m.k, m.c.l)).trans (by rw [List.map_append]; exact List.Perm.refl _)).symm
        refine List.Perm.trans (List.Perm.of_eq ?_) h2
        show ([] ++ [(k0, (⟨false, rq17.g, rq17.cap, rq17.rest, l⟩ : Cl))]).map dH = [].map dH ++ [_]
        rw [List.map_append]; rfl
      · show Fm 26 [] [(10, pt it 0), (3, sc rq19.g 0 ([] ++ [(k0, (⟨false, rq17.g, rq17.cap, rq17.rest, l⟩ : Cl))]).length rq19.cap)] a
        exact F.weak _ (subL_of kr)
      · exact Hp.tailH (A := [⟨true, it, .mapIter (some mb) clock (seen.push born) clock⟩, ⟨false, mb, mpO M clock⟩, br xb #[.map (some mb), uv] 28, bk rq19.g (sl (([] ++ [(k0, (⟨false, rq17.g, rq17.cap, rq17.rest, l⟩ : Cl))]).flatMap encH) rq19.rest) 60]) (c := (k0, (⟨false, rq17.g, rq17.cap, rq17.rest, l⟩ : Cl))) (cs := []) H
    · skip
      have h0 : cs0 = [] := ho.nil rfl
      subst h0
      have h1 : l = [] := hckok.nil rfl
      subst h1
      replace F : Fm 26 [] [(12, .bool true), (11, .tuple #[.bool true, nw k0, .slice none 0 0]), (10, pt it 0), (3, .slice none 0 0)] a := F
      replace H : Hp [] w [⟨true, it, .mapIter (some mb) clock (seen.push born) clock⟩, ⟨false, mb, mpO M clock⟩, br xb #[.map (some mb), uv] 28] v := H
      refine C_seqK (fun K20 hK20 => ?_)
      refine C_if F true rfl rfl ?_
      refine wp_skip ?_
      refine hK20 _ _ ?_
      clear hK20
      try clear K20
      refine wp_block ?_
      refine C_seqK (fun K21 hK21 => ?_)
      refine C_region ?_
      refine T_val F H kr (.tuple #[nw k0, .slice none 0 0]) (fun w hl => R_entry (x := (.tmp 10)) rfl (e := MEn.e ⟨k0, ⟨true, bg, bc, br_, []⟩, born⟩) kr (hl.at_ (k := 0) rfl) (hl.at_ (k := 1) rfl) (by simpa using ⟨_, hm0, rfl⟩) hnd) ?_
      clear F; intro a F
      refine T_k F H (nw k0) ?_
      clear F; intro a F
      refine T_k F H (.slice none 0 0) ?_
      clear F; intro a F
      refine T_k F H (nw k0) ?_
      clear F; intro a F
      refine T_k F H (.slice none 0 0) ?_
      clear F; intro a F
      refine wpList_nil ?_
      refine hK21 _ _ ?_
      clear hK21
      try clear K21
      refine C_region ?_
      refine T_k F H (.slice none 0 0) ?_
      clear F; intro a F
      refine T_k F H (nw k0) ?_
      clear F; intro a F
      refine T_k F H (.slice none 0 0) ?_
      clear F; intro a F
      refine T_call F H kr 29 #[.slice none 0 0] (.slice none 0 0) (fun w => kr) (clone_nil _) ?_
      clear F H; intro a v F H
      refine T_k F H (.agg #[nw k0, .slice none 0 0]) ?_
      clear F; intro a F
      refine T_new F H kr (fun ad => sc ad 0 1 1) (ce (sl ([nw k0, .slice none 0 0]) []) 60) (fun w => R_buildS (len := 1) rfl Try.underlying31 ((sl ([nw k0, .slice none 0 0]) [])) kr w) ?_
      clear F H; intro aq22 a v F H
      refine T_appN F H kr 31 60 (.tmp 16) (.tmp 21) rfl 2 32 kr kr kr (1) ([nw k0, .slice none 0 0]) (fun w hk hl => (RdS.all (hl.at_ (k := 0) rfl) (Nat.le_refl _))) rfl (by decide) (by simp only [maxLen]; decide) (by decide) ?_
      clear F H; intro rq23 a v Qrq23 F H
      refine T_k F H (sc rq23.g 0 1 rq23.cap) ?_
      clear F; intro a F
      refine wpList_nil ?_
      replace H : Hp [] w [⟨true, it, .mapIter (some mb) clock (seen.push born) clock⟩, ⟨false, mb, mpO M clock⟩, br xb #[.map (some mb), uv] 28, bk rq23.g (sl ([nw k0, .slice none 0 0]) rq23.rest) 60] v := H.pick [2, 3, 4, 0] kr _ rfl
      refine ⟨_, hcnt ▸ hdec, seen.push born, (⟨false, rq23.g, rq23.cap, rq23.rest, [] ++ [(k0, (⟨true, 0, 0, [], []⟩ : Cl))]⟩ : Hs), rfl, ⟨⟨(fun e => by cases e), (fun _ => by show Own (([(k0, (⟨true, 0, 0, [], []⟩ : Cl))] : List (Nat × Cl)).flatMap encH) _ ([(k0, (⟨true, 0, 0, [], []⟩ : Cl))] : List (Nat × Cl)).length _ 2; simp only [List.flatMap_cons, List.flatMap_nil, List.append_nil]; exact Qrq23), (fun c hc => by rw [List.mem_singleton.1 hc]; exact ⟨Nat.zero_le _, fun _ => rfl, fun e => by cases e⟩)⟩, ?_⟩, ?_, ?_⟩
      · have h2 := (hD.append_right [(k0, ([] : List Nat))]).trans ((hstep.map fun m => (m.k, m.c.l)).trans (by rw [List.map_append]; exact List.Perm.refl _)).symm
        refine List.Perm.trans (List.Perm.of_eq ?_) h2
        show ([] ++ [(k0, (⟨true, 0, 0, [], []⟩ : Cl))]).map dH = [].map dH ++ [_]
        rw [List.map_append]; rfl
      · show Fm 26 [] [(10, pt it 0), (3, sc rq23.g 0 ([] ++ [(k0, (⟨true, 0, 0, [], []⟩ : Cl))]).length rq23.cap)] a
        exact F.weak _ (subL_of kr)
      · exact Hp.tailH (A := [⟨true, it, .mapIter (some mb) clock (seen.push born) clock⟩, ⟨false, mb, mpO M clock⟩, br xb #[.map (some mb), uv] 28, bk rq23.g (sl (([] ++ [(k0, (⟨true, 0, 0, [], []⟩ : Cl))]).flatMap encH) rq23.rest) 60]) (c := (k0, (⟨true, 0, 0, [], []⟩ : Cl))) (cs := []) H
  refine T_k F H (.bool false) ?_
  clear F; intro a F
  refine wpList_nil ?_
  refine hK _ _ ?_
  clear hK
  try clear K
  rw [left_all hM hz] at hD
  refine C_seqK (fun K24 hK24 => ?_)
  refine C_if F false rfl rfl ?_
  refine wp_exit ?_
  refine hK3 _ _ ?_
  clear hK3
  try clear K3
  refine C_seqK (fun K25 hK25 => ?_)
  refine C_region ?_
  refine T_k F H ((o.v)) ?_
  clear F; intro a F
  refine T_callX (α := Hs) F H kr 34 #[o.v, .func (.func 35) #[] #[]] (fun _ => .tuple #[]) (fun r => (⟨true, it, .mapIter (some mb) clock seen clock⟩ :: ⟨false, mb, mpO M clock⟩ :: (br xb #[.map (some mb), uv] 28) :: r.blks)) (fun r => r.ok ∧ r.v = o.v ∧ r.cs.Perm o.cs ∧ r.cs.Pairwise (fun a b => a.1 ≤ b.1)) (fun w => kr) (fun w H => sort_O (A := [⟨true, it, .mapIter (some mb) clock seen clock⟩, ⟨false, mb, mpO M clock⟩, br xb #[.map (some mb), uv] 28]) o ho (by omega) H) ?_
  clear F H; intro o2 a v Qo2 F H
  refine wpList_nil ?_
  refine hK25 _ _ ?_
  clear hK25
  try clear K25
  refine C_seqK (fun K26 hK26 => ?_)
  refine C_region ?_
  refine T_k F H ((o.v)) ?_
  clear F; intro a F
  refine T_k F H ((o.v)) ?_
  clear F; intro a F
  refine wpList_nil ?_
  refine hK26 _ _ ?_
  clear hK26
  try clear K26
  refine wp_ret ?_
  exact C_ret F H (rs := [.tmp 2]) rfl (vs := [(o.v)]) (.tmp rfl .nil) ((o.v)) rfl ⟨o2, congrArg Ending.returned Qo2.2.1.symm, Qo2.1, Qo2.2.2.2, (Qo2.2.2.1.map dH).trans hD, Hp.pickT (A := [⟨true, it, .mapIter (some mb) clock seen clock⟩, ⟨false, mb, mpO M clock⟩, br xb #[.map (some mb), uv] 28]) (R := o2.blks) H [] kr _ rfl⟩
end Go.Proofs.Ytlnlppmhiobgjaa
