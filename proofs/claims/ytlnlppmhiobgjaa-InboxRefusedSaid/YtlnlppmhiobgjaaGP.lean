/- The inbox as a state: Turn, Hold. -/
import Derived.Test.YtlnlppmhiobgjaaGO
set_option linter.unusedVariables false
set_option linter.unusedSimpArgs false
namespace Go.Proofs.Ytlnlppmhiobgjaa
open Go Go.RowKit
abbrev HD := List (Nat × List Nat)
def InS.hD (s : InS) : HD := s.M.map fun m => (m.k, m.c.l)
theorem MOK.filter {M : List MEn} {clock : Nat} (h : MOK M clock) (p : MEn → Bool) : MOK (M.filter p) clock :=
  ⟨(List.Sublist.map _ List.filter_sublist).nodup h.keys, (List.Sublist.map _ List.filter_sublist).nodup h.births, fun m hm => h.old m (List.mem_filter.1 hm).1, fun m hm => h.each m (List.mem_filter.1 hm).1⟩
theorem hD_filter (M : List MEn) (nx : Nat) : (M.filter fun m => decide (nx < m.k)).map (fun m => (m.k, m.c.l)) = (M.map fun m => (m.k, m.c.l)).filter fun d => decide (nx < d.1) := by
  rw [List.filter_map]; rfl
theorem menB_sub {M N : List MEn} (h : M.Sublist N) : (menB M).Sublist (menB N) := by
  induction h with
  | slnil => exact List.Sublist.refl _
  | cons a _ ih => exact ih.trans (List.sublist_append_right _ _)
  | cons_cons a _ ih => exact List.Sublist.append (List.Sublist.refl _) ih
theorem menB_app (M N : List MEn) : menB (M ++ N) = menB M ++ menB N := by simp [menB]
theorem menB_perm {M N : List MEn} (h : M.Perm N) : (menB M).Perm (menB N) := by
  induction h with
  | nil => exact List.Perm.refl _
  | cons a _ ih => exact List.Perm.append_left _ ih
  | swap a b l => show List.Perm (b.c.blks ++ (a.c.blks ++ menB l)) (a.c.blks ++ (b.c.blks ++ menB l)); exact perm3 _ _ _
  | trans _ _ h1 h2 => exact h1.trans h2
section
variable {X : List Nat} {w0 w : World} {R : List Blk} {xb : Nat} {s : InS}
theorem turn_S0 (hs : s.ok) (H : Hp X w0 (s.blks xb ++ R) w) (nx : Nat) (h : ∀ d ∈ s.hD, d.1 ≠ nx) : Calls Try.prog 21 #[.pointer (some ⟨xb, 0, none⟩), .int .u32 ((nx : Nat) : Int)] w fun e w' => ∃ s' : InS, e = .returned (.tuple #[.slice none 0 0, .bool false]) ∧ (s'.ok ∧ s'.U = s.U ∧ s'.hD = s.hD.filter fun d => decide (nx < d.1)) ∧ Hp X w0 (s'.blks xb ++ R) w' := by
  obtain ⟨mnl, mb, clock, M, nb, ad, r, cs⟩ := s
  cases mnl with
  | true =>
    have h0 : M = [] := hs.mnil rfl
    subst h0
    exact (turn_nil xb nx _ w (H.at_ (k := 0) rfl)).mono fun e w' ⟨h1, h2⟩ => ⟨⟨true, mb, clock, [], nb, ad, r, cs⟩, h1, ⟨hs, rfl, rfl⟩, H.call h2⟩
  | false =>
    have hM := hs.mok rfl
    have Hq : Hp X w0 ([⟨true, mb, mpO M clock⟩] ++ (ixb xb (.map (some mb)) (InS.uv ⟨false, mb, clock, M, nb, ad, r, cs⟩) :: (menB M ++ (InS.un ⟨false, mb, clock, M, nb, ad, r, cs⟩ ++ R)))) w := by
      refine H.perm ?_
      show List.Perm (_ :: (((_ :: menB M) ++ InS.un ⟨false, mb, clock, M, nb, ad, r, cs⟩) ++ R)) _
      rw [List.append_assoc]
      exact List.Perm.swap _ _ _
    have hmb := Hq.at_ (k := 0) rfl
    have hx := Hq.at_ (k := 1) rfl
    have hne : mb ≠ xb := Hq.apart (i := 0) (j := 1) rfl rfl (by decide)
    have hq : mfi nx (M.filter fun m => !decide (m.k < nx)) 0 = none := mfi_none fun m hm => h (m.k, m.c.l) (List.mem_map.2 ⟨m, (List.mem_filter.1 hm).1, rfl⟩)
    refine (turn_none xb nx mb clock M _ hM hq w hx hmb hne).mono fun e w' ⟨h1, Hc⟩ => ⟨⟨false, mb, clock, M.filter fun m => decide (nx < m.k), nb, ad, r, cs⟩, h1, ⟨⟨(fun h => by cases h), fun _ => hM.filter _, hs.unil, hs.uok, hs.each, hs.room⟩, rfl, hD_filter M nx⟩, ?_⟩
    have hm := Hp.merge2 Hq rfl rfl Hc (fun p hp => by rw [List.mem_singleton.1 hp])
    have hw : Hp X w0 ([⟨true, mb, mpO (M.filter fun m => decide (nx < m.k)) clock⟩] ++ (ixb xb (.map (some mb)) (InS.uv ⟨false, mb, clock, M, nb, ad, r, cs⟩) :: (menB (M.filter fun m => decide (nx < m.k)) ++ (InS.un ⟨false, mb, clock, M, nb, ad, r, cs⟩ ++ R)))) w' :=
      hm.weak (List.Sublist.append (List.Sublist.refl _) (List.Sublist.cons_cons _ (List.Sublist.append (menB_sub List.filter_sublist) (List.Sublist.refl _))))
    refine hw.perm ?_
    show List.Perm (_ :: _ :: _) (_ :: (((_ :: menB (M.filter fun m => decide (nx < m.k))) ++ InS.un ⟨false, mb, clock, M, nb, ad, r, cs⟩) ++ R))
    rw [List.append_assoc]
    exact List.Perm.swap _ _ _
theorem turn_S1 (hs : s.ok) (H : Hp X w0 (s.blks xb ++ R) w) (nx : Nat) (l : List Nat) (h : (nx, l) ∈ s.hD) : Calls Try.prog 21 #[.pointer (some ⟨xb, 0, none⟩), .int .u32 ((nx : Nat) : Int)] w fun e w' => ∃ sc : InS × Cl, e = .returned (.tuple #[sc.2.v, .bool true]) ∧ (sc.1.ok ∧ sc.2.ok ∧ sc.2.l = l ∧ sc.1.U = s.U ∧ sc.1.hD = s.hD.filter fun d => decide (nx < d.1)) ∧ Hp X w0 (sc.1.blks xb ++ (sc.2.blks ++ R)) w' := by
  obtain ⟨mnl, mb, clock, M, nb, ad, r, cs⟩ := s
  cases mnl with
  | true =>
    have h0 : M = [] := hs.mnil rfl
    subst h0
    cases h
  | false =>
    have hM := hs.mok rfl
    obtain ⟨m1, hm1, he1⟩ := List.mem_map.1 h
    simp only [Prod.mk.injEq] at he1
    have Hq : Hp X w0 ([⟨true, mb, mpO M clock⟩] ++ (ixb xb (.map (some mb)) (InS.uv ⟨false, mb, clock, M, nb, ad, r, cs⟩) :: (menB M ++ (InS.un ⟨false, mb, clock, M, nb, ad, r, cs⟩ ++ R)))) w := by
      refine H.perm ?_
      show List.Perm (_ :: (((_ :: menB M) ++ InS.un ⟨false, mb, clock, M, nb, ad, r, cs⟩) ++ R)) _
      rw [List.append_assoc]
      exact List.Perm.swap _ _ _
    have hmb := Hq.at_ (k := 0) rfl
    have hx := Hq.at_ (k := 1) rfl
    have hne : mb ≠ xb := Hq.apart (i := 0) (j := 1) rfl rfl (by decide)
    have hmem : m1 ∈ M.filter fun m => !decide (m.k < nx) := List.mem_filter.2 ⟨hm1, by rw [decide_eq_false (show ¬ m1.k < nx by omega)]; rfl⟩
    obtain ⟨j, hq⟩ := mfi_at 0 (hM.filter _).keys hmem he1.1
    refine (turn_some xb nx mb clock M _ hM m1 j hq w hx hmb hne).mono fun e w' ⟨h1, Hc⟩ => ⟨(⟨false, mb, clock, M.filter fun m => decide (nx < m.k), nb, ad, r, cs⟩, m1.c), h1, ⟨⟨(fun h => by cases h), fun _ => hM.filter _, hs.unil, hs.uok, hs.each, hs.room⟩, hM.each m1 hm1, he1.2, rfl, hD_filter M nx⟩, ?_⟩
    have hm := Hp.merge2 Hq rfl rfl Hc (fun p hp => by rw [List.mem_singleton.1 hp])
    have hsplit : (menB M).Perm (menB (M.filter fun m => decide (nx < m.k)) ++ menB (M.filter fun m => !decide (nx < m.k))) := by
      rw [← menB_app]; exact menB_perm (List.filter_append_perm _ _).symm
    have h1sub : (m1.c.blks).Sublist (menB (M.filter fun m => !decide (nx < m.k))) := by
      have hin : [m1].Sublist (M.filter fun m => !decide (nx < m.k)) := List.singleton_sublist.2 (List.mem_filter.2 ⟨hm1, by rw [decide_eq_false (show ¬ nx < m1.k by omega)]; rfl⟩)
      have := menB_sub hin
      rwa [show menB [m1] = m1.c.blks from List.append_nil _] at this
    have hp : Hp X w0 ([⟨true, mb, mpO (M.filter fun m => decide (nx < m.k)) clock⟩] ++ (ixb xb (.map (some mb)) (InS.uv ⟨false, mb, clock, M, nb, ad, r, cs⟩) :: ((menB (M.filter fun m => decide (nx < m.k)) ++ menB (M.filter fun m => !decide (nx < m.k))) ++ (InS.un ⟨false, mb, clock, M, nb, ad, r, cs⟩ ++ R)))) w' :=
      hm.perm (List.Perm.append_left _ (List.Perm.cons _ (List.Perm.append_right _ hsplit)))
    have hw : Hp X w0 ([⟨true, mb, mpO (M.filter fun m => decide (nx < m.k)) clock⟩] ++ (ixb xb (.map (some mb)) (InS.uv ⟨false, mb, clock, M, nb, ad, r, cs⟩) :: ((menB (M.filter fun m => decide (nx < m.k)) ++ m1.c.blks) ++ (InS.un ⟨false, mb, clock, M, nb, ad, r, cs⟩ ++ R)))) w' :=
      hp.weak (List.Sublist.append (List.Sublist.refl _) (List.Sublist.cons_cons _ (List.Sublist.append (List.Sublist.append (List.Sublist.refl _) h1sub) (List.Sublist.refl _))))
    refine hw.perm ?_
    show List.Perm (_ :: _ :: _) (_ :: (((_ :: menB (M.filter fun m => decide (nx < m.k))) ++ InS.un ⟨false, mb, clock, M, nb, ad, r, cs⟩) ++ (m1.c.blks ++ R)))
    rw [List.append_assoc, List.append_assoc]
    refine (List.Perm.swap _ _ _).trans (List.Perm.cons _ (List.Perm.cons _ (List.Perm.append_left _ ?_)))
    exact perm3 _ _ _
/-- A frame of which there was none. -/
theorem hold_SA (hs : s.ok) (H : Hp X w0 (s.blks xb ++ R) w) (nx ix : Nat) (b : Sv) (hb : b.RdK (s.ads xb) w) (h1 : nx < ix) (h4 : ix - nx < 4) (hix : ix < 4294967296) (hno : ∀ d ∈ s.hD, d.1 ≠ ix) : Calls Try.prog 20 #[.pointer (some ⟨xb, 0, none⟩), .int .u32 ((nx : Nat) : Int), .int .u32 ((ix : Nat) : Int), b.v] w fun e w' => ∃ s' : InS, e = .returned (.int .i64 0) ∧ (s'.ok ∧ s'.U = s.U ∧ s'.hD = s.hD ++ [(ix, b.l)]) ∧ Hp X w0 (s'.blks xb ++ R) w' := by
  have hbr := hb w (Kept.refl _ _)
  obtain ⟨mnl, mb, clock, M, nb, ad, r, cs⟩ := s
  obtain ⟨bad, bc, l⟩ := b
  cases mnl with
  | true =>
    have h0 : M = [] := hs.mnil rfl
    subst h0
    have hx := H.at_ (k := 0) rfl
    have fin : ∀ (mb' : Nat) (c : Cl) (e : Ending) (w' : World), e = .returned (.int .i64 0) → c.l = l → c.ok → Hp [xb] w (ixb xb (.map (some mb')) (InS.uv ⟨true, mb, clock, [], nb, ad, r, cs⟩) :: ⟨true, mb', mpO [⟨ix, c, 0⟩] 1⟩ :: c.blks) w' → ∃ s' : InS, e = .returned (.int .i64 0) ∧ (s'.ok ∧ s'.U = InS.U ⟨true, mb, clock, [], nb, ad, r, cs⟩ ∧ s'.hD = [] ++ [(ix, l)]) ∧ Hp X w0 (s'.blks xb ++ R) w' := by
      intro mb' c e w' he hl hc Hc
      refine ⟨⟨false, mb', 1, [⟨ix, c, 0⟩], nb, ad, r, cs⟩, he, ⟨⟨(fun h => by cases h), fun _ => ⟨by simp, by simp, (fun m hm => by rw [List.mem_singleton.1 hm]; exact Nat.zero_lt_one), (fun m hm => by rw [List.mem_singleton.1 hm]; exact hc)⟩, hs.unil, hs.uok, hs.each, hs.room⟩, rfl, by show [(ix, c.l)] = [(ix, l)]; rw [hl]⟩, ?_⟩
      have := Hp.merge2 (A := [ixb xb (.map none) (InS.uv ⟨true, mb, clock, [], nb, ad, r, cs⟩)]) (R := (InS.un ⟨true, mb, clock, [], nb, ad, r, cs⟩) ++ R) H rfl rfl Hc (fun p hp => by
        simp only [List.mem_cons] at hp
        rcases hp with rfl | rfl | hp
        · rfl
        · rfl
        · exact c.blks_own p hp)
      show Hp X w0 (_ :: (((_ :: (c.blks ++ [])) ++ InS.un ⟨true, mb, clock, [], nb, ad, r, cs⟩) ++ R)) w'
      rw [List.append_nil, List.append_assoc]
      exact this
    have hsub : ∀ y ∈ [xb], y ∈ InS.ads ⟨true, mb, clock, [], nb, ad, r, cs⟩ xb := fun y hy => by rw [List.mem_singleton.1 hy]; exact List.mem_cons_self ..
    cases bad with
    | none =>
      have hl : l = [] := hbr.empty rfl
      have hc0 : bc = 0 := hbr.nil rfl
      subst hl hc0
      exact (hold_new_nil xb nx ix _ h1 h4 hix w hx).mono fun e w' ⟨mb', c, q1, q2, q3, q4⟩ => fin mb' c e w' q1 q2 q3 q4
    | some bq => exact (hold_new_some xb nx ix _ h1 h4 hix bq bc l hbr.big w hx (hb.mono hsub)).mono fun e w' ⟨mb', c, q1, q2, q3, q4⟩ => fin mb' c e w' q1 q2 q3 q4
  | false =>
    have hM := hs.mok rfl
    have hq : mfi ix M 0 = none := mfi_none fun m hm => hno (m.k, m.c.l) (List.mem_map.2 ⟨m, hm, rfl⟩)
    have Hq : Hp X w0 ([⟨true, mb, mpO M clock⟩] ++ (ixb xb (.map (some mb)) (InS.uv ⟨false, mb, clock, M, nb, ad, r, cs⟩) :: (menB M ++ (InS.un ⟨false, mb, clock, M, nb, ad, r, cs⟩ ++ R)))) w := by
      refine H.perm ?_
      show List.Perm (_ :: (((_ :: menB M) ++ InS.un ⟨false, mb, clock, M, nb, ad, r, cs⟩) ++ R)) _
      rw [List.append_assoc]
      exact List.Perm.swap _ _ _
    have hmb := Hq.at_ (k := 0) rfl
    have hx := Hq.at_ (k := 1) rfl
    have hne : mb ≠ xb := Hq.apart (i := 0) (j := 1) rfl rfl (by decide)
    have fin : ∀ (c : Cl) (e : Ending) (w' : World), e = .returned (.int .i64 0) → c.l = l → c.ok → Hp [mb] w (⟨true, mb, mpO (mset ix c clock M) (clock + 1)⟩ :: c.blks) w' → ∃ s' : InS, e = .returned (.int .i64 0) ∧ (s'.ok ∧ s'.U = InS.U ⟨false, mb, clock, M, nb, ad, r, cs⟩ ∧ s'.hD = InS.hD ⟨false, mb, clock, M, nb, ad, r, cs⟩ ++ [(ix, l)]) ∧ Hp X w0 (s'.blks xb ++ R) w' := by
      intro c e w' he hl hc Hc
      rw [mset_none ix c clock hq] at Hc
      refine ⟨⟨false, mb, clock + 1, M ++ [⟨ix, c, clock⟩], nb, ad, r, cs⟩, he, ⟨⟨(fun h => by cases h), fun _ => ⟨?_, ?_, (fun m hm => (List.mem_append.1 hm).elim (fun h => Nat.lt_succ_of_lt (hM.old m h)) fun h => by rw [List.mem_singleton.1 h]; exact Nat.lt_succ_self _), (fun m hm => (List.mem_append.1 hm).elim (hM.each m) fun h => by rw [List.mem_singleton.1 h]; exact hc)⟩, hs.unil, hs.uok, hs.each, hs.room⟩, rfl, ?_⟩, ?_⟩
      · rw [List.map_append, List.nodup_append]
        refine ⟨hM.keys, by simp, fun a ha b hb => ?_⟩
        obtain ⟨m, hm, rfl⟩ := List.mem_map.1 ha
        rw [show b = ix by simpa using hb]
        exact hno (m.k, m.c.l) (List.mem_map.2 ⟨m, hm, rfl⟩)
      · rw [List.map_append, List.nodup_append]
        refine ⟨hM.births, by simp, fun a ha b hb => ?_⟩
        obtain ⟨m, hm, rfl⟩ := List.mem_map.1 ha
        rw [show b = clock by simpa using hb]
        exact Nat.ne_of_lt (hM.old m hm)
      · show (M ++ [(⟨ix, c, clock⟩ : MEn)]).map (fun m => (m.k, m.c.l)) = M.map (fun m => (m.k, m.c.l)) ++ [(ix, l)]
        rw [List.map_append, ← hl]; rfl
      · have hm := Hp.merge2 Hq rfl rfl Hc (fun p hp => by
          rcases List.mem_cons.1 hp with rfl | hp
          · rfl
          · exact c.blks_own p hp)
        refine hm.perm ?_
        show List.Perm (_ :: (c.blks ++ (_ :: (menB M ++ (InS.un ⟨false, mb, clock, M, nb, ad, r, cs⟩ ++ R))))) (_ :: (((_ :: menB (M ++ [⟨ix, c, clock⟩])) ++ InS.un ⟨false, mb, clock, M, nb, ad, r, cs⟩) ++ R))
        rw [menB_app, show menB [(⟨ix, c, clock⟩ : MEn)] = c.blks from List.append_nil _, List.append_assoc]
        refine (List.Perm.cons _ List.perm_middle).trans ((List.Perm.swap _ _ _).trans (List.Perm.cons _ (List.Perm.cons _ ?_)))
        show List.Perm (c.blks ++ (menB M ++ (InS.un ⟨false, mb, clock, M, nb, ad, r, cs⟩ ++ R))) ((menB M ++ c.blks) ++ (InS.un ⟨false, mb, clock, M, nb, ad, r, cs⟩ ++ R))
        rw [List.append_assoc]
        exact perm3 _ _ _
    have hsub : ∀ y ∈ [mb], y ∈ InS.ads ⟨false, mb, clock, M, nb, ad, r, cs⟩ xb := fun y hy => by rw [List.mem_singleton.1 hy]; exact List.mem_cons_of_mem _ (List.mem_append_left _ (List.mem_singleton.2 rfl))
    cases bad with
    | none =>
      have hl : l = [] := hbr.empty rfl
      have hc0 : bc = 0 := hbr.nil rfl
      subst hl hc0
      exact (hold_add_nil xb nx ix mb clock M _ h1 h4 hix hq w hx hmb hne).mono fun e w' ⟨c, q1, q2, q3, q4⟩ => fin c e w' q1 q2 q3 q4
    | some bq => exact (hold_add_some xb nx ix mb clock M _ h1 h4 hix hq bq bc l hbr.big w hx hmb hne (hb.mono hsub)).mono fun e w' ⟨c, q1, q2, q3, q4⟩ => fin c e w' q1 q2 q3 q4
end
end Go.Proofs.Ytlnlppmhiobgjaa
