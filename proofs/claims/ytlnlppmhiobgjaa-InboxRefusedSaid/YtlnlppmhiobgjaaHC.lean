/- The inbox as a state: Load; what is told in order. -/
import Derived.Test.YtlnlppmhiobgjaaHB
set_option linter.unusedVariables false
set_option linter.unusedSimpArgs false
namespace Go.Proofs.Ytlnlppmhiobgjaa
open Go Go.RowKit
/-- What Load tells, and what there is then. -/
def hLoad (h : HD) (u : List (List Nat)) (D : HD) (U : List (List Nat)) : Nat × HD × List (List Nat) := if rz (h.map (·.1)) h.length = false ∨ 4 ≤ h.length then (1, D, U) else if 8 < u.length then (63, D, U) else (0, h, u)
theorem keys_hD {s : InS} (hs : s.ok) : (s.hD.map (·.1)).Nodup := by
  obtain ⟨mnl, mb, clock, M, nb, ad, r, cs⟩ := s
  have e : (InS.hD ⟨mnl, mb, clock, M, nb, ad, r, cs⟩).map (·.1) = M.map (·.k) := by show (M.map fun m => (m.k, m.c.l)).map (·.1) = _; rw [List.map_map]; rfl
  rw [e]
  cases mnl with
  | true => have h0 : M = [] := hs.mnil rfl; subst h0; exact List.nodup_nil
  | false => exact (hs.mok rfl).keys
theorem dS_keys (hs : List (Nat × Sv)) : (hs.map dS).map (·.1) = hs.map (·.1) := by rw [List.map_map]; rfl
/-- Two that are in order, of the same, are one. -/
theorem told_once {o p : Hs} {D : HD} (hD : (D.map (·.1)).Nodup) (ho : o.cs.Pairwise fun a b => a.1 ≤ b.1) (hp : p.cs.Pairwise fun a b => a.1 ≤ b.1) (h1 : o.D.Perm D) (h2 : p.D.Perm D) : o.D = p.D := by
  have so : ∀ q : Hs, (q.cs.Pairwise fun a b => a.1 ≤ b.1) → q.D.Perm D → q.D.Pairwise fun a b => a.1 < b.1 := fun q hq hqd => by
    have hn : (q.D.map (·.1)).Nodup := (hqd.map _).nodup_iff.2 hD
    unfold Hs.D at hn ⊢
    rw [List.nodup_iff_pairwise_ne, List.pairwise_map, List.pairwise_map] at hn
    rw [List.pairwise_map]
    exact (hq.and hn).imp fun h => Nat.lt_of_le_of_ne h.1 h.2
  exact List.Perm.eq_of_pairwise (fun a b _ _ h h' => absurd h (Nat.lt_asymm h')) (so o ho h1) (so p hp h2) (h1.trans h2.symm)
theorem load_S {w0 w : World} {R : List Blk} {xb : Nat} {s : InS} (hs : s.ok) (H : Hp [] w0 (s.blks xb ++ R) w) (h : Hv) (u : Uv) (hh : h.Rd w0) (hu : u.Rd w0) : Calls Try.prog 27 #[.pointer (some ⟨xb, 0, none⟩), h.v, u.v] w fun e w' => ∃ s' : InS, e = .returned (.int .i64 (((hLoad (h.hs.map dS) (u.ss.map (·.l)) s.hD s.U).1 : Nat) : Int)) ∧ (s'.ok ∧ s'.hD = (hLoad (h.hs.map dS) (u.ss.map (·.l)) s.hD s.U).2.1 ∧ s'.U = (hLoad (h.hs.map dS) (u.ss.map (·.l)) s.hD s.U).2.2) ∧ Hp [] w0 (s'.blks xb ++ R) w' := by
  have hx := H.at_ (k := 0) rfl
  have hxo : w0.heap.size ≤ xb ∨ xb ∈ ([] : List Nat) := H.own _ (List.mem_append_left _ (List.mem_cons_self ..)) rfl
  have k1 : ∀ w', Kept [] w w' → Kept [] w0 w' := fun w' k => H.kept.trans (by simp) k
  have k2 : ∀ w', Kept [xb] w w' → Kept [] w0 w' := fun w' k => H.kept.trans (fun y hy => by rw [List.mem_singleton.1 hy]; exact hxo) k
  unfold hLoad
  rw [dS_keys, List.length_map, List.length_map]
  by_cases h1 : rz (h.hs.map (·.1)) h.hs.length = false ∨ 4 ≤ h.hs.length
  · rw [if_pos h1]
    rcases hz : rz (h.hs.map (·.1)) h.hs.length with _ | _
    · exact (load_dis xb h u _ _ hz w hx (fun w' k => hh.kept (k1 w' k)) (fun w' k => hu.kept (k1 w' k))).mono fun e w' ⟨q1, q2⟩ => ⟨s, q1, ⟨hs, rfl, rfl⟩, H.call q2⟩
    · rw [hz] at h1
      have h4 : 4 ≤ h.hs.length := h1.elim (fun e => by cases e) id
      exact (load_long xb h u _ _ hz h4 w hx (fun w' k => hh.kept (k1 w' k)) (fun w' k => hu.kept (k1 w' k))).mono fun e w' ⟨q1, q2⟩ => ⟨s, q1, ⟨hs, rfl, rfl⟩, H.call q2⟩
  · rw [if_neg h1]
    have hz : rz (h.hs.map (·.1)) h.hs.length = true := by
      cases hz : rz (h.hs.map (·.1)) h.hs.length with
      | true => rfl
      | false => exact absurd (.inl hz) h1
    have h4 : h.hs.length < 4 := Nat.lt_of_not_le fun q => h1 (.inr q)
    by_cases h8 : 8 < u.ss.length
    · rw [if_pos h8]
      exact (load_full xb h u _ _ hz h4 h8 w hx (fun w' k => hh.kept (k1 w' k)) (fun w' k => hu.kept (k1 w' k))).mono fun e w' ⟨q1, q2⟩ => ⟨s, q1, ⟨hs, rfl, rfl⟩, H.call q2⟩
    · rw [if_neg h8]
      refine (load_ok xb h u _ _ hz h4 (Nat.le_of_not_lt h8) w hx (fun w' k => hh.kept (k2 w' k)) (fun w' k => hu.kept (k2 w' k))).mono ?_
      rintro e w' ⟨mb, M, ⟨onl, og, oc, orest, cs0⟩, q1, ⟨hM, hMD⟩, ⟨ho, hols, holn⟩, Hc⟩
      have hm := Hp.merge2 (A := [ixb xb s.mv s.uv]) (R := (s.mp ++ s.un) ++ R) H rfl rfl Hc (fun p hp => by
        rcases List.mem_append.1 hp with hp | hp
        · simp only [List.mem_cons, List.not_mem_nil, or_false] at hp
          rcases hp with rfl | rfl <;> rfl
        · rcases List.mem_append.1 hp with hp | hp
          · exact Ls.blks_own _ p hp
          · exact menB_own M p hp)
      have hw : Hp [] w0 (([⟨true, xb, .cells #[.map (some mb), Ls.v ⟨onl, og, oc, orest, cs0⟩] 28 (0, 0)⟩, ⟨true, mb, mpO M h.hs.length⟩] ++ (Ls.blks ⟨onl, og, oc, orest, cs0⟩ ++ menB M)) ++ R) w' := hm.weak (List.Sublist.append (List.Sublist.refl _) (List.sublist_append_right _ _))
      refine ⟨⟨false, mb, h.hs.length, M, onl, none, ⟨og, oc, cs0.map Cl.v ++ orest, 0⟩, cs0⟩, q1, ⟨⟨(fun h => by cases h), fun _ => hM, ho.nil, (fun hn => ?_), ho.each, ?_⟩, hMD, hols⟩, ?_⟩
      · have h2 := ho.own hn
        have h3 := h2.tot
        rw [List.length_map] at h3
        dsimp only at h3
        exact ⟨[], orest, rfl, rfl, List.length_map _, by show cs0.length + _ = oc; omega, h2.max⟩
      · show cs0.length ≤ 8
        have : cs0.length = u.ss.length := holn
        omega
      · cases onl with
        | true =>
          refine hw.perm ?_
          show List.Perm ((_ :: _ :: ([] ++ menB M)) ++ R) ((_ :: ((_ :: menB M) ++ [])) ++ R)
          rw [List.append_nil, List.nil_append]
          exact List.Perm.refl _
        | false =>
          refine hw.perm (List.Perm.append_right _ ?_)
          show List.Perm (_ :: _ :: ((_ :: clB cs0) ++ menB M)) (_ :: ((_ :: menB M) ++ (_ :: clB cs0)))
          exact List.Perm.cons _ (List.Perm.cons _ List.perm_append_comm)
end Go.Proofs.Ytlnlppmhiobgjaa
