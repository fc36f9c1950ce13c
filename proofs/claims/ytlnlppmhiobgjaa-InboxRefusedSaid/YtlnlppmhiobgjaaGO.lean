/- The inbox as a state, its calls. -/
import Derived.Test.YtlnlppmhiobgjaaGN
set_option linter.unusedVariables false
set_option linter.unusedSimpArgs false
namespace Go.Proofs.Ytlnlppmhiobgjaa
open Go Go.RowKit
def menB (M : List MEn) : List Blk := M.flatMap (·.c.blks)
theorem menB_own (M : List MEn) : ∀ p ∈ menB M, p.own = true := fun p hp => by
  obtain ⟨m, _, h⟩ := List.mem_flatMap.1 hp
  exact m.c.blks_own p h
/-- What an inbox is: the map of what is held, the row of what is unread. -/
structure InS where
  mnl : Bool
  mb : Nat
  clock : Nat
  M : List MEn
  nb : Bool
  ad : Option Addr
  r : SlR
  cs : List Cl
def InS.mv (s : InS) : Value := match s.mnl with | true => .map none | false => .map (some s.mb)
def InS.uv (s : InS) : Value := match s.nb with | true => .slice s.ad 0 0 | false => .slice (some ⟨s.r.g, s.r.n, none⟩) s.cs.length s.r.cap
def ixb (xb : Nat) (m u : Value) : Blk := ⟨true, xb, .cells #[m, u] 28 (0, 0)⟩
def InS.mp (s : InS) : List Blk := match s.mnl with | true => [] | false => ⟨true, s.mb, mpO s.M s.clock⟩ :: menB s.M
def InS.un (s : InS) : List Blk := match s.nb with | true => [] | false => ⟨true, s.r.g, .cells s.r.rest.toArray 30 (0, 0)⟩ :: clB s.cs
def InS.blks (s : InS) (xb : Nat) : List Blk := ixb xb s.mv s.uv :: (s.mp ++ s.un)
structure InS.ok (s : InS) : Prop where
  mnil : s.mnl = true → s.M = []
  mok : s.mnl = false → MOK s.M s.clock
  unil : s.nb = true → s.cs = []
  uok : s.nb = false → OwnO (s.cs.map Cl.v) s.r s.cs.length
  each : ∀ c ∈ s.cs, c.ok
  room : s.cs.length ≤ 8
def InS.U (s : InS) : List (List Nat) := s.cs.map (·.l)
theorem InS.U_len (s : InS) : s.U.length = s.cs.length := List.length_map _
theorem perm3 {α : Type} (A B C : List α) : (A ++ (B ++ C)).Perm (B ++ (A ++ C)) := by
  rw [← List.append_assoc, ← List.append_assoc]
  exact List.Perm.append_right _ List.perm_append_comm
section
variable {X : List Nat} {w0 w : World} {R : List Blk} {xb : Nat} {s : InS}
/-- What may be written: the addresses of the inbox. -/
def InS.ads (s : InS) (xb : Nat) : List Nat := xb :: ((match s.mnl with | true => [] | false => [s.mb]) ++ (match s.nb with | true => [] | false => [s.r.g]))
theorem room_S (hs : s.ok) (H : Hp X w0 (s.blks xb ++ R) w) : Calls Try.prog 9 #[.pointer (some ⟨xb, 0, none⟩)] w fun e w' => e = .returned (.int .i64 ((8 - s.U.length : Nat) : Int)) ∧ Kept [] w w' := by
  rw [InS.U_len]
  obtain ⟨mnl, mb, clock, M, nb, ad, r, cs⟩ := s
  have hx := H.at_ (k := 0) rfl
  cases nb with
  | true =>
    have h0 : cs = [] := hs.unil rfl
    subst h0
    exact room_any xb 0 0 ad _ (Nat.zero_le _) w hx
  | false => exact room_any xb cs.length r.cap _ _ hs.room w hx
theorem put_S (hs : s.ok) (H : Hp X w0 (s.blks xb ++ R) w) (b : Sv) (hb : b.RdK (s.ads xb) w) : Calls Try.prog 10 #[.pointer (some ⟨xb, 0, none⟩), b.v] w fun e w' => ∃ s' : InS, e = .returned (.int .i64 (if s.U.length = 8 then 63 else 0)) ∧ (s'.ok ∧ s'.U = (if s.U.length = 8 then s.U else s.U ++ [b.l]) ∧ s'.M = s.M) ∧ Hp X w0 (s'.blks xb ++ R) w' := by
  rw [InS.U_len]
  have hbr := hb w (Kept.refl _ _)
  have hr8 : s.cs.length ≤ 8 := hs.room
  by_cases h8 : s.cs.length = 8
  · rw [if_pos h8, if_pos h8]
    obtain ⟨mnl, mb, clock, M, nb, ad, r, cs⟩ := s
    cases nb with
    | true =>
      have h0 : cs = [] := hs.unil rfl
      rw [h0] at h8; cases h8
    | false =>
      exact (put_full xb cs.length r _ _ h8 w (H.at_ (k := 0) rfl)).mono fun e w' ⟨h1, h2⟩ => ⟨_, h1, ⟨hs, rfl, rfl⟩, H.call h2⟩
  · rw [if_neg h8, if_neg h8]
    obtain ⟨mnl, mb, clock, M, nb, ad, r, cs⟩ := s
    obtain ⟨bad, bc, l⟩ := b
    have hads : ∀ y, y = xb ∨ (nb = false ∧ y = r.g) → y ∈ InS.ads ⟨mnl, mb, clock, M, nb, ad, r, cs⟩ xb := by
      intro y hy
      unfold InS.ads
      rcases hy with rfl | ⟨rfl, rfl⟩
      · exact List.mem_cons_self ..
      · exact List.mem_cons_of_mem _ (List.mem_append_right _ (List.mem_singleton.2 rfl))
    have hx := H.at_ (k := 0) rfl
    cases nb with
    | true =>
      have h0 : cs = [] := hs.unil rfl
      subst h0
      have fin : ∀ (q : SlR) (c : Cl) (e : Ending) (w' : World), e = .returned (.int .i64 0) → c.l = l → c.ok → OwnO [c.v] q 1 → Hp [xb] w (ixb xb (InS.mv ⟨mnl, mb, clock, M, true, ad, r, []⟩) (.slice (some ⟨q.g, q.n, none⟩) 1 q.cap) :: ⟨true, q.g, .cells q.rest.toArray 30 (0, 0)⟩ :: c.blks) w' → ∃ s' : InS, e = .returned (.int .i64 0) ∧ (s'.ok ∧ s'.U = [] ++ [l] ∧ s'.M = M) ∧ Hp X w0 (s'.blks xb ++ R) w' := by
        intro q c e w' he hl hc ho Hc
        refine ⟨⟨mnl, mb, clock, M, false, none, q, [c]⟩, he, ⟨⟨hs.mnil, hs.mok, (fun h => by cases h), fun _ => ho, (fun c' h' => by rw [List.mem_singleton.1 h']; exact hc), by show 1 ≤ 8; omega⟩, by show [c.l] = [l]; rw [hl], rfl⟩, ?_⟩
        have := Hp.merge2 (A := [ixb xb (InS.mv ⟨mnl, mb, clock, M, true, ad, r, []⟩) (.slice ad 0 0)]) (R := (InS.mp ⟨mnl, mb, clock, M, true, ad, r, []⟩ ++ []) ++ R) H rfl rfl Hc (fun p hp => by
          simp only [List.mem_cons] at hp
          rcases hp with rfl | rfl | hp
          · rfl
          · rfl
          · exact c.blks_own p hp)
        rw [List.append_nil] at this
        refine this.perm (List.Perm.cons _ ?_)
        show List.Perm ((_ :: c.blks) ++ (InS.mp ⟨mnl, mb, clock, M, true, ad, r, []⟩ ++ R)) ((InS.mp ⟨mnl, mb, clock, M, true, ad, r, []⟩ ++ (_ :: (c.blks ++ []))) ++ R)
        rw [List.append_nil, List.append_assoc]
        exact perm3 _ _ _
      cases bad with
      | none =>
        have hl : l = [] := hbr.empty rfl
        have hc0 : bc = 0 := hbr.nil rfl
        subst hl hc0
        exact (put_nb_nil xb _ ad w hx).mono fun e w' ⟨q, c, h1, h2, h3, h4, h5⟩ => fin q c e w' h1 h2 h3 h4 h5
      | some bq => exact (put_nb_some xb _ ad bq bc l hbr.big w hx (hb.mono fun y hy => hads y (.inl (List.mem_singleton.1 hy)))).mono fun e w' ⟨q, c, h1, h2, h3, h4, h5⟩ => fin q c e w' h1 h2 h3 h4 h5
    | false =>
      have hO := hs.uok rfl
      have Hq : Hp X w0 ([ixb xb (InS.mv ⟨mnl, mb, clock, M, false, ad, r, cs⟩) (.slice (some ⟨r.g, r.n, none⟩) cs.length r.cap), ⟨true, r.g, .cells r.rest.toArray 30 (0, 0)⟩] ++ (InS.mp ⟨mnl, mb, clock, M, false, ad, r, cs⟩ ++ (clB cs ++ R))) w := by
        refine H.perm (List.Perm.cons _ ?_)
        show List.Perm ((InS.mp ⟨mnl, mb, clock, M, false, ad, r, cs⟩ ++ (_ :: clB cs)) ++ R) _
        rw [List.append_assoc]
        exact perm3 _ [_] _
      have hg := Hq.at_ (k := 1) rfl
      have hne : xb ≠ r.g := Hq.apart (i := 0) (j := 1) rfl rfl (by decide)
      have fin : ∀ (q : SlR) (c : Cl) (e : Ending) (w' : World), e = .returned (.int .i64 0) → c.l = l → c.ok → OwnO (cs.map Cl.v ++ [c.v]) q (cs.length + 1) → Hp [xb, r.g] w (ixb xb (InS.mv ⟨mnl, mb, clock, M, false, ad, r, cs⟩) (.slice (some ⟨q.g, q.n, none⟩) (cs.length + 1) q.cap) :: ⟨true, q.g, .cells q.rest.toArray 30 (0, 0)⟩ :: c.blks) w' → ∃ s' : InS, e = .returned (.int .i64 0) ∧ (s'.ok ∧ s'.U = cs.map (·.l) ++ [l] ∧ s'.M = M) ∧ Hp X w0 (s'.blks xb ++ R) w' := by
        intro q c e w' he hl hc ho Hc
        refine ⟨⟨mnl, mb, clock, M, false, none, q, cs ++ [c]⟩, he, ⟨⟨hs.mnil, hs.mok, (fun h => by cases h), fun _ => by rw [List.map_append, List.length_append]; exact ho, (fun c' h' => (List.mem_append.1 h').elim (hs.each c') fun h' => by rw [List.mem_singleton.1 h']; exact hc), by rw [List.length_append]; show cs.length + 1 ≤ 8; have : cs.length ≤ 8 := hr8; have h8' : ¬ cs.length = 8 := h8; omega⟩, by show (cs ++ [c]).map (·.l) = _; rw [List.map_append, ← hl]; rfl, rfl⟩, ?_⟩
        have := Hp.merge2 Hq rfl rfl Hc (fun p hp => by
          simp only [List.mem_cons] at hp
          rcases hp with rfl | rfl | hp
          · rfl
          · rfl
          · exact c.blks_own p hp)
        have e2 : InS.uv ⟨mnl, mb, clock, M, false, none, q, cs ++ [c]⟩ = .slice (some ⟨q.g, q.n, none⟩) (cs.length + 1) q.cap := by
          show Value.slice _ (cs ++ [c]).length _ = _
          rw [List.length_append]; rfl
        unfold InS.blks
        rw [e2]
        refine this.perm (List.Perm.cons _ ?_)
        show List.Perm ((_ :: c.blks) ++ (InS.mp ⟨mnl, mb, clock, M, false, ad, r, cs⟩ ++ (clB cs ++ R))) ((InS.mp ⟨mnl, mb, clock, M, false, ad, r, cs⟩ ++ (_ :: clB (cs ++ [c]))) ++ R)
        rw [clB_snoc, List.append_assoc]
        refine (perm3 _ _ _).trans (List.Perm.append_left _ (List.Perm.cons _ ?_))
        show List.Perm (c.blks ++ (clB cs ++ R)) ((clB cs ++ c.blks) ++ R)
        rw [List.append_assoc]
        exact perm3 _ _ _
      have hlt : cs.length < 8 := by have : cs.length ≤ 8 := hr8; have h8' : ¬ cs.length = 8 := h8; omega
      cases bad with
      | none =>
        have hl : l = [] := hbr.empty rfl
        have hc0 : bc = 0 := hbr.nil rfl
        subst hl hc0
        exact (put_more_nil xb _ cs.length r (cs.map Cl.v) hlt w hx hg hO hne).mono fun e w' ⟨q, c, h1, h2, h3, h4, h5⟩ => fin q c e w' h1 h2 h3 h4 h5
      | some bq => exact (put_more_some xb _ cs.length r (cs.map Cl.v) hlt bq bc l hbr.big w hx hg hO hne (hb.mono fun y hy => hads y (by
          simp only [List.mem_cons, List.not_mem_nil, or_false] at hy
          rcases hy with rfl | rfl
          · exact .inl rfl
          · exact .inr ⟨rfl, rfl⟩))).mono fun e w' ⟨q, c, h1, h2, h3, h4, h5⟩ => fin q c e w' h1 h2 h3 h4 h5
/-- Nothing to be fetched. -/
theorem fetch_S0 (hs : s.ok) (h0 : s.U = []) (H : Hp X w0 (s.blks xb ++ R) w) : Calls Try.prog 11 #[.pointer (some ⟨xb, 0, none⟩)] w fun e w' => e = .returned (.tuple #[.slice none 0 0, .int .i64 90]) ∧ Kept [] w w' := by
  obtain ⟨mnl, mb, clock, M, nb, ad, r, cs⟩ := s
  have hc0 : cs = [] := List.map_eq_nil_iff.1 h0
  subst hc0
  have hx := H.at_ (k := 0) rfl
  cases nb with
  | true => exact fetch_none xb 0 ad _ w hx
  | false => exact fetch_none xb r.cap _ _ w hx
theorem fetch_S (hs : s.ok) {u : List Nat} {us : List (List Nat)} (h0 : s.U = u :: us) (H : Hp X w0 (s.blks xb ++ R) w) : Calls Try.prog 11 #[.pointer (some ⟨xb, 0, none⟩)] w fun e w' => ∃ sc : InS × Cl, e = .returned (.tuple #[sc.2.v, .int .i64 0]) ∧ (sc.1.ok ∧ sc.2.ok ∧ sc.2.l = u ∧ sc.1.U = us ∧ sc.1.M = s.M) ∧ Hp X w0 (sc.1.blks xb ++ (sc.2.blks ++ R)) w' := by
  obtain ⟨mnl, mb, clock, M, nb, ad, r, cs⟩ := s
  cases nb with
  | true =>
    have hc0 : cs = [] := hs.unil rfl
    subst hc0
    cases h0
  | false =>
    match cs, hs, h0, H with
    | [], _, h0, _ => cases h0
    | c :: cs, hs, h0, H =>
      have hh : c.l = u ∧ cs.map (·.l) = us := by
        have : c.l :: cs.map (·.l) = u :: us := h0
        simpa using this
      have hO : OwnO (c.v :: cs.map Cl.v) r (cs.length + 1) := hs.uok rfl
      have Hq : Hp X w0 ([ixb xb (InS.mv ⟨mnl, mb, clock, M, false, ad, r, c :: cs⟩) (.slice (some ⟨r.g, r.n, none⟩) (cs.length + 1) r.cap)] ++ (⟨true, r.g, .cells r.rest.toArray 30 (0, 0)⟩ :: (InS.mp ⟨mnl, mb, clock, M, false, ad, r, c :: cs⟩ ++ (clB (c :: cs) ++ R)))) w := by
        refine H.perm (List.Perm.cons _ ?_)
        show List.Perm ((InS.mp ⟨mnl, mb, clock, M, false, ad, r, c :: cs⟩ ++ (_ :: clB (c :: cs))) ++ R) _
        rw [List.append_assoc]
        exact perm3 _ [_] _
      have hx := Hq.at_ (k := 0) rfl
      have hg := Hq.at_ (k := 1) rfl
      have hne : xb ≠ r.g := Hq.apart (i := 0) (j := 1) rfl rfl (by decide)
      refine (fetch_one xb cs.length r c.v (cs.map Cl.v) _ w hx hg hO hne).mono ?_
      rintro e w' ⟨h1, Hc⟩
      have hclb : clB (c :: cs) = c.blks ++ clB cs := rfl
      have hm := Hp.merge2 Hq rfl rfl Hc (fun p hp => by rw [List.mem_singleton.1 hp])
      by_cases hcap : r.cap = 1
      · have hn0 : cs = [] := by
          have := hO.le
          exact List.length_eq_zero_iff.1 (by omega)
        subst hn0
        refine ⟨(⟨mnl, mb, clock, M, true, some ⟨r.g, r.n, none⟩, r0, []⟩, c), h1, ⟨⟨hs.mnil, hs.mok, fun _ => rfl, (fun h => by cases h), (fun c' h' => by cases h'), Nat.zero_le _⟩, hs.each c (List.mem_cons_self ..), hh.1, hh.2, rfl⟩, ?_⟩
        have e2 : ixb xb (InS.mv ⟨mnl, mb, clock, M, false, ad, r, [c]⟩) (.slice (if r.cap = 1 then some ⟨r.g, r.n, none⟩ else some ⟨r.g, r.n + 1, none⟩) ([] : List Cl).length (r.cap - 1)) = ixb xb (InS.mv ⟨mnl, mb, clock, M, false, ad, r, [c]⟩) (.slice (some ⟨r.g, r.n, none⟩) 0 0) := by
          rw [if_pos hcap, hcap]; rfl
        have hm2 : Hp X w0 (ixb xb (InS.mv ⟨mnl, mb, clock, M, false, ad, r, [c]⟩) (.slice (some ⟨r.g, r.n, none⟩) 0 0) :: (⟨true, r.g, .cells r.rest.toArray 30 (0, 0)⟩ :: (InS.mp ⟨mnl, mb, clock, M, false, ad, r, [c]⟩ ++ (clB [c] ++ R)))) w' := by rw [← e2]; exact hm
        refine (hm2.weak (List.Sublist.cons_cons _ (List.sublist_cons_self _ _))).perm (List.Perm.cons _ ?_)
        rw [hclb]
        show List.Perm (InS.mp ⟨mnl, mb, clock, M, false, ad, r, [c]⟩ ++ ((c.blks ++ []) ++ R)) ((InS.mp ⟨mnl, mb, clock, M, false, ad, r, [c]⟩ ++ []) ++ (c.blks ++ R))
        rw [List.append_nil, List.append_nil]
      · refine ⟨(⟨mnl, mb, clock, M, false, none, ⟨r.g, r.cap - 1, r.rest, r.n + 1⟩, cs⟩, c), h1, ⟨⟨hs.mnil, hs.mok, (fun h => by cases h), fun _ => hO.tail, fun c' h' => hs.each c' (List.mem_cons_of_mem _ h'), Nat.le_of_succ_le hs.room⟩, hs.each c (List.mem_cons_self ..), hh.1, hh.2, rfl⟩, ?_⟩
        rw [if_neg hcap] at hm
        refine hm.perm (List.Perm.cons _ ?_)
        rw [hclb]
        show List.Perm (_ :: (InS.mp ⟨mnl, mb, clock, M, false, ad, r, c :: cs⟩ ++ ((c.blks ++ clB cs) ++ R))) ((InS.mp ⟨mnl, mb, clock, M, false, ad, r, c :: cs⟩ ++ (_ :: clB cs)) ++ (c.blks ++ R))
        rw [List.append_assoc, List.append_assoc]
        refine (perm3 [_] _ _).trans (List.Perm.append_left _ (List.Perm.cons _ ?_))
        show List.Perm (c.blks ++ (clB cs ++ R)) (clB cs ++ (c.blks ++ R))
        exact perm3 _ _ _
theorem unread_S (hs : s.ok) (H : Hp X w0 (s.blks xb ++ R) w) : Calls Try.prog 13 #[.pointer (some ⟨xb, 0, none⟩)] w fun e w' => ∃ o : Ls, e = .returned o.v ∧ (o.ok ∧ o.ls = s.U ∧ o.cs.length ≤ 8) ∧ Hp X w0 (s.blks xb ++ (o.blks ++ R)) w' := by
  have hcl : ∀ c ∈ s.cs, s.nb = false → c.ok ∧ c.sv.Rd w := fun c hc hnb => ⟨hs.each c hc, c.rd (hs.each c hc) fun p hp => H.held p (by
    refine List.mem_append_left _ (List.mem_cons_of_mem _ (List.mem_append_right _ ?_))
    unfold InS.un
    rw [hnb]
    exact List.mem_cons_of_mem _ (mem_clB hc hp))⟩
  obtain ⟨mnl, mb, clock, M, nb, ad, r, cs⟩ := s
  have hx := H.at_ (k := 0) rfl
  cases nb with
  | true =>
    have h0 : cs = [] := hs.unil rfl
    subst h0
    exact (unread_none xb 0 ad _ w hx).mono fun e w' ⟨h1, h2⟩ => ⟨⟨true, 0, 0, [], []⟩, h1, ⟨⟨fun _ => rfl, (fun e => by cases e), fun c hc => by cases hc⟩, rfl, Nat.zero_le _⟩, H.call h2⟩
  | false =>
    have Hq : Hp X w0 ([ixb xb (InS.mv ⟨mnl, mb, clock, M, false, ad, r, cs⟩) (.slice (some ⟨r.g, r.n, none⟩) cs.length r.cap), ⟨true, r.g, .cells r.rest.toArray 30 (0, 0)⟩] ++ (InS.mp ⟨mnl, mb, clock, M, false, ad, r, cs⟩ ++ (clB cs ++ R))) w := by
      refine H.perm (List.Perm.cons _ ?_)
      show List.Perm ((InS.mp ⟨mnl, mb, clock, M, false, ad, r, cs⟩ ++ (_ :: clB cs)) ++ R) _
      rw [List.append_assoc]
      exact perm3 _ [_] _
    have hg := Hq.at_ (k := 1) rfl
    have hne : xb ≠ r.g := Hq.apart (i := 0) (j := 1) rfl rfl (by decide)
    exact (unread_any xb cs.length r cs _ hs.room w hx hg (hs.uok rfl) hne (fun c hc => hcl c hc rfl)).mono fun e w' ⟨o, h1, h2, h3, h4, h5⟩ => ⟨o, h1, ⟨h2, h3, by rw [h4]; exact hs.room⟩, (H.mergeN h5 o.blks_own).perm (perm3 _ _ _)⟩
end
end Go.Proofs.Ytlnlppmhiobgjaa
