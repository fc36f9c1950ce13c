/- A drawn region's call that writes two blocks. -/
import Derived.Test.YtdejhenkdbjakaaDoorWO
set_option linter.unusedVariables false
set_option linter.unusedSimpArgs false
namespace Go.Proofs.YtdejhenkdbjakaaDoor
open Go Go.RowKit
section
variable {ops : Array Oper} {d : Array Bool} {β : Nat → SlR} {i : Nat} {T : List TB} {L : List Blk} {X : List Nat} {w0 w w' : World} {fu : Nat} {o : Oper} {r : SlR} {b b2 : TB} {k k2 m m2 : Nat} {s s2 : Sg}
theorem stgS_one : ∀ {l : List Sg} {m : Nat}, stgS ops fu i l m = true → l[m]? = some s → ∀ s' ∈ l, s'.i = i → s' = s := by
  intro l
  induction l with
  | nil => intro m h; simp [stgS] at h
  | cons a l ih =>
    intro m h hm s' hs' hi
    cases m with
    | zero =>
      simp only [stgS, Bool.and_eq_true, List.all_eq_true] at h
      simp only [List.getElem?_cons_zero, Option.some.injEq] at hm
      rcases List.mem_cons.1 hs' with rfl | hs'
      · exact hm
      · exact absurd hi (ne_beq (h.2 s' hs').2)
    | succ m =>
      simp only [stgS, Bool.and_eq_true] at h
      rcases List.mem_cons.1 hs' with rfl | hs'
      · exact absurd hi (ne_beq h.1.2)
      · exact ih h.2 (by simpa using hm) s' hs' hi
theorem J2.stage2 (h : J2 X w0 T L d β w) (hD : ∀ b ∈ T, DepF d β i r b) (hcl : Closed ops d) (ho : ops[i]? = some o) (hf : d.getD i true = false) (hdep : ∀ e ∈ o.after, Region.binds .any e = true → d.getD e.on false = true)
    (hk : T[k]? = some b) (hk2 : (T.eraseIdx k)[k2]? = some b2) (hrest : ((T.eraseIdx k).eraseIdx k2).all (freeB i) = true) (ha : alB ops fu i b = true) (hkl : klB ops fu i b = true) (hs : stgS ops fu i b.sts m = true) (hsm : b.sts[m]? = some s) (hq : s.qb (updS β i r))
    (ha2 : alB ops fu i b2 = true) (hkl2 : klB ops fu i b2 = true) (hs2 : stgS ops fu i b2.sts m2 = true) (hsm2 : b2.sts[m2]? = some s2) (hq2 : s2.qb (updS β i r))
    (k1 : Kept [b.adr β, b2.adr β] w w') (h1 : w'.heap[b.adr β]? = some (s.Rb (updS β i r))) (h2 : w'.heap[b2.adr β]? = some (s2.Rb (updS β i r))) : J2 X w0 T L (d.setIfInBounds i true) (updS β i r) w' := by
  have hb := born_at hcl ho hf hdep ha hkl
  have hbb := born_at hcl ho hf hdep ha2 hkl2
  have hal : b.al ≠ some i := by simp only [alB, Bool.and_eq_true] at ha; exact neO_spec ha.1
  have hkl' : b.kl ≠ some i := by simp only [klB, Bool.and_eq_true] at hkl; exact neO_spec hkl.1
  have hal2 : b2.al ≠ some i := by simp only [alB, Bool.and_eq_true] at ha2; exact neO_spec ha2.1
  have hkl2' : b2.kl ≠ some i := by simp only [klB, Bool.and_eq_true] at hkl2; exact neO_spec hkl2.1
  have hb' : b.born (d.setIfInBounds i true) = true := by rw [TB.born_free hal hkl']; exact hb
  have hbb' : b2.born (d.setIfInBounds i true) = true := by rw [TB.born_free hal2 hkl2']; exact hbb
  have hperm := (perm_erase hk).trans ((perm_erase hk2).cons b)
  refine h.q_next r hD (fun c hc hca => ?_) (fun c hc s' hs' hsi => ?_) ?_
  · rcases List.mem_cons.1 (hperm.mem_iff.1 hc) with rfl | hc
    · exact absurd hca hal
    · rcases List.mem_cons.1 hc with rfl | hc
      · exact absurd hca hal2
      · exact absurd hca (freeB_spec (List.all_eq_true.1 hrest c hc)).1
  · rcases List.mem_cons.1 (hperm.mem_iff.1 hc) with rfl | hc
    · rw [stgS_one hs hsm s' hs' hsi]; exact hq
    · rcases List.mem_cons.1 hc with rfl | hc
      · rw [stgS_one hs2 hsm2 s' hs' hsi]; exact hq2
      · exact absurd hsi ((freeB_spec (List.all_eq_true.1 hrest c hc)).2.2 s' hs')
  · have H1 := h.hp.perm (Lof_perm hperm)
    rw [Lof_born hb, Lof_born hbb] at H1
    have H2 := H1.put2 (k := 0) (k2 := 1) rfl rfl (by decide) k1 h1 h2
    refine Hp.perm ?_ (Lof_perm hperm).symm
    rw [Lof_born hb', Lof_born hbb', Lof_free hrest (fun c hc => hD c (hperm.mem_iff.2 (List.mem_cons_of_mem _ (List.mem_cons_of_mem _ hc))))]
    have e : b.blk (d.setIfInBounds i true) (updS β i r) = ⟨true, b.adr β, s.Rb (updS β i r)⟩ := by
      unfold TB.blk
      rw [TB.adr_free hal, contF_after hcl ho hf hdep hs hsm]
    have e2 : b2.blk (d.setIfInBounds i true) (updS β i r) = ⟨true, b2.adr β, s2.Rb (updS β i r)⟩ := by
      unfold TB.blk
      rw [TB.adr_free hal2, contF_after hcl ho hf hdep hs2 hsm2]
    rw [e, e2]
    exact H2
end
section
variable {P : Program} {ops : Array Oper} {W : (Nat → SlR) → List (Nat × Value)} {V : List (Nat × Value)} {exs : List (Nat × List Nat)} {X : List Nat} {w0 : World} {T : List TB} {L : List Blk} {i : Nat} {o : Oper}
theorem E_callPP (n : Nat) (hc0 : ∀ β, opB ops (rm (exAt exs i) (W β) ++ V) n o = true) (v : (Nat → SlR) → Value) (x : Nat) (hx : o.dst = some x) (hv : ∀ β, lk (W β ++ V) x = some (v β)) (lf : Nat) (ht : ∀ β r, offAt2 ops lf i x (W (updS β i r)) (W β)) (f : Nat) (args : (Nat → SlR) → Array Value) (he : ∀ β w, (execOp (evV (rm (exAt exs i) (W β) ++ V)) o).run P w = .ok (.enter f (args β)) w) (fu : Nat) (rd : List (Nat × Nat)) (k m k2 m2 : Nat) (b b2 : TB) (s s2 : Sg) (hk : T[k]? = some b) (hk2 : (T.eraseIdx k)[k2]? = some b2) (hs : b.sts[m]? = some s) (hs2 : b2.sts[m2]? = some s2) (hck : (rdB ops T fu i rd && ((T.eraseIdx k).eraseIdx k2).all (freeB i) && alB ops fu i b && klB ops fu i b && stgS ops fu i b.sts m && alB ops fu i b2 && klB ops fu i b2 && stgS ops fu i b2.sts m2) = true) (hdk : T.all (dOK ops fu i) = true) (ho : ops[i]? = some o)
    (hr : ∀ β w, Kept X w0 w → HeldL (rdL T β rd ++ L) w → QF T β rd → w.heap[b.adr β]? = some (contM β (b.z0 β) b.sts m) → w.heap[b2.adr β]? = some (contM β (b2.z0 β) b2.sts m2) → Calls P f (args β) w fun e w' => ∃ r, e = .returned (v (updS β i r)) ∧ s.qb (updS β i r) ∧ s2.qb (updS β i r) ∧ Kept [b.adr β, b2.adr β] w w' ∧ w'.heap[b.adr β]? = some (s.Rb (updS β i r)) ∧ w'.heap[b2.adr β]? = some (s2.Rb (updS β i r))) : StO2 P ops W V exs (J2 X w0 T L) i o := by
  simp only [Bool.and_eq_true] at hck
  obtain ⟨⟨⟨⟨⟨⟨⟨c1, c2⟩, c3⟩, c4⟩, c5⟩, c6⟩, c7⟩, c8⟩ := hck
  refine .callX (fun β => (opB_spec (hc0 β)).2.1) (fun β => (opB_spec (hc0 β)).1) v (fun β r t ht => by rw [hx] at ht; cases ht; exact hv _) (fun β r t hne => lk_off2 (ht β r) t (fun e => hne (by rw [hx, e]))) f args he fun d β w hcl hf hdep hJ => ?_
  obtain ⟨h1, h2⟩ := hJ.reads hcl ho hf hdep c1
  have own : ∀ {c : TB} {mm : Nat}, c ∈ T → alB ops fu i c = true → klB ops fu i c = true → stgS ops fu i c.sts mm = true → w.heap[c.adr β]? = some (contM β (c.z0 β) c.sts mm) := fun hm g3 g4 g5 => by
    have hmem := List.mem_append_left L (List.mem_map_of_mem (f := fun c : TB => c.blk d β) (List.mem_filter.2 ⟨hm, born_at hcl ho hf hdep g3 g4⟩))
    have := hJ.hp.held _ hmem
    unfold TB.blk at this
    rw [contF_before hcl ho hf hdep g5] at this
    exact this
  have o1 := own ((perm_erase hk).mem_iff.2 (List.mem_cons_self ..)) c3 c4 c5
  have o2 := own ((perm_erase hk).mem_iff.2 (List.mem_cons_of_mem _ (List.mem_of_getElem? hk2))) c6 c7 c8
  exact (hr β w hJ.hp.kept h1 h2 o1 o2).mono fun e w' ⟨r, h3, h4, h5, h6, h7, h8⟩ => ⟨r, h3, hJ.stage2 (fun c hc => dOK_spec hcl hf (List.all_eq_true.1 hdk c hc)) hcl ho hf hdep hk hk2 c2 c3 c4 c5 hs h4 c6 c7 c8 hs2 h5 h6 h7 h8⟩
end
end Go.Proofs.YtdejhenkdbjakaaDoor
