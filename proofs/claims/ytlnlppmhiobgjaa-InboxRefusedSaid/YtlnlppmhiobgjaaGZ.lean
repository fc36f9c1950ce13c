/- A drawn region that reads, then calls once; the inbox as a state: Hold, Held. -/
import Derived.Test.YtlnlppmhiobgjaaGX
set_option linter.unusedVariables false
set_option linter.unusedSimpArgs false
namespace Go.Proofs.Ytlnlppmhiobgjaa
open Go Go.RowKit
section
variable {P : Program} {Q : Exit → Act → World → Prop} {a : Act} {w w0 : World} {n : Nat} {ds : List Deferred} {V : List (Nat × Value)} {X : List Nat} {L : List Blk} {lops : List Oper} {W : List (Nat × Value)} {exs : List (Nat × List Nat)} {o : Oper} {i iy fu : Nat} {Kp : World → Prop}
abbrev StZ (P : Program) (lops : List Oper) (W : List (Nat × Value)) (V : List (Nat × Value)) (exs : List (Nat × List Nat)) (X : List Nat) (w0 : World) (L : List Blk) (iy : Nat) (Kp : World → Prop) (i : Nat) (o : Oper) : Prop := StO2 P lops.toArray (fun _ => W) V exs (JY X w0 L iy Kp) i o
theorem Z_any (hne : (!Nat.beq i iy) = true) (v : Value) (hr : ∀ w, (execOp (evV (rm (exAt exs i) W ++ V)) o).run P w = .ok (.value v) w := by intro w; as_aux_lemma => kernel_rfl) (hk : knownB (rm (exAt exs i) W ++ V) o = true := by  as_aux_lemma => kernel_rfl) (hw : wants lops.toArray (rm (exAt exs i) W ++ V) o = some true := by  as_aux_lemma => kernel_rfl) (hv : o.dst.map (fun t => lk (W ++ V) t) = some (some v) := by  as_aux_lemma => kernel_rfl) : StZ P lops W V exs X w0 L iy Kp i o :=
  .val (fun _ => hk) (fun _ => hw) (fun _ => v) (fun _ t ht => by rw [ht] at hv; simpa using hv) (fun d β w _ _ _ hJ => ⟨hr w, hJ.off (ne_beq hne)⟩)
theorem Z_pre (hne : (!Nat.beq i iy && reachB lops.toArray fu iy i) = true) (v : Value) (hr : ∀ w, Kept X w0 w → HeldL L w → (execOp (evV (rm (exAt exs i) W ++ V)) o).run P w = .ok (.value v) w) (hk : knownB (rm (exAt exs i) W ++ V) o = true := by  as_aux_lemma => kernel_rfl) (hw : wants lops.toArray (rm (exAt exs i) W ++ V) o = some true := by  as_aux_lemma => kernel_rfl) (hv : o.dst.map (fun t => lk (W ++ V) t) = some (some v) := by  as_aux_lemma => kernel_rfl) : StZ P lops W V exs X w0 L iy Kp i o :=
  .val (fun _ => hk) (fun _ => hw) (fun _ => v) (fun _ t ht => by rw [ht] at hv; simpa using hv) (fun d β w hcl hf _ hJ => by
    simp only [Bool.and_eq_true] at hne
    have hy := reach_not hcl hf hne.2
    have hH : Hp X w0 L w := by unfold JY at hJ; rwa [if_neg (by rw [hy]; simp)] at hJ
    exact ⟨hr w hH.kept ⟨hH.held⟩, hJ.off (ne_beq hne.1)⟩)
theorem Z_call (hi : i = iy) (f : Nat) (args : Array Value) (v : Value) (hc : ∀ w, Hp X w0 L w → Calls P f args w fun e w' => e = .returned v ∧ Kp w') (hr : ∀ w, (execOp (evV (rm (exAt exs i) W ++ V)) o).run P w = .ok (.enter f args) w := by intro w; as_aux_lemma => kernel_rfl) (hk : knownB (rm (exAt exs i) W ++ V) o = true := by  as_aux_lemma => kernel_rfl) (hw : wants lops.toArray (rm (exAt exs i) W ++ V) o = some true := by  as_aux_lemma => kernel_rfl) (hv : o.dst.map (fun t => lk (W ++ V) t) = some (some v) := by  as_aux_lemma => kernel_rfl) : StZ P lops W V exs X w0 L iy Kp i o :=
  .call (fun _ => hk) (fun _ => hw) (fun _ => v) (fun _ t ht => by rw [ht] at hv; simpa using hv) f (fun _ => args) (fun _ w => hr w) (fun d β w hcl hf _ hJ => by
    subst hi
    have hy0 : d.getD i false = false := by
      rw [Array.getD_eq_getD_getElem?] at hf ⊢
      cases hq : d[i]? with
      | none => rfl
      | some c => rw [hq] at hf; exact hf
    have hH : Hp X w0 L w := by unfold JY at hJ; rwa [if_neg (by rw [hy0]; simp)] at hJ
    refine (hc w hH).mono ?_
    rintro e w' ⟨rfl, h2⟩
    refine ⟨rfl, ?_⟩
    unfold JY
    rw [if_pos (getD_on hf)]; exact h2)
theorem Z_region {id : Nat} (Fa : Fm n ds V a) (H : Hp X w0 L w) (W : List (Nat × Value)) (slots : List Nat) (iy : Nat) (Kp : World → Prop) (fu : Nat) (exs : List (Nat × List Nat))
    (hm : P.follows .mixedOrders = true) (hck : (edgesDown lops.toArray && opsFedX lops.toArray fu exs && opsOnce lops.toArray && (slots.all fun x => Nat.blt x n && lops.toArray.any fun o => o.dst == some x) && nodupB slots && Nat.blt iy lops.toArray.size) = true) (hslots : keys W = slots)
    (hop : AllS2 P lops.toArray (fun _ => W) V exs (JY X w0 L iy Kp) 0 lops)
    (he : ∀ a w, Kp w → Fm n ds (W ++ V) a → Q .normal a w) : (Code.region id lops.toArray true).wp P Q a w := by
  simp only [Bool.and_eq_true] at hck
  obtain ⟨⟨⟨⟨⟨c2, c3⟩, c4⟩, c5⟩, c6⟩, c7⟩ := hck
  have z : ∀ (m : Nat) j, (Array.replicate m false).getD j false = false := fun m j => by
    rw [Array.getD_eq_getD_getElem?, Array.getElem?_replicate]; split <;> rfl
  refine wp_region_any hm (wpAny_v2 Fa (fun _ => W) slots (JY X w0 L iy Kp) (fun _ => r0) c2 fu exs c3 c4 (fun _ => hslots) c5 c6 ?_ (fun i o ho => ?_) (fun d β a w' hall hJ FF => ?_))
  · unfold JY
    rw [if_neg (by rw [z]; simp)]
    exact H.call (Kept.drew w)
  · have := hop.at_ i o (by simpa using ho)
    rwa [Nat.zero_add] at this
  · refine he a w' ?_ FF
    unfold JY at hJ
    rwa [if_pos (hall iy (by simpa using c7))] at hJ
end

def octs (l : List Nat) : Prop := ∀ y ∈ l, y < 256
/-- What Hold tells, and what is held then. -/
def hHold (nx ix : Nat) (l : List Nat) (D : HD) : Nat × HD := if ix ≤ nx then (84, D) else if 4 ≤ ix - nx then (85, D) else match D.find? (fun d => d.1 == ix) with
  | none => (0, D ++ [(ix, l)])
  | some d => if d.2 = l then (0, D) else (63, D)
theorem apc {α : Type} (x : α) (Y U R : List α) : ((x :: Y) ++ U) ++ R = x :: (Y ++ (U ++ R)) := by simp
theorem set_same {α : Type} : ∀ {l : List α} {i : Nat} {x : α}, l[i]? = some x → l.set i x = l
  | a :: l, 0, x, h => by rw [List.getElem?_cons_zero] at h; injection h with h; rw [h]; rfl
  | a :: l, i + 1, x, h => by rw [List.getElem?_cons_succ] at h; show a :: l.set i x = _; rw [set_same h]
  | [], i, x, h => by simp at h
theorem set_split {α : Type} : ∀ {l : List α} {i : Nat} {x : α}, l[i]? = some x → ∃ A B, l = A ++ x :: B ∧ ∀ y, l.set i y = A ++ y :: B
  | a :: l, 0, x, h => by rw [List.getElem?_cons_zero] at h; injection h with h; exact ⟨[], l, by rw [h]; rfl, fun y => rfl⟩
  | a :: l, i + 1, x, h => by
    rw [List.getElem?_cons_succ] at h
    obtain ⟨A, B, h1, h2⟩ := set_split h
    exact ⟨a :: A, B, by rw [h1]; rfl, fun y => by show a :: l.set i y = _; rw [h2]; rfl⟩
  | [], i, x, h => by simp at h
section
variable {X : List Nat} {w0 w : World} {R : List Blk} {xb : Nat} {s : InS}
theorem s_rd (hs : s.ok) (H : Hp X w0 (s.blks xb ++ R) w) (hm : s.mnl = false) : ∀ m ∈ s.M, m.c.ok ∧ m.c.sv.RdK [s.mb] w := by
  obtain ⟨mnl, mb, clock, M, nb, ad, r, cs⟩ := s
  cases hm
  intro m hm
  have hM := hs.mok rfl
  refine ⟨hM.each m hm, Cl.rdK (hM.each m hm) (fun p hp => H.held p ?_) fun p hp hx => ?_⟩
  · exact List.mem_append_left _ (List.mem_cons_of_mem _ (List.mem_append_left _ (List.mem_cons_of_mem _ (List.mem_flatMap.2 ⟨m, hm, hp⟩))))
  · have hf := (List.pairwise_cons.1 ((List.pairwise_append.1 H.far).1)).2
    have hf2 := (List.pairwise_cons.1 (List.pairwise_append.1 hf).1).1 p (List.mem_flatMap.2 ⟨m, hm, hp⟩)
    exact hf2 (List.mem_singleton.1 hx).symm
theorem hold_S (hs : s.ok) (H : Hp X w0 (s.blks xb ++ R) w) (nx ix : Nat) (b : Sv) (hb : b.RdK (s.ads xb) w) (ob : octs b.l) (oD : ∀ d ∈ s.hD, octs d.2) (hix : ix < 4294967296) : Calls Try.prog 20 #[.pointer (some ⟨xb, 0, none⟩), .int .u32 ((nx : Nat) : Int), .int .u32 ((ix : Nat) : Int), b.v] w fun e w' => ∃ s' : InS, e = .returned (.int .i64 (((hHold nx ix b.l s.hD).1 : Nat) : Int)) ∧ (s'.ok ∧ s'.U = s.U ∧ s'.hD = (hHold nx ix b.l s.hD).2) ∧ Hp X w0 (s'.blks xb ++ R) w' := by
  by_cases h1 : ix ≤ nx
  · rw [show hHold nx ix b.l s.hD = (84, s.hD) from if_pos h1]
    exact (hold_stale xb nx ix b.v h1 w).mono fun e w' ⟨q1, q2⟩ => ⟨s, q1, ⟨hs, rfl, rfl⟩, H.call q2⟩
  · have h1' : nx < ix := by omega
    by_cases h4 : 4 ≤ ix - nx
    · rw [show hHold nx ix b.l s.hD = (85, s.hD) from (if_neg h1).trans (if_pos h4)]
      exact (hold_ahead xb nx ix b.v h1' h4 hix w).mono fun e w' ⟨q1, q2⟩ => ⟨s, q1, ⟨hs, rfl, rfl⟩, H.call q2⟩
    · have h4' : ix - nx < 4 := by omega
      cases hf : s.hD.find? (fun d => d.1 == ix) with
      | none =>
        have e : hHold nx ix b.l s.hD = (0, s.hD ++ [(ix, b.l)]) := by unfold hHold; rw [if_neg h1, if_neg h4, hf]
        rw [e]
        have hno : ∀ d ∈ s.hD, d.1 ≠ ix := fun d hd => by have := List.find?_eq_none.1 hf d hd; simpa using this
        exact hold_SA hs H nx ix b hb h1' h4' hix hno
      | some d =>
        have hd : d ∈ s.hD := List.mem_of_find?_eq_some hf
        have hk : d.1 = ix := by have := List.find?_some hf; simpa using this
        have hrd := fun h => s_rd hs H h
        obtain ⟨mnl, mb, clock, M, nb, ad, r, cs⟩ := s
        cases mnl with
        | true =>
          have h0 : M = [] := hs.mnil rfl
          subst h0
          cases hd
        | false =>
          have hM := hs.mok rfl
          obtain ⟨m0, hm0, rfl⟩ := List.mem_map.1 hd
          have hk0 : m0.k = ix := hk
          obtain ⟨i0, hq⟩ := mfi_at 0 hM.keys hm0 hk0
          obtain ⟨h0ok, h0rd⟩ := hrd rfl m0 hm0
          have o0 : ∀ y ∈ m0.c.l, y < 256 := oD (m0.k, m0.c.l) hd
          have Hq : Hp X w0 ([⟨true, mb, mpO M clock⟩] ++ (ixb xb (.map (some mb)) (InS.uv ⟨false, mb, clock, M, nb, ad, r, cs⟩) :: (menB M ++ (InS.un ⟨false, mb, clock, M, nb, ad, r, cs⟩ ++ R)))) w := by
            refine H.perm ?_
            show List.Perm (_ :: (((_ :: menB M) ++ InS.un ⟨false, mb, clock, M, nb, ad, r, cs⟩) ++ R)) _
            rw [List.append_assoc]
            exact List.Perm.swap _ _ _
          have hmb := Hq.at_ (k := 0) rfl
          have hx := Hq.at_ (k := 1) rfl
          have hne : mb ≠ xb := Hq.apart (i := 0) (j := 1) rfl rfl (by decide)
          have hsub : ∀ y ∈ [mb], y ∈ InS.ads ⟨false, mb, clock, M, nb, ad, r, cs⟩ xb := fun y hy => by rw [List.mem_singleton.1 hy]; exact List.mem_cons_of_mem _ (List.mem_append_left _ (List.mem_singleton.2 rfl))
          have back : ∀ {L' : List Blk} {w' : World}, Hp X w0 (L' ++ (ixb xb (.map (some mb)) (InS.uv ⟨false, mb, clock, M, nb, ad, r, cs⟩) :: (menB M ++ (InS.un ⟨false, mb, clock, M, nb, ad, r, cs⟩ ++ R)))) w' → True := fun _ => trivial
          by_cases he : m0.c.l = b.l
          · have e : hHold nx ix b.l (InS.hD ⟨false, mb, clock, M, nb, ad, r, cs⟩) = (0, InS.hD ⟨false, mb, clock, M, nb, ad, r, cs⟩) := by unfold hHold; rw [if_neg h1, if_neg h4, hf]; exact if_pos he
            rw [e]
            have fin : ∀ (c : Cl) (e : Ending) (w' : World), e = .returned (.int .i64 0) → c.l = b.l → c.ok → Hp [mb] w (⟨true, mb, mpO (mset ix c clock M) clock⟩ :: c.blks) w' → ∃ s' : InS, e = .returned (.int .i64 0) ∧ (s'.ok ∧ s'.U = InS.U ⟨false, mb, clock, M, nb, ad, r, cs⟩ ∧ s'.hD = InS.hD ⟨false, mb, clock, M, nb, ad, r, cs⟩) ∧ Hp X w0 (s'.blks xb ++ R) w' := by
              intro c e w' he' hl hc Hc
              obtain ⟨m', hm', hk', hv', hset⟩ := mset_some ix c clock hq
              have hm1 : m' = m0 := keys_inj hM.keys (List.mem_of_getElem? hm') hm0 (hk'.trans hk0.symm)
              subst hm1
              rw [hset] at Hc
              obtain ⟨A, B, hAB, hABs⟩ := set_split hm'
              replace hAB : M = A ++ m' :: B := hAB
              replace hABs : ∀ y, M.set i0 y = A ++ y :: B := hABs
              have mk : ∀ {β : Type} (f : MEn → β), f ⟨ix, c, m'.born⟩ = f m' → (M.set i0 ⟨ix, c, m'.born⟩).map f = M.map f := fun f hf' => (congrArg (List.map f) (hABs _)).trans (((by rw [List.map_append, List.map_append, List.map_cons, List.map_cons, hf'] : (A ++ _ :: B).map f = (A ++ m' :: B).map f)).trans (congrArg (List.map f) hAB).symm)
              refine ⟨⟨false, mb, clock, M.set i0 ⟨ix, c, m'.born⟩, nb, ad, r, cs⟩, he', ⟨⟨(fun h => by cases h), fun _ => ⟨?_, ?_, ?_, ?_⟩, hs.unil, hs.uok, hs.each, hs.room⟩, rfl, ?_⟩, ?_⟩
              · show ((M.set i0 ⟨ix, c, m'.born⟩).map (·.k)).Nodup
                rw [mk (fun m => m.k) hk'.symm]; exact hM.keys
              · show ((M.set i0 ⟨ix, c, m'.born⟩).map (·.born)).Nodup
                rw [mk (fun m => m.born) rfl]; exact hM.births
              · intro m hm
                rcases List.mem_or_eq_of_mem_set hm with h | rfl
                · exact hM.old m h
                · exact hM.old m' hm0
              · intro m hm
                rcases List.mem_or_eq_of_mem_set hm with h | rfl
                · exact hM.each m h
                · exact hc
              · show (M.set i0 ⟨ix, c, m'.born⟩).map (fun m => (m.k, m.c.l)) = M.map fun m => (m.k, m.c.l)
                exact mk _ (by show (ix, c.l) = (m'.k, m'.c.l); rw [hl, he, hk'])
              · have hm := Hp.merge2 Hq rfl rfl Hc (fun p hp => by
                  rcases List.mem_cons.1 hp with rfl | hp
                  · rfl
                  · exact c.blks_own p hp)
                have hw : Hp X w0 ((⟨true, mb, mpO (M.set i0 ⟨ix, c, m'.born⟩) clock⟩ :: c.blks) ++ (ixb xb (.map (some mb)) (InS.uv ⟨false, mb, clock, M, nb, ad, r, cs⟩) :: ((menB A ++ menB B) ++ (InS.un ⟨false, mb, clock, M, nb, ad, r, cs⟩ ++ R)))) w' := by
                  refine hm.weak (List.Sublist.append (List.Sublist.refl _) (List.Sublist.cons_cons _ (List.Sublist.append ?_ (List.Sublist.refl _))))
                  rw [hAB, menB_app]
                  exact List.Sublist.append (List.Sublist.refl _) (List.sublist_append_right _ _)
                refine hw.perm ?_
                show List.Perm (_ :: (c.blks ++ (_ :: ((menB A ++ menB B) ++ (InS.un ⟨false, mb, clock, M, nb, ad, r, cs⟩ ++ R))))) (_ :: (((_ :: menB (M.set i0 ⟨ix, c, m'.born⟩)) ++ InS.un ⟨false, mb, clock, M, nb, ad, r, cs⟩) ++ R))
                rw [hABs, menB_app, apc]
                refine (List.Perm.cons _ List.perm_middle).trans ((List.Perm.swap _ _ _).trans (List.Perm.cons _ (List.Perm.cons _ ?_)))
                show List.Perm (c.blks ++ ((menB A ++ menB B) ++ (InS.un ⟨false, mb, clock, M, nb, ad, r, cs⟩ ++ R))) ((menB A ++ (c.blks ++ menB B)) ++ (InS.un ⟨false, mb, clock, M, nb, ad, r, cs⟩ ++ R))
                rw [← List.append_assoc]
                refine List.Perm.append_right _ ?_
                exact perm3 _ _ _
            obtain ⟨bad, bc, l⟩ := b
            have hbr := hb w (Kept.refl _ _)
            cases bad with
            | none =>
              have hl : l = [] := hbr.empty rfl
              have hc0 : bc = 0 := hbr.nil rfl
              subst hl hc0
              exact (hold_same_nil xb nx ix mb clock M _ h1' h4' hix i0 m0.c hq h0ok o0 ob he w hx hmb hne h0rd (hb.mono hsub)).mono fun e w' ⟨c, q1, q2, q3, q4⟩ => fin c e w' q1 q2 q3 q4
            | some bq => exact (hold_same_some xb nx ix mb clock M _ h1' h4' hix i0 m0.c hq h0ok o0 bq bc l hbr.big ob he w hx hmb hne h0rd (hb.mono hsub)).mono fun e w' ⟨c, q1, q2, q3, q4⟩ => fin c e w' q1 q2 q3 q4
          · have e : hHold nx ix b.l (InS.hD ⟨false, mb, clock, M, nb, ad, r, cs⟩) = (63, InS.hD ⟨false, mb, clock, M, nb, ad, r, cs⟩) := by unfold hHold; rw [if_neg h1, if_neg h4, hf]; exact if_neg he
            rw [e]
            refine (hold_full xb nx ix mb clock M _ h1' h4' hix i0 m0.c hq h0ok o0 b ob he w hx hmb hne h0rd (hb.mono hsub)).mono fun e w' ⟨q1, q2⟩ => ⟨⟨false, mb, clock, M, nb, ad, r, cs⟩, q1, ⟨hs, rfl, rfl⟩, ?_⟩
            have hm := Hp.merge2 Hq rfl rfl q2 (fun p hp => by rw [List.mem_singleton.1 hp])
            refine hm.perm ?_
            show List.Perm (_ :: _ :: _) (_ :: (((_ :: menB M) ++ InS.un ⟨false, mb, clock, M, nb, ad, r, cs⟩) ++ R))
            rw [List.append_assoc]
            exact List.Perm.swap _ _ _
theorem held_S (hs : s.ok) (hn : s.hD.length < 1000000) (H : Hp X w0 (s.blks xb ++ R) w) : Calls Try.prog 22 #[.pointer (some ⟨xb, 0, none⟩)] w fun e w' => ∃ o : Hs, e = .returned o.v ∧ (o.ok ∧ o.cs.Pairwise (fun a b => a.1 ≤ b.1) ∧ o.D.Perm s.hD) ∧ Hp X w0 (s.blks xb ++ (o.blks ++ R)) w' := by
  have hrd := fun h => s_rd hs H h
  have hx := H.at_ (k := 0) rfl
  obtain ⟨mnl, mb, clock, M, nb, ad, r, cs⟩ := s
  cases mnl with
  | true =>
    have h0 : M = [] := hs.mnil rfl
    subst h0
    exact (held_nil xb _ w hx).mono fun e w' ⟨h1, h2⟩ => ⟨⟨true, 0, 0, [], []⟩, h1, ⟨⟨fun _ => rfl, (fun h => by cases h), fun c hc => by cases hc⟩, List.Pairwise.nil, List.Perm.refl _⟩, H.call h2⟩
  | false =>
    have hmb := H.at_ (k := 1) rfl
    have hne : xb ≠ mb := H.apart (i := 0) (j := 1) rfl rfl (by decide)
    have hlen : M.length < 1000000 := by have h1 : (M.map fun m => (m.k, m.c.l)).length < 1000000 := hn; rwa [List.length_map] at h1
    exact (held_some xb mb clock M _ (hs.mok rfl) hlen w hx hmb hne.symm (fun m hm => ⟨(hrd rfl m hm).1, (hrd rfl m hm).2 w (Kept.refl _ _)⟩)).mono fun e w' ⟨o, h1, h2, h3, h4, h5⟩ => ⟨o, h1, ⟨h2, h3, h4⟩, (H.mergeN h5 o.blks_own).perm (perm3 _ _ _)⟩
end
end Go.Proofs.Ytlnlppmhiobgjaa
