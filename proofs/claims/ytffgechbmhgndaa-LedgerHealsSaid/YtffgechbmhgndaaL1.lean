/- What each call of package ledger does, said of the memory that a ledger has. -/
import Derived.Test.YtffgechbmhgndaaK0
set_option linter.unusedVariables false
set_option linter.unusedSimpArgs false
namespace Go.Proofs.Ytffgechbmhgndaa
open Go.RowKit

structure Led where
  epochs : List Nat
  got : Nat
  newest : Nat
  seen : List (Nat × Nat × Nat)

namespace Led
def seenCells (s : List (Nat × Nat × Nat)) : List Value := s.flatMap fun t => [.int .i64 t.1, .int .i64 t.2.1, .int .i64 t.2.2]
def ints (l : List Nat) : List Value := l.map fun (x : Nat) => .int .i64 x
def oldest (L : Led) : Nat := if L.got = 0 then 0 else L.epochs.getD (L.got - 1) 0
/-- The error that an event tells. -/
def err (L : Led) (ev : Int) : Int :=
  if ev = 1 then (if 6 ≤ L.epochs.length then 63 else 0) else if ev = 2 then (if L.epochs.length ≤ L.got then 62 else 0) else if ev = 3 then (if 6 ≤ L.newest then 63 else 0)
  else if ev = 4 ∨ ev = 5 then 0 else 1
def next (L : Led) (ev : Int) : Led :=
  if ev = 1 then (if 6 ≤ L.epochs.length then L else { L with epochs := L.epochs ++ [L.newest] }) else if ev = 2 then (if L.epochs.length ≤ L.got then L else { L with got := L.got + 1 })
  else if ev = 3 then (if 6 ≤ L.newest then L else { L with newest := L.newest + 1 }) else if ev = 5 then { L with seen := L.seen ++ [(L.got, L.oldest, L.newest)] } else L
/-- What holds of a ledger that lies in memory: small numbers. -/
structure Ok (L : Led) : Prop where
  n6 : L.epochs.length ≤ 6
  got : L.got ≤ L.epochs.length
  newest : L.newest ≤ 6
  seen : L.seen.length ≤ 1000
  ep : ∀ x ∈ L.epochs, x ≤ 6
end Led

/-- A ledger lies at block 'b'; its slices are its own; 'fs' are all its blocks. -/
def LedAt (w : World) (b : Nat) (L : Led) (fs : List Nat) : Prop :=
  ∃ ve vs, w.heap[b]? = some (.cells #[ve, .int .i64 L.got, .int .i64 L.newest, vs] 27 (0, 0)) ∧ w.ownsRow 0 3 1 ve L.epochs.length (Led.ints L.epochs) ∧
    w.ownsRow 0 71 3 vs L.seen.length (Led.seenCells L.seen) ∧ fs = b :: (obl ve ++ obl vs)

theorem LedAt.keep {w w1 : World} {b : Nat} {L : Led} {fs : List Nat} (h : LedAt w b L fs) (hk : ∀ k, k ∈ fs → w1.heap[k]? = w.heap[k]?) : LedAt w1 b L fs := by
  obtain ⟨ve, vs, hb, he, hs, rfl⟩ := h
  exact ⟨ve, vs, (hk b (by simp)).trans hb, own_keep he fun k h => hk k (by simp [h]), own_keep hs fun k h => hk k (by simp [h]), rfl⟩
theorem LedAt.lt {w : World} {b : Nat} {L : Led} {fs : List Nat} (h : LedAt w b L fs) : ∀ k, k ∈ fs → k < w.heap.size := by
  obtain ⟨ve, vs, hb, he, hs, rfl⟩ := h
  intro k hk
  simp only [List.mem_cons, List.mem_append] at hk
  rcases hk with rfl | hk | hk
  · exact (Array.getElem?_eq_some_iff.1 hb).1
  · exact own_obl_lt he hk
  · exact own_obl_lt hs hk

theorem info3 : (Try.prog.info? 3).map (fun i => (i.zero, i.size, i.bytes)) = some (some (.int .i64 0), 1, 8) := by kernel_rfl
theorem info71 : (Try.prog.info? 71).map (fun i => (i.zero, i.size, i.bytes)) = some (some (.agg #[.int .i64 0, .int .i64 0, .int .i64 0]), 3, 24) := by kernel_rfl
theorem info4 : (Try.prog.info? 4).map (fun i => (i.zero, i.size, i.bytes)) = some (some (.bool false), 1, 1) := by kernel_rfl

theorem ret_int {k : IntKind} {a b : Int} (h : a = b) : Ending.returned (.int k a) = .returned (.int k b) := by rw [h]

/-- What the second half of an event does: the ledger goes over into 'L1', new blocks, nothing else. -/
def Goes (w : World) (b : Nat) (L1 : Led) (fs : List Nat) (w' : World) : Prop := ∃ fs', LedAt w' b L1 fs' ∧ Fr fs w w' ∧ ∀ k, k ∈ fs' → k ∈ fs ∨ w.heap.size ≤ k

set_option maxHeartbeats 400000 in
theorem only_any (e : Int) (b : Bool) (w : World) :
    Calls Try.prog 53 #[.int .i64 e, .bool b] w fun r w' => r = .returned (.int .i64 (if b then e else 0)) ∧ ∃ n, w' = w.drewN n := by
  cases b
  all_goals
    go_enter Try.func53, Try.ntmps53
    go_wp2
    go_ret
    exact ⟨rfl, 0, rfl⟩

set_option maxHeartbeats 400000 in
/-- The first halves. -/
theorem wrong1 {w : World} {b : Nat} {L : Led} {fs : List Nat} (h : LedAt w b L fs) (ok : L.Ok) :
    Calls Try.prog 52 #[.pointer (some ⟨b, 0, none⟩)] w fun r w' => r = .returned (.int .i64 (L.err 1)) ∧ ∃ n, w' = w.drewN n := by
  obtain ⟨ve, vs, hb, he, hs, rfl⟩ := h
  have h6 := ok.n6
  obtain ⟨A, c, rfl, hc⟩ := own_form he
  have c0 : w.cell? ⟨b, 0, none⟩ = some (.slice A L.epochs.length c) := cell_of_row w b 0 _ 27 (0, 0) hb
  clear hb he hs
  by_cases h6 : 6 ≤ L.epochs.length
  all_goals
    go_enter Try.func52, Try.ntmps52
    go_wp2
    go_ret
    exact ⟨ret_int (by simp [Led.err, h6]), 0, rfl⟩

set_option maxHeartbeats 400000 in
theorem wrong2 {w : World} {b : Nat} {L : Led} {fs : List Nat} (h : LedAt w b L fs) (ok : L.Ok) :
    Calls Try.prog 55 #[.pointer (some ⟨b, 0, none⟩)] w fun r w' => r = .returned (.int .i64 (L.err 2)) ∧ ∃ n, w' = w.drewN n := by
  obtain ⟨ve, vs, hb, he, hs, rfl⟩ := h
  have h6 := ok.n6
  obtain ⟨A, c, rfl, hc⟩ := own_form he
  have c0 : w.cell? ⟨b, 0, none⟩ = some (.slice A L.epochs.length c) := cell_of_row w b 0 _ 27 (0, 0) hb
  have c1 : w.cell? ⟨b, 1, none⟩ = some (.int .i64 L.got) := cell_of_row w b 1 _ 27 (0, 0) hb
  clear hb he hs
  have hg := ok.got
  by_cases h7 : L.epochs.length ≤ L.got
  all_goals
    go_enter Try.func55, Try.ntmps55
    go_wp2
    go_quiet ((go_at_call 53; exact Calls.quiet_of (only_any _ _ _)))
    go_wp2
    go_ret
    exact ⟨ret_int (by simp [Led.err, h7]), _, rfl⟩

set_option maxHeartbeats 400000 in
theorem wrong3 {w : World} {b : Nat} {L : Led} {fs : List Nat} (h : LedAt w b L fs) (ok : L.Ok) :
    Calls Try.prog 57 #[.pointer (some ⟨b, 0, none⟩)] w fun r w' => r = .returned (.int .i64 (L.err 3)) ∧ ∃ n, w' = w.drewN n := by
  obtain ⟨ve, vs, hb, he, hs, rfl⟩ := h
  have c2 : w.cell? ⟨b, 2, none⟩ = some (.int .i64 L.newest) := cell_of_row w b 2 _ 27 (0, 0) hb
  clear hb he hs
  have hg := ok.newest
  by_cases h7 : 6 ≤ L.newest
  all_goals
    go_enter Try.func57, Try.ntmps57
    go_wp2
    go_ret
    exact ⟨ret_int (by simp [Led.err, h7]), 0, rfl⟩

theorem wrong4 (p : Value) (w : World) :
    Calls Try.prog 51 #[p] w fun r w' => r = .returned (.int .i64 0) ∧ ∃ n, w' = w.drewN n := by
  go_enter Try.func51, Try.ntmps51
  go_wp2
  go_ret
  exact ⟨rfl, 0, rfl⟩

theorem does1_fin {w : World} {b : Nat} {L : Led} {ve vs : Value} (hb : w.heap[b]? = some (.cells #[ve, .int .i64 L.got, .int .i64 L.newest, vs] 27 (0, 0))) (he : w.ownsRow 0 3 1 ve L.epochs.length (Led.ints L.epochs))
    (hs : w.ownsRow 0 71 3 vs L.seen.length (Led.seenCells L.seen)) (h7 : L.epochs.length < 6) {w0 w1 : World} {g cap : Nat} (hw0 : Fr [] w w0) (ho : w1.ownsRow 0 3 1 (.slice (some ⟨g, 0, none⟩) (L.epochs.length + 1) cap) (L.epochs.length + 1) (Led.ints L.epochs ++ [.int .i64 L.newest]))
    (hg : w0.grownBy w1 ve.ownBlock) (ha : ve.ownBlock = some g ∨ g = w0.heap.size) :
    Goes w b (L.next 1) (b :: (obl ve ++ obl vs)) (w1.setCell ⟨b, 0, none⟩ (.slice (some ⟨g, 0, none⟩) (L.epochs.length + 1) cap)) := by
  have hf : Fr (obl ve) w w1 := hw0.of_append hg (by simp) (fun i h _ => h)
  have hne : b ∉ obl ve := fun h => own_not he hb (by decide) (mem_obl.1 h)
  have hb1 : w1.heap[b]? = some (.cells #[ve, .int .i64 L.got, .int .i64 L.newest, vs] 27 (0, 0)) := (hf.block b (heap_lt hb) hne).trans hb
  have hs1 : w1.ownsRow 0 71 3 vs L.seen.length (Led.seenCells L.seen) := own_keep hs fun k hk => hf.block k (own_obl_lt hs hk) fun hk' => own_types_ne hs he (by decide) hk hk'
  have e : L.next 1 = { L with epochs := L.epochs ++ [L.newest] } := by simp [Led.next, show ¬ 6 ≤ L.epochs.length by omega]
  refine ⟨b :: (obl (.slice (some ⟨g, 0, none⟩) (L.epochs.length + 1) cap) ++ obl vs), ?_, ?_, ?_⟩
  · rw [e]
    refine ⟨_, vs, heap_set hb1 0 _, ?_, ?_, rfl⟩
    · have := own_set ho (p := ⟨b, 0, none⟩) (own_not ho hb1 (by decide)) (.slice (some ⟨g, 0, none⟩) (L.epochs.length + 1) cap)
      simpa [Led.ints] using this
    · exact own_set hs1 (own_not hs1 hb1 (by decide)) _
  · exact (hf.mono (fun i h _ => by simp [h])).set_ _ (fun _ => by simp)
  · intro k hk
    simp only [List.mem_cons, List.mem_append] at hk
    rcases hk with rfl | hk | hk
    · exact .inl (by simp)
    · have : k = g := by simpa [obl, Value.ownBlock] using hk
      subst this
      rcases ha with ha | ha
      · exact .inl (by simp [mem_obl, ha])
      · exact .inr (ha ▸ hw0.size)
    · exact .inl (by simp [hk])

set_option maxHeartbeats 400000 in
theorem does1 {w : World} {b : Nat} {L : Led} {fs : List Nat} (h : LedAt w b L fs) (h7 : L.epochs.length < 6) :
    Calls Try.prog 54 #[.pointer (some ⟨b, 0, none⟩)] w fun r w' => r = .returned (.tuple #[]) ∧ Goes w b (L.next 1) fs w' := by
  obtain ⟨ve, vs, hb, he, hs, rfl⟩ := h
  obtain ⟨i0, hi, hz0, hz1, hz2⟩ := info_parts info3
  have c0 : w.cell? ⟨b, 0, none⟩ = some ve := cell_of_row w b 0 _ 27 (0, 0) hb
  have c2 : w.cell? ⟨b, 2, none⟩ = some (.int .i64 L.newest) := cell_of_row w b 2 _ 27 (0, 0) hb
  have hlt : b < w.heap.size := heap_lt hb
  have hfin : ∀ w0 w1 g cap, Fr [] w w0 → w1.ownsRow 0 3 1 (.slice (some ⟨g, 0, none⟩) (L.epochs.length + 1) cap) (L.epochs.length + 1) (Led.ints L.epochs ++ [.int .i64 L.newest]) → w0.grownBy w1 ve.ownBlock → (ve.ownBlock = some g ∨ g = w0.heap.size) →
      Goes w b (L.next 1) (b :: (obl ve ++ obl vs)) (w1.setCell ⟨b, 0, none⟩ (.slice (some ⟨g, 0, none⟩) (L.epochs.length + 1) cap)) := fun _ _ _ _ h1 h2 h3 h4 => does1_fin hb he hs h7 h1 h2 h3 h4
  have HFIN := Lib.hid hfin; clear hfin
  have f1 : ∀ w1, (w.alloc (.cells #[.int .i64 L.newest] 3)).drew.grownBy w1 ve.ownBlock → w1.cell? ⟨b, 0, none⟩ = some ve ∧ w1.frozen? ⟨b, 0, none⟩ = false := by
    intro w1 hg
    have hb1 : w1.heap[b]? = _ := ((((Fr.refl [] w).alloc _).drew.of_append hg (G := obl ve) (by simp) (fun i h _ => h)).block b hlt (fun h => own_not he hb (by decide) (mem_obl.1 h))).trans hb
    exact ⟨cell_of_row w1 b 0 _ 27 (0, 0) hb1, frozen_of_blk hb1 0⟩
  have F1 := Lib.hid f1; clear f1
  have HE := Lib.hid he; clear he
  clear hs hb
  go_enter Try.func54, Try.ntmps54
  go_wp2
  go_region_law (refine step_append_lies _ rfl (.tmp 6) (.tmp 11) 22 rfl 0 3 i0 (.int .i64 0) 1 8 Try.underlying22 hi hz0 hz1 hz2 rfl (by decide) ve L.epochs.length (Led.ints L.epochs) (by simp [Act.eval, Act.put]) (HE.out.alloc _) ⟨w.heap.size, 0, none⟩ 1 1 [.int .i64 L.newest] (by simp [Act.eval, Act.put]) rfl (by intro j u hj; match j, hj with | 0, hj => simp at hj; subst hj; simp [Addr.add]) (by simp [Value.oneCell']) (by decide) (by unfold maxLen; omega) (by omega) (by omega) _ rfl ?_; intro g cap w1 hown hgrow hat hlt1; obtain ⟨k0, k1⟩ := F1.out w1 hgrow; have HG := Lib.hid hgrow; clear hgrow; have HA := Lib.hid hat; clear hat; have HO := Lib.hid hown; clear hown)
  all_goals
    go_end0
    exact ⟨rfl, HFIN.out _ _ _ _ (((Fr.refl [] w).alloc _).drew) HO.out HG.out HA.out⟩

theorem Goes.set1 {w : World} {b : Nat} {L : Led} {ve vs : Value} (hb : w.heap[b]? = some (.cells #[ve, .int .i64 L.got, .int .i64 L.newest, vs] 27 (0, 0))) (he : w.ownsRow 0 3 1 ve L.epochs.length (Led.ints L.epochs))
    (hs : w.ownsRow 0 71 3 vs L.seen.length (Led.seenCells L.seen)) {L1 : Led} (i : Nat) (u : Value) (h1 : L1.epochs = L.epochs) (h2 : L1.seen = L.seen)
    (h3 : #[ve, .int .i64 L.got, .int .i64 L.newest, vs].setIfInBounds i u = #[ve, .int .i64 L1.got, .int .i64 L1.newest, vs]) :
    Goes w b L1 (b :: (obl ve ++ obl vs)) (w.setCell ⟨b, i, none⟩ u) := by
  refine ⟨_, ⟨ve, vs, ?_, ?_, ?_, rfl⟩, (Fr.refl _ w).set_ _ (fun _ => by simp), fun k hk => .inl hk⟩
  · rw [heap_set hb i u, h3]
  · rw [h1]
    exact own_set he (own_not he hb (by decide)) _
  · rw [h2]
    exact own_set hs (own_not hs hb (by decide)) _

set_option maxHeartbeats 400000 in
theorem does2 {w : World} {b : Nat} {L : Led} {fs : List Nat} (h : LedAt w b L fs) (ok : L.Ok) (h7 : L.got < L.epochs.length) :
    Calls Try.prog 56 #[.pointer (some ⟨b, 0, none⟩)] w fun r w' => r = .returned (.tuple #[]) ∧ Goes w b (L.next 2) fs w' := by
  obtain ⟨ve, vs, hb, he, hs, rfl⟩ := h
  have c1 : w.cell? ⟨b, 1, none⟩ = some (.int .i64 L.got) := cell_of_row w b 1 _ 27 (0, 0) hb
  have f1 : w.frozen? ⟨b, 1, none⟩ = false := frozen_of_blk hb 1
  have h6 := ok.n6
  have hfin : Goes w b (L.next 2) (b :: (obl ve ++ obl vs)) (w.setCell ⟨b, 1, none⟩ (.int .i64 (L.got + 1))) := by
    have e : L.next 2 = { L with got := L.got + 1 } := by simp [Led.next, show ¬ L.epochs.length ≤ L.got by omega]
    rw [e]
    exact Goes.set1 hb he hs 1 _ rfl rfl (by simp)
  have HF := Lib.hid hfin; clear hfin hb he hs
  go_enter Try.func56, Try.ntmps56
  go_wp2
  go_end0
  exact ⟨rfl, HF.out⟩

set_option maxHeartbeats 400000 in
theorem does3 {w : World} {b : Nat} {L : Led} {fs : List Nat} (h : LedAt w b L fs) (h7 : L.newest < 6) :
    Calls Try.prog 58 #[.pointer (some ⟨b, 0, none⟩)] w fun r w' => r = .returned (.tuple #[]) ∧ Goes w b (L.next 3) fs w' := by
  obtain ⟨ve, vs, hb, he, hs, rfl⟩ := h
  have c1 : w.cell? ⟨b, 2, none⟩ = some (.int .i64 L.newest) := cell_of_row w b 2 _ 27 (0, 0) hb
  have f1 : w.frozen? ⟨b, 2, none⟩ = false := frozen_of_blk hb 2
  have hfin : Goes w b (L.next 3) (b :: (obl ve ++ obl vs)) (w.setCell ⟨b, 2, none⟩ (.int .i64 (L.newest + 1))) := by
    have e : L.next 3 = { L with newest := L.newest + 1 } := by simp [Led.next, show ¬ 6 ≤ L.newest by omega]
    rw [e]
    exact Goes.set1 hb he hs 2 _ rfl rfl (by simp)
  have HF := Lib.hid hfin; clear hfin hb he hs
  go_enter Try.func58, Try.ntmps58
  go_wp2
  go_end0
  exact ⟨rfl, HF.out⟩

theorem does4 (v : Value) (w : World) :
    Calls Try.prog 59 #[v] w fun r w' => r = .returned (.tuple #[]) ∧ w' = w := by
  go_enter Try.func59, Try.ntmps59
  go_wp2
  go_end0
  exact ⟨rfl, rfl⟩

set_option maxHeartbeats 400000 in
theorem oldest_any {w : World} {b : Nat} {L : Led} {fs : List Nat} (h : LedAt w b L fs) (ok : L.Ok) :
    Calls Try.prog 43 #[.pointer (some ⟨b, 0, none⟩)] w fun r w' => r = .returned (.int .i64 L.oldest) ∧ ∃ n, w' = w.drewN n := by
  obtain ⟨ve, vs, hb, he, hs, rfl⟩ := h
  have c1 : w.cell? ⟨b, 1, none⟩ = some (.int .i64 L.got) := cell_of_row w b 1 _ 27 (0, 0) hb
  have c0 : w.cell? ⟨b, 0, none⟩ = some ve := cell_of_row w b 0 _ 27 (0, 0) hb
  have h6 := ok.n6
  have hg := ok.got
  by_cases h0 : L.got = 0
  · have h0' : ((L.got : Int) == 0) = true := by simp [h0]
    have e : L.oldest = 0 := by simp [Led.oldest, h0]
    rw [e]
    clear hb he hs h0 e
    go_enter Try.func43, Try.ntmps43
    go_wp2
    go_ret
    exact ⟨rfl, 0, rfl⟩
  · have h0' : ((L.got : Int) == 0) = false := by simp [h0]
    obtain ⟨g, c, rfl, hc, hlt, hx⟩ := own_cell he (by omega)
    have hx' := hx (L.got - 1) (.int .i64 (L.epochs.getD (L.got - 1) 0)) (by simp [Led.ints, List.getD, show L.got - 1 < L.epochs.length by omega])
    have e : (L.oldest : Int) = L.epochs.getD (L.got - 1) 0 := by simp [Led.oldest, h0]
    rw [e]
    have e1 : ((L.got : Int) - 1).toNat = L.got - 1 := by omega
    have e2 : (0 : Int) ≤ (L.got : Int) - 1 := by omega
    have e3 : (L.got : Int) - 1 < L.epochs.length := by omega
    clear hb he hs h0 e hx
    go_enter Try.func43, Try.ntmps43
    go_wp2
    go_quiet (fail)
    go_wp2
    go_ret
    exact ⟨rfl, _, rfl⟩

end Go.Proofs.Ytffgechbmhgndaa
