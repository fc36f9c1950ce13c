/- doc: a list of terms as the reference's. -/
import Derived.Test.YtffgechbmhgndaaR2
import Derived.Test.YtffgechbmhgndaaT3
import Derived.Deep.RegionLaw
set_option linter.unusedVariables false
set_option linter.unusedSimpArgs false
namespace Go.Proofs.Ytffgechbmhgndaa
open Go.RowKit

theorem info61 : (Try.prog.info? 61).map (fun i => (i.zero, i.size, i.bytes)) = some (some (.agg #[.int .i64 0, .int .i64 0, .int .i64 0]), 3, 24) := by kernel_rfl

theorem tmCells_next {l : List Tm} {k : Nat} (hk : k < l.length) : tmCells (l.take (k + 1)) = tmCells (l.take k) ++ [.int .i64 (Ts.tm l k).op, .int .i64 (Ts.tm l k).a, .int .i64 (Ts.tm l k).b] := by
  have e : Ts.tm l k = l[k] := by simp [Ts.tm, List.getD, hk]
  rw [List.take_succ_eq_append_getElem hk, e]
  simp only [tmCells, List.flatMap_append, List.flatMap_cons, List.flatMap_nil, List.append_nil]

theorem grown_below {w wr w0 w2 : World} {e : TypeId} {size n : Nat} {v : Value} {xs : List Value} (ho : wr.ownsRow w.heap.size e size v n xs) (hb : Below w.heap.size w wr) (h0 : Fr [] wr w0) (hg : w0.grownBy w2 v.ownBlock) : Below w.heap.size w w2 := by
  have hf : Fr (obl v) wr w2 := h0.of_append hg (by simp) (fun i h _ => h)
  exact (Fr.trans (H := []) (Fr.of_below hb []) hf (by simp) (fun k hk hlt => by
    have hge : w.heap.size ≤ k := by
      rcases ho.2 with ⟨rfl, _⟩ | ⟨g', cap', cur, rfl, hb', _⟩
      · simp [obl, Value.ownBlock] at hk
      · simp [obl, Value.ownBlock] at hk; omega
    omega)).below

set_option maxRecDepth 100000 in
set_option maxHeartbeats 4000000 in
theorem doc_any (v : Value) (l : List Tm) (w : World) (hv : TermsAt w v l) (hn : l.length * 24 ≤ 140737488355328) :
    Calls Try.prog 19 #[v] w fun r w' => (∃ u, r = .returned u ∧ TermsAt w' u l) ∧ Below w.heap.size w w' := by
  have HV := Lib.hid hv
  obtain ⟨A, c, rfl, hc, hm⟩ := RowsAt.form hv
  obtain ⟨i0, hi0, hz0, hz1, hz2⟩ := info_parts info61
  clear hv
  go_enter Try.func19, Try.ntmps19
  go_wp2
  go_loopw [3, 4] (fun vo i' wr => ∃ k : Nat, k ≤ l.length ∧ i' = .int .i64 k ∧ Below w.heap.size w wr ∧ wr.ownsRow w.heap.size 61 3 vo k (tmCells (l.take k))) (fun _ i' _ => l.length - (intOf i').toNat)
  case atStart => exact ⟨0, Nat.zero_le _, rfl, Below.refl _ _, by simp [tmCells], .inl ⟨rfl, rfl⟩⟩
  case round =>
    obtain ⟨k, hk, rfl, hb, ho⟩ := hrel
    have HO := Lib.hid ho; clear ho
    have hsz := hb.size
    have HB := Lib.hid hb
    by_cases hlt : k < l.length
    · obtain ⟨g, off, rfl, hg, x1, x2, x3⟩ := (HV.out.below hb).at k hlt
      have HN := Lib.hid (tmCells_next hlt)
      generalize Ts.tm l k = t at *
      clear hb
      go_wp2
      go_region_law (refine step_append_lies _ rfl (.tmp 11) (.tmp 28) 40 rfl w.heap.size 61 i0 (.agg #[.int .i64 0, .int .i64 0, .int .i64 0]) 3 24 Try.underlying40 hi0 hz0 hz1 hz2 rfl (by decide) u3 k (tmCells (l.take k)) (by simp [Act.eval, Act.put]) (HO.out.alloc _) ⟨wr.heap.size, 0, none⟩ 1 1 [.int .i64 t.op, .int .i64 t.a, .int .i64 t.b] (by simp [Act.eval, Act.put]) rfl (World.news_of_block (heap_alloc_new wr _)) (by simp [Value.oneCell']) (by decide) (by unfold maxLen; omega) (by omega) (by simp; omega) _ rfl ?_; intro g1 cap1 w1 hown hgrow hat hlt1)
      all_goals
        have HW := Lib.hid (grown_below HO.out HB.out (((Fr.refl [] wr).alloc _).drew) hgrow)
        have HX := Lib.hid (show w1.ownsRow w.heap.size 61 3 (.slice (some ⟨g1, 0, none⟩) (k + 1) cap1) (k + 1) (tmCells (l.take (k + 1))) by rw [HN.out]; exact hown)
        clear hown hgrow hat
        go_wp2
        go_roundw
        case rel => exact ⟨k + 1, hlt, by go_num, HW.out, HX.out⟩
        case measure => simp [intOf]; omega
    · have HX := Lib.hid (show TermsAt wr _ l from by have h := RowsAt.of_own HO.out; rw [show k = l.length by omega, List.take_length] at h; exact h)
      go_wp2
      go_ret
      exact ⟨⟨_, rfl, HX.out⟩, hb⟩

end Go.Proofs.Ytffgechbmhgndaa
