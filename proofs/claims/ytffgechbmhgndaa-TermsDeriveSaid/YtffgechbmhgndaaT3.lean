/- A set of package terms in memory: add, publicOf. -/
import Derived.Test.YtffgechbmhgndaaT1
set_option linter.unusedVariables false
set_option linter.unusedSimpArgs false
namespace Go.Proofs.Ytffgechbmhgndaa
open Go.RowKit

def natsV (l : List Nat) : List Value := l.map fun (x : Nat) => .int .i64 x
theorem natsV_length (l : List Nat) : (natsV l).length = l.length := by simp [natsV]

/-- A set of the call's own, made since 'w': its block 'b', its list 'vl', what it holds. -/
def SOwn (w : World) (b : Nat) (vl : Value) (s : Ts.St) (w' : World) : Prop :=
  ∃ vi vo, w'.heap[b]? = some (.cells #[vl, vi, vo] 80 (0, 0)) ∧ w'.ownsRow w.heap.size 4 1 vi s.inn.length (bools s.inn) ∧ w'.ownsRow w.heap.size 3 1 vo s.order.length (natsV s.order) ∧ Below w.heap.size w w' ∧ w.heap.size ≤ b
theorem SOwn.below {w w1 : World} {b : Nat} {vl : Value} {s : Ts.St} (h : SOwn w b vl s w1) : Below w.heap.size w w1 := by obtain ⟨_, _, _, _, _, h, _⟩ := h; exact h
theorem SOwn.later {w w1 w2 : World} {b : Nat} {vl : Value} {s : Ts.St} (h : SOwn w b vl s w1) (hb : Below w1.heap.size w1 w2) : SOwn w b vl s w2 := by
  obtain ⟨vi, vo, h1, h2, h3, h4, h5⟩ := h
  exact ⟨vi, vo, (hb.block b (heap_lt h1)).trans h1, own_keep h2 fun k hk => hb.block k (own_obl_lt h2 hk), own_keep h3 fun k hk => hb.block k (own_obl_lt h3 hk), h4.trans (hb.mono h4.size), h5⟩

theorem bool_cell {w : World} {base n g c m : Nat} {l : List Bool} (h : w.ownsRow base 4 1 (.slice (some ⟨g, 0, none⟩) m c) n (bools l)) (hn : n = l.length) (i : Nat) (hi : i < l.length) : w.cell? ⟨g, i, none⟩ = some (.bool (l.getD i false)) := by
  obtain ⟨g', c', he, _, _, hx⟩ := own_cell h (by omega)
  simp only [Value.slice.injEq, Option.some.injEq, Addr.mk.injEq] at he
  obtain ⟨⟨rfl, _⟩, _⟩ := he
  rw [hx i _ (bools_get l i hi)]
  simp [List.getD, hi]
theorem own_some {w : World} {base : Nat} {e : TypeId} {n : Nat} {v : Value} {xs : List Value} (h : w.ownsRow base e 1 v n xs) (hn : 0 < n) : ∃ g c, v = .slice (some ⟨g, 0, none⟩) n c ∧ n ≤ c ∧ base ≤ g ∧ ∃ cur, w.heap[g]? = some (.cells cur e (0, 0)) ∧ n ≤ cur.size := by
  rcases h.2 with ⟨_, rfl⟩ | ⟨g, cap, cur, rfl, hb, hg, hc, _, hs, _⟩
  · omega
  · exact ⟨g, cap, rfl, hc, hb, cur, hg, by omega⟩
/-- A store into an own row. -/
theorem own_store {w : World} {base g n c : Nat} {e : TypeId} {xs : List Value} (h : w.ownsRow base e 1 (.slice (some ⟨g, 0, none⟩) n c) n xs) (i : Nat) (u : Value) : (w.setCell ⟨g, i, none⟩ u).ownsRow base e 1 (.slice (some ⟨g, 0, none⟩) n c) n (xs.set i u) := by
  obtain ⟨hl, h2⟩ := h
  refine ⟨by simpa using hl, .inr ?_⟩
  rcases h2 with ⟨h0, _⟩ | ⟨g', cap, cur, he, hb, hg, hc, hm, hs, ht⟩
  · cases h0
  · simp only [Value.slice.injEq, Option.some.injEq, Addr.mk.injEq] at he
    obtain ⟨⟨rfl, _⟩, _, rfl⟩ := he
    refine ⟨g, c, cur.setIfInBounds i u, rfl, hb, heap_set hg i u, hc, hm, by simpa using hs, ?_⟩
    rw [Array.toList_setIfInBounds, List.take_set, ht]

theorem add_fin1 {w w1 : World} {b g n c : Nat} {vl vo : Value} {s : Ts.St} (hb : w1.heap[b]? = some (.cells #[vl, .slice (some ⟨g, 0, none⟩) n c, vo] 80 (0, 0))) (hi : w1.ownsRow w.heap.size 4 1 (.slice (some ⟨g, 0, none⟩) n c) n (bools s.inn)) (hn : n = s.inn.length)
    (ho : w1.ownsRow w.heap.size 3 1 vo s.order.length (natsV s.order)) (hw : Below w.heap.size w w1) (hwb : w.heap.size ≤ b) (i : Nat) :
    (w1.setCell ⟨g, i, none⟩ (.bool true)).heap[b]? = some (.cells #[vl, .slice (some ⟨g, 0, none⟩) n c, vo] 80 (0, 0)) ∧ (w1.setCell ⟨g, i, none⟩ (.bool true)).ownsRow w.heap.size 4 1 (.slice (some ⟨g, 0, none⟩) n c) (s.inn.set i true).length (bools (s.inn.set i true)) ∧
    (w1.setCell ⟨g, i, none⟩ (.bool true)).ownsRow w.heap.size 3 1 vo s.order.length (natsV s.order) ∧ Below w.heap.size w (w1.setCell ⟨g, i, none⟩ (.bool true)) := by
  subst hn
  have hg : w.heap.size ≤ g := by
    rcases hi.2 with ⟨h0, _⟩ | ⟨g', cap, cur, he, hb, _⟩
    · cases h0
    · simp only [Value.slice.injEq, Option.some.injEq, Addr.mk.injEq] at he; omega
  refine ⟨?_, ?_, ?_, hw.setCell hg _⟩
  · refine (Below.heap_setCell _ _ _ _ ?_).trans hb
    rintro rfl
    exact own_not hi hb (by decide) rfl
  · have := own_store hi i (.bool true)
    rw [List.length_set]
    simpa [bools, List.map_set] using this
  · refine own_set ho ?_ _
    intro hk
    exact own_types_ne hi ho (by decide) (k := g) (by simp [obl, Value.ownBlock]) (mem_obl.2 hk)

theorem add_fin2 {w w1 w2 : World} {b i : Nat} {vl : Value} {s : Ts.St} {vi vo : Value} (hb : w1.heap[b]? = some (.cells #[vl, vi, vo] 80 (0, 0))) (hi : w1.ownsRow w.heap.size 4 1 vi s.inn.length (bools s.inn))
    (ho : w1.ownsRow w.heap.size 3 1 vo s.order.length (natsV s.order)) (hw : Below w.heap.size w w1) (hwb : w.heap.size ≤ b) {w0 : World} {g cap : Nat} (h0 : Fr [] w1 w0)
    (hown : w2.ownsRow w.heap.size 3 1 (.slice (some ⟨g, 0, none⟩) (s.order.length + 1) cap) (s.order.length + 1) (natsV s.order ++ [.int .i64 i])) (hg : w0.grownBy w2 vo.ownBlock) :
    SOwn w b vl ⟨s.inn, s.order ++ [i]⟩ (w2.setCell ⟨b, 2, none⟩ (.slice (some ⟨g, 0, none⟩) (s.order.length + 1) cap)) ∧ w2.heap[b]? = some (.cells #[vl, vi, vo] 80 (0, 0)) := by
  have hf : Fr (obl vo) w1 w2 := h0.of_append hg (by simp) (fun i h _ => h)
  have hb2 : w2.heap[b]? = some (.cells #[vl, vi, vo] 80 (0, 0)) := (hf.block b (heap_lt hb) (fun h => own_not ho hb (by decide) (mem_obl.1 h))).trans hb
  have hi2 := own_keep hi fun k hk => hf.block k (own_obl_lt hi hk) fun hk' => own_types_ne ho hi (by decide) hk' hk
  have hw2 : Below w.heap.size w w2 := (Fr.trans (H := []) (Fr.of_below hw []) hf (by simp) (fun k hk hlt => by
    have hge : w.heap.size ≤ k := by
      rcases ho.2 with ⟨rfl, _⟩ | ⟨g', cap', cur, rfl, hb', _⟩
      · simp [obl, Value.ownBlock] at hk
      · simp [obl, Value.ownBlock] at hk; omega
    omega)).below
  refine ⟨⟨vi, _, heap_set hb2 2 _, own_set hi2 (own_not hi2 hb2 (by decide)) _, ?_, hw2.setCell hwb _, hwb⟩, hb2⟩
  have := own_set hown (p := ⟨b, 2, none⟩) (own_not hown hb2 (by decide)) (.slice (some ⟨g, 0, none⟩) (s.order.length + 1) cap)
  simpa [natsV] using this

theorem info3 : (Try.prog.info? 3).map (fun i => (i.zero, i.size, i.bytes)) = some (some (.int .i64 0), 1, 8) := by kernel_rfl

set_option maxRecDepth 100000 in
set_option maxHeartbeats 1000000 in
theorem add_kept {w w0 w1 : World} {b : Nat} {vl : Value} {s : Ts.St} (hold : SOwn w b vl s w0) (hlat : Below w0.heap.size w0 w1) (i : Nat) (hi : i < s.inn.length) (hlen : s.order.length ≤ 10000) :
    Calls Try.prog 63 #[.pointer (some ⟨b, 0, none⟩), .int .i64 i] w1 fun r w' => r = .returned (.tuple #[]) ∧ SOwn w b vl (Ts.add s i) w' ∧ ∃ F, Fr F w1 w' ∧ ∀ k, k ∈ F → k < w0.heap.size := by
  have h0 := hold.later hlat
  obtain ⟨vi, vo, hb', hin', hor', hw', hwb⟩ := hold
  have hb : w1.heap[b]? = some (.cells #[vl, vi, vo] 80 (0, 0)) := (hlat.block b (heap_lt hb')).trans hb'
  have hin := own_keep hin' (w1 := w1) fun k hk => hlat.block k (own_obl_lt hin' hk)
  have hor := own_keep hor' (w1 := w1) fun k hk => hlat.block k (own_obl_lt hor' hk)
  have hw := hw'.trans (hlat.mono hw'.size)
  have hF0 : ∀ g n c, vi = .slice (some ⟨g, 0, none⟩) n c → ∀ k, k ∈ (g :: b :: obl vo) → k < w0.heap.size := by
    rintro g n c rfl k hk
    simp only [List.mem_cons] at hk
    rcases hk with rfl | rfl | hk
    · exact own_obl_lt hin' (by simp [obl, Value.ownBlock])
    · exact heap_lt hb'
    · exact own_obl_lt hor' hk
  clear hin' hor' hb' hw' hlat
  obtain ⟨g, c, rfl, hc, hg, cur, hcur, hcs⟩ := own_some hin (by omega)
  have hm : s.inn.length ≤ 9223372036854775807 := by
    rcases hin.2 with ⟨h0, _⟩ | ⟨_, _, _, _, _, _, h1, h2, _⟩
    · cases h0
    · unfold maxLen at h2; omega
  have c1 : w1.cell? ⟨b, 1, none⟩ = some (.slice (some ⟨g, 0, none⟩) s.inn.length c) := cell_of_row w1 b 1 _ 80 (0, 0) hb
  have ci : w1.cell? ⟨g, i, none⟩ = some (.bool (s.inn.getD i false)) := bool_cell hin rfl i hi
  have hlt : b < w1.heap.size := heap_lt hb
  have hglt : g < w1.heap.size := heap_lt hcur
  by_cases hs : s.inn.getD i false = true
  · rw [hs] at ci
    have HF := Lib.hid (show SOwn w b vl (Ts.add s i) w1 by rw [Ts.add_of hs]; exact h0)
    clear hb hin hor hs h0 hcur hF0
    go_enter Try.func63, Try.ntmps63
    go_wp2
    go_end0
    exact ⟨rfl, HF.out, [], Fr.refl _ _, by simp⟩
  · have hs' : s.inn.getD i false = false := by simpa using hs
    rw [hs'] at ci
    obtain ⟨i0, hi0, hz0, hz1, hz2⟩ := info_parts info3
    have e : Ts.add s i = ⟨s.inn.set i true, s.order ++ [i]⟩ := by unfold Ts.add; rw [if_neg hs]
    obtain ⟨hb2, hin2, hor2, hbw2⟩ := add_fin1 (s := s) hb hin rfl hor hw hwb i
    have fi : w1.frozen? ⟨g, i, none⟩ = false := frozen_of_blk hcur i
    have HF0 := Lib.hid (hF0 _ _ _ rfl)
    rw [e]
    clear e hs hs' h0 hin hor hb hF0
    have c2 : (w1.setCell ⟨g, i, none⟩ (.bool true)).cell? ⟨b, 2, none⟩ = some vo := cell_of_row _ b 2 _ 80 (0, 0) hb2
    have hsz2 : w.heap.size ≤ w1.heap.size := hw.size
    have hfin : ∀ w0 w3 g' cap, Fr [] (w1.setCell ⟨g, i, none⟩ (.bool true)) w0 → w3.ownsRow w.heap.size 3 1 (.slice (some ⟨g', 0, none⟩) (s.order.length + 1) cap) (s.order.length + 1) (natsV s.order ++ [.int .i64 i]) → w0.grownBy w3 vo.ownBlock →
        (SOwn w b vl ⟨s.inn.set i true, s.order ++ [i]⟩ (w3.setCell ⟨b, 2, none⟩ (.slice (some ⟨g', 0, none⟩) (s.order.length + 1) cap)) ∧ Fr (g :: b :: obl vo) w1 (w3.setCell ⟨b, 2, none⟩ (.slice (some ⟨g', 0, none⟩) (s.order.length + 1) cap))) ∧ w3.heap[b]? = some (.cells #[vl, .slice (some ⟨g, 0, none⟩) s.inn.length c, vo] 80 (0, 0)) := by
      intro w0 w3 g' cap h0 h1 h2
      obtain ⟨q1, q2⟩ := add_fin2 (s := ⟨s.inn.set i true, s.order⟩) hb2 hin2 hor2 hbw2 hwb h0 h1 h2
      refine ⟨⟨q1, ?_⟩, q2⟩
      have f1 : Fr [g] w1 (w1.setCell ⟨g, i, none⟩ (.bool true)) := (Fr.refl _ _).set_ _ (by simp)
      have f2 : Fr (obl vo) (w1.setCell ⟨g, i, none⟩ (.bool true)) w3 := h0.of_append h2 (by simp) (fun i h _ => h)
      exact (f1.trans f2 (H := g :: b :: obl vo) (by simp) (fun k hk _ => by simp [hk])).set_ _ (by simp)
    have HFIN := Lib.hid hfin; clear hfin
    have HO := Lib.hid hor2; clear hor2 hin2 hb2 hbw2 hcur
    go_enter Try.func63, Try.ntmps63
    go_wp2_with (at_builtin; refine wpList_append_lies _ rfl (.tmp 22) (.tmp 24) 22 rfl w.heap.size 3 i0 (.int .i64 0) 1 8 Try.underlying22 hi0 hz0 hz1 hz2 rfl (by decide) vo s.order.length (natsV s.order) rfl (HO.out.alloc _) ⟨w1.heap.size, 0, none⟩ 1 1 [.int .i64 i] rfl rfl (World.news_of_block (by simpa using heap_alloc_new (w1.setCell ⟨g, i, none⟩ (.bool true)) _)) (by simp [Value.oneCell']) (by decide) (by unfold maxLen; omega) (by omega) (by simp; omega) _ rfl ?_; intro g1 cap1 w3 hown hgrow hat hlt3; obtain ⟨q1, q2⟩ := HFIN.out _ w3 g1 cap1 ((Fr.refl [] _).alloc _) hown hgrow; have Q1 := Lib.hid q1; clear q1 hown hgrow hat; have k0 : w3.cell? ⟨b, 2, none⟩ = some vo := cell_of_row w3 b 2 _ 80 (0, 0) q2; have k1 : w3.frozen? ⟨b, 2, none⟩ = false := frozen_of_blk q2 2; clear q2)
    go_end0
    exact ⟨rfl, Q1.out.1, _, Q1.out.2, HF0.out⟩

theorem add_any {w w1 : World} {b : Nat} {vl : Value} {s : Ts.St} (h : SOwn w b vl s w1) (i : Nat) (hi : i < s.inn.length) (hlen : s.order.length ≤ 10000) :
    Calls Try.prog 63 #[.pointer (some ⟨b, 0, none⟩), .int .i64 i] w1 fun r w' => r = .returned (.tuple #[]) ∧ SOwn w b vl (Ts.add s i) w' :=
  (add_kept h (Below.refl _ _) i hi hlen).mono fun _ _ ⟨h1, h2, _⟩ => ⟨h1, h2⟩

end Go.Proofs.Ytffgechbmhgndaa
