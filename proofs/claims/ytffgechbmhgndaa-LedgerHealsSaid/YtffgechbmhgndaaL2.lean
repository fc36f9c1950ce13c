/- What each call of package ledger does: the look at the receiver, and Do. -/
import Derived.Test.YtffgechbmhgndaaL1
set_option linter.unusedVariables false
set_option linter.unusedSimpArgs false
namespace Go.Proofs.Ytffgechbmhgndaa
open Go.RowKit

theorem does5_fin {w : World} {b : Nat} {L : Led} {ve vs : Value} (hb : w.heap[b]? = some (.cells #[ve, .int .i64 L.got, .int .i64 L.newest, vs] 27 (0, 0))) (he : w.ownsRow 0 3 1 ve L.epochs.length (Led.ints L.epochs))
    (hs : w.ownsRow 0 71 3 vs L.seen.length (Led.seenCells L.seen)) {w0 w1 : World} {g cap : Nat} (hw0 : Fr [] w w0) (ho : w1.ownsRow 0 71 3 (.slice (some ⟨g, 0, none⟩) (L.seen.length + 1) cap) (L.seen.length + 1) (Led.seenCells L.seen ++ [.int .i64 L.got, .int .i64 L.oldest, .int .i64 L.newest]))
    (hg : w0.grownBy w1 vs.ownBlock) (ha : vs.ownBlock = some g ∨ g = w0.heap.size) :
    Goes w b (L.next 5) (b :: (obl ve ++ obl vs)) (w1.setCell ⟨b, 3, none⟩ (.slice (some ⟨g, 0, none⟩) (L.seen.length + 1) cap)) := by
  have hf : Fr (obl vs) w w1 := hw0.of_append hg (by simp) (fun i h _ => h)
  have hne : b ∉ obl vs := fun h => own_not hs hb (by decide) (mem_obl.1 h)
  have hb1 : w1.heap[b]? = some (.cells #[ve, .int .i64 L.got, .int .i64 L.newest, vs] 27 (0, 0)) := (hf.block b (heap_lt hb) hne).trans hb
  have he1 : w1.ownsRow 0 3 1 ve L.epochs.length (Led.ints L.epochs) := own_keep he fun k hk => hf.block k (own_obl_lt he hk) fun hk' => own_types_ne hs he (by decide) hk' hk
  have e : L.next 5 = { L with seen := L.seen ++ [(L.got, L.oldest, L.newest)] } := by simp [Led.next]
  refine ⟨b :: (obl ve ++ obl (.slice (some ⟨g, 0, none⟩) (L.seen.length + 1) cap)), ?_, ?_, ?_⟩
  · rw [e]
    refine ⟨ve, _, heap_set hb1 3 _, ?_, ?_, rfl⟩
    · exact own_set he1 (own_not he1 hb1 (by decide)) _
    · have := own_set ho (p := ⟨b, 3, none⟩) (own_not ho hb1 (by decide)) (.slice (some ⟨g, 0, none⟩) (L.seen.length + 1) cap)
      simpa [Led.seenCells] using this
  · exact (hf.mono (fun i h _ => by simp [h])).set_ _ (fun _ => by simp)
  · intro k hk
    simp only [List.mem_cons, List.mem_append] at hk
    rcases hk with rfl | hk | hk
    · exact .inl (by simp)
    · exact .inl (by simp [hk])
    · have : k = g := by simpa [obl, Value.ownBlock] using hk
      subst this
      rcases ha with ha | ha
      · exact .inl (by simp [mem_obl, ha])
      · exact .inr (ha ▸ hw0.size)

set_option maxHeartbeats 1000000 in
theorem does5 {w : World} {b : Nat} {L : Led} {fs : List Nat} (h : LedAt w b L fs) (ok : L.Ok) :
    Calls Try.prog 60 #[.pointer (some ⟨b, 0, none⟩)] w fun r w' => r = .returned (.tuple #[]) ∧ Goes w b (L.next 5) fs w' := by
  have HOLD := Lib.hid (fun n => oldest_any (w := w.drewN n) (L := L) (h.keep (fun _ _ => rfl)) ok)
  obtain ⟨ve, vs, hb, he, hs, rfl⟩ := h
  obtain ⟨i0, hi, hz0, hz1, hz2⟩ := info_parts info71
  have hsl := ok.seen
  have c3 : w.cell? ⟨b, 3, none⟩ = some vs := cell_of_row w b 3 _ 27 (0, 0) hb
  have c1 : w.cell? ⟨b, 1, none⟩ = some (.int .i64 L.got) := cell_of_row w b 1 _ 27 (0, 0) hb
  have c2 : w.cell? ⟨b, 2, none⟩ = some (.int .i64 L.newest) := cell_of_row w b 2 _ 27 (0, 0) hb
  have hlt : b < w.heap.size := heap_lt hb
  have c3' : ∀ n o, ((w.drewN n).alloc o).cell? ⟨b, 3, none⟩ = some vs := fun n o => (((Fr.refl [] w).drewN n).alloc o).block b hlt (by simp) |> fun e => cell_of_row _ b 3 _ 27 (0, 0) (e.trans hb)
  have hfin : ∀ w0 w1 g cap, Fr [] w w0 → w1.ownsRow 0 71 3 (.slice (some ⟨g, 0, none⟩) (L.seen.length + 1) cap) (L.seen.length + 1) (Led.seenCells L.seen ++ [.int .i64 L.got, .int .i64 L.oldest, .int .i64 L.newest]) → w0.grownBy w1 vs.ownBlock → (vs.ownBlock = some g ∨ g = w0.heap.size) →
      Goes w b (L.next 5) (b :: (obl ve ++ obl vs)) (w1.setCell ⟨b, 3, none⟩ (.slice (some ⟨g, 0, none⟩) (L.seen.length + 1) cap)) := fun _ _ _ _ h1 h2 h3 h4 => does5_fin hb he hs h1 h2 h3 h4
  have HFIN := Lib.hid hfin; clear hfin
  have f1 : ∀ w0 w1, Fr [] w w0 → w0.grownBy w1 vs.ownBlock → w1.cell? ⟨b, 3, none⟩ = some vs ∧ w1.frozen? ⟨b, 3, none⟩ = false := by
    intro w0 w1 h0 hg
    have hb1 : w1.heap[b]? = _ := ((h0.of_append hg (G := obl vs) (by simp) (fun i h _ => h)).block b hlt (fun h => own_not hs hb (by decide) (mem_obl.1 h))).trans hb
    exact ⟨cell_of_row w1 b 3 _ 27 (0, 0) hb1, frozen_of_blk hb1 3⟩
  have F1 := Lib.hid f1; clear f1
  have HS := Lib.hid hs; clear hs
  clear he hb ok
  go_enter Try.func60, Try.ntmps60
  go_wp2
  go_region_law (first | (refine step_append_lies _ rfl (.tmp 6) (.tmp 18) 25 rfl 0 71 i0 _ 3 24 Try.underlying25 hi hz0 hz1 hz2 rfl (by decide) vs L.seen.length (Led.seenCells L.seen) (by simp [Act.eval, Act.put]) (own_keep (HS.out.alloc _) (fun _ _ => rfl)) ⟨w.heap.size, 0, none⟩ 1 1 [.int .i64 L.got, .int .i64 L.oldest, .int .i64 L.newest] (by simp [Act.eval, Act.put]) rfl (by exact World.news_of_block (heap_alloc_new _ _)) (by simp [Value.oneCell']) (by decide) (by unfold maxLen; omega) (by omega) (by omega) _ rfl ?_; intro g cap w1 hown hgrow hat hlt1; obtain ⟨k0, k1⟩ := F1.out _ w1 (((Fr.refl [] w).drewN _).alloc _) hgrow; have HG := Lib.hid hgrow; clear hgrow; have HA := Lib.hid hat; clear hat; have HO := Lib.hid hown; clear hown) | (go_simp; go_at_call 43; refine (HOLD.out _).mono ?_; rintro e w1 ⟨rfl, nn, rfl⟩))
  all_goals
    go_end0
    exact ⟨rfl, HFIN.out _ _ _ _ (((Fr.refl [] w).drewN _).alloc _) HO.out HG.out HA.out⟩

end Go.Proofs.Ytffgechbmhgndaa
