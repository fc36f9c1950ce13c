/- A free lock; a pair. -/
import Derived.Test.YtdmioipdmdmkhaaDoorF7
import Derived.Test.YtdmioipdmdmkhaaDoorH5
import Derived.RegionTactic
import Derived.RegionCalls
import Derived.Tactics2
import Derived.Laws.Pointers
set_option linter.unusedVariables false
set_option linter.unusedSectionVars false
set_option linter.unusedSimpArgs false
namespace Go.Proofs.YtdmioipdmdmkhaaDoor
open Go.RowKit
theorem race_disable (w : World) : (callFunc 77 #[]).run Tryd.prog w = .ok (.value (.tuple #[])) w := run_call_mark0 Tryd.func77 (by kernel_rfl) (by kernel_rfl) (by kernel_rfl) .disable (by kernel_rfl) w
theorem race_enable (w : World) : (callFunc 79 #[]).run Tryd.prog w = .ok (.value (.tuple #[])) w := run_call_mark0 Tryd.func79 (by kernel_rfl) (by kernel_rfl) (by kernel_rfl) .enable (by kernel_rfl) w
theorem race_acquire (a : Addr) (w : World) : (callFunc 80 #[.pointer (some a)]).run Tryd.prog w = .ok (.value (.tuple #[])) w := run_call_marked Tryd.func80 (by kernel_rfl) (by kernel_rfl) (by kernel_rfl) .acquire (by kernel_rfl) a w
theorem race_merge (a : Addr) (w : World) : (callFunc 82 #[.pointer (some a)]).run Tryd.prog w = .ok (.value (.tuple #[])) w := run_call_marked Tryd.func82 (by kernel_rfl) (by kernel_rfl) (by kernel_rfl) .releaseMerge (by kernel_rfl) a w
set_option maxRecDepth 100000 in
set_option maxHeartbeats 4000000 in
/-- Store(true) of an atomic Bool, entered as a deferred call. -/
theorem store_deferred (a : Addr) (x : Value) (u : FrameMode) (w : World) (hc : w.cell? a = some x) (hz : w.frozen? a = false) :
    CallsD Tryd.prog 72 #[.pointer (some a), .bool true] u w fun e u' w' => u' = u ∧ (e = .returned (.tuple #[]) ∧ w' = w.drew.setCell a (.int .u32 1)) := by
  have hc' : w.drew.cell? a = some x := by go_simp
  have hz' : w.drew.frozen? a = false := by go_simp
  have hst := run_call_store (P := Tryd.prog) Tryd.func75 (by kernel_rfl) (by kernel_rfl) (by kernel_rfl) (by kernel_rfl) (k := .u32) (y := 1) hc' hz'
  go_enter_d Tryd.func72, Tryd.ntmps72
  go_wp2
  go_region_calls
  all_goals (go_end0; exact ⟨rfl, rfl⟩)
set_option maxRecDepth 100000 in
set_option maxHeartbeats 4000000 in
/-- Unlock, entered as a deferred call, the lock held and nobody waiting. -/
theorem unlock_deferred (a : Addr) (u : FrameMode) (w : World) (hc : w.cell? a = some (.int .i32 1)) (hz : w.frozen? a = false) :
    CallsD Tryd.prog 71 #[.pointer (some a)] u w fun e u' w' => u' = u ∧ (e = .returned (.tuple #[]) ∧ w' = w.setCell a (.int .i32 0)) := by
  have hd := race_disable
  have he := race_enable
  have hr := race_merge
  have hadd := run_call_add (P := Tryd.prog) Tryd.func83 (by kernel_rfl) (by kernel_rfl) (by kernel_rfl) .i32 (by kernel_rfl) (y := -1) (s := 0) hc hz (by simp [go_sem]; rfl)
  have hcv := run_convert_to_unsafe (P := Tryd.prog) (src := 112) (dst := 116) Tryd.underlying112 Tryd.underlying116 (by kernel_rfl) hc
  go_enter_d Tryd.func71, Tryd.ntmps71
  go_wp2
  go_end0
  go_wp2
  all_goals (go_end0; exact ⟨rfl, rfl⟩)
set_option maxRecDepth 100000 in
set_option maxHeartbeats 4000000 in
/-- Lock, the lock free. -/
theorem lock_free (a : Addr) (w : World) (hc : w.cell? a = some (.int .i32 0)) (hz : w.frozen? a = false) :
    Calls Tryd.prog 70 #[.pointer (some a)] w fun e w' => e = .returned (.tuple #[]) ∧ w' = w.setCell a (.int .i32 1) := by
  have hd := race_disable
  have he := race_enable
  have ha := race_acquire
  have hcas := run_call_cas_hit (P := Tryd.prog) Tryd.func78 (by kernel_rfl) (by kernel_rfl) (by kernel_rfl) .i32 (by kernel_rfl) (y := 1) hc hz
  have hc' : (w.setCell a (.int .i32 1)).cell? a = some (.int .i32 1) := World.cell?_setCell_same w a _ hc
  have hcv := run_convert_to_unsafe (P := Tryd.prog) (src := 112) (dst := 116) Tryd.underlying112 Tryd.underlying116 (by kernel_rfl) hc'
  go_enter Tryd.func70, Tryd.ntmps70
  go_wp2
  first | go_end0 | (simp only [Exit.inBlock, Exit.then]; refine bodyPost_ret (results_none rfl _ _ _) rfl ?_) | refine bodyPost_ret (results_none rfl _ _ _) rfl ?_
  go_wp2
  all_goals (go_end0; exact ⟨rfl, rfl⟩)
theorem lock_row (b off : Nat) {C : Array Value} {t : TypeId} (w : World) (hb : w.heap[b]? = some (.cells C t (0, 0))) (hc : C[off]? = some (.int .i32 0)) :
    Calls Tryd.prog 70 #[.pointer (some ⟨b, off, none⟩)] w fun e w' => e = .returned (.tuple #[]) ∧ Kept [b] w w' ∧ w'.heap[b]? = some (.cells (C.setIfInBounds off (.int .i32 1)) t (0, 0)) :=
  (lock_free ⟨b, off, none⟩ w (by rw [cell_of_row w b off C t (0, 0) hb]; exact hc) (frozen_of_row w b off C t hb)).mono fun e w' ⟨h1, h2⟩ => by
    subst h2
    exact ⟨h1, ⟨rfl, rfl, rfl, by simp [World.setCell], fun k _ hk => heap_setCell_other _ _ _ _ (by simpa using hk)⟩, heap_setCell_same w b off C t _ hb⟩

set_option maxRecDepth 100000 in
set_option maxHeartbeats 4000000 in
theorem load_row (b off : Nat) (d : Int) {C : Array Value} {t : TypeId} (w : World) (hb : w.heap[b]? = some (.cells C t (0, 0))) (hc : C[off]? = some (.int .u32 d)) :
    Calls Tryd.prog 67 #[.pointer (some ⟨b, off, none⟩)] w fun e w' => e = .returned (.bool (d != 0)) ∧ Kept [] w w' := by
  have H := Hp.start1 [] hb
  refine C_enter Tryd.func67 rfl 8 Tryd.ntmps67 (Nat.le_of_ble_eq_true rfl) (fun a F => ?_)
  skip
  replace F : Fm 8 [] [(0, .pointer (some ⟨b, off, none⟩))] a := F.weak _ (⟨rfl, trivial⟩)
  refine C_seqK (fun K hK => ?_)
  refine C_region ?_
  refine T_val F H (by as_aux_lemma => kernel_rfl) (.bool false) (fun _ _ => by as_aux_lemma => kernel_rfl) ?_
  clear F; intro a F
  refine T_end (hK _ _ ?_)
  clear hK K
  refine C_seqK (fun K hK => ?_)
  refine C_region ?_
  refine T_val F H (by as_aux_lemma => kernel_rfl) (.pointer (some ⟨b, off, none⟩)) (fun _ _ => by as_aux_lemma => kernel_rfl) ?_
  clear F; intro a F
  refine T_val F H (by as_aux_lemma => kernel_rfl) (.pointer (some ⟨b, off, none⟩)) (fun _ _ => by as_aux_lemma => kernel_rfl) ?_
  clear F; intro a F
  refine T_val F H (by as_aux_lemma => kernel_rfl) (.pointer (some ⟨b, off, none⟩)) (fun _ _ => by as_aux_lemma => kernel_rfl) ?_
  clear F; intro a F
  refine T_val F H (by as_aux_lemma => kernel_rfl) (.int .u32 d) (fun w hL => R_call0 rfl (args := #[.pointer (some ⟨b, off, none⟩)]) (by as_aux_lemma => kernel_rfl) (run_call_load (P := Tryd.prog) Tryd.func69 (by as_aux_lemma => kernel_rfl) (by as_aux_lemma => kernel_rfl) (by as_aux_lemma => kernel_rfl) .u32 (by as_aux_lemma => kernel_rfl) (w := w) (a := ⟨b, off, none⟩) (x := d) (by rw [cell_of_row w b off C t (0, 0) (hL.at_ (k := 0) rfl)]; exact hc))) ?_
  clear F; intro a F
  refine T_val F H (by as_aux_lemma => kernel_rfl) (.bool (d != 0)) (fun w _ => R_bin (x := (.tmp 6)) (y := (.const (.int .u32 0))) rfl (k := .u32) (a := d) (b := 0) (by as_aux_lemma => kernel_rfl) (by as_aux_lemma => kernel_rfl) rfl w) ?_
  clear F; intro a F
  refine T_val F H (by as_aux_lemma => kernel_rfl) (.bool (d != 0)) (fun _ _ => by as_aux_lemma => kernel_rfl) ?_
  clear F; intro a F
  refine T_end (hK _ _ ?_)
  clear hK K
  refine wp_ret ?_
  exact C_ret F H (rs := [.tmp 2]) rfl (vs := [.bool (d != 0)]) (.tmp rfl .nil) (.bool (d != 0)) rfl ⟨rfl, H.kept⟩

def pairA (f q : Nat → Nat) (d l : Int) : Array Value := kArr f ++ kArr q ++ #[.int .u32 d, .int .i32 l, .int .u32 0]
theorem Four.kept {b : Nat} {w w1 : World} (h : Four w) (hb : b ≠ 0) (k : Kept [b] w w1) : Four w1 := by
  have h0 := k.block 0 h.pos (by simpa using fun e => hb e.symm)
  have e : ∀ i, w1.cell? ⟨0, i, none⟩ = w.cell? ⟨0, i, none⟩ := fun i => by unfold World.cell?; rw [h0]
  exact ⟨(e 0).trans h.1, (e 1).trans h.2.1, (e 2).trans h.2.2.1, (e 3).trans h.2.2.2.1, (e 4).trans h.2.2.2.2⟩
theorem pairA_lock (f q : Nat → Nat) : (pairA f q 0 0).setIfInBounds 65 (.int .i32 1) = pairA f q 0 1 := by kernel_rfl
theorem pairA_65 (f q : Nat → Nat) : (pairA f q 0 0)[65]? = some (.int .i32 0) := by kernel_rfl
theorem lock_pair {b : Nat} {f q : Nat → Nat} (w : World) (hg : w.heap[b]? = some (.cells (pairA f q 0 0) 99 (0, 0))) : Calls Tryd.prog 70 #[.pointer (some ⟨b, 65, none⟩)] w fun e w' => e = .returned (.tuple #[]) ∧ Kept [b] w w' ∧ w'.heap[b]? = some (.cells (pairA f q 0 1) 99 (0, 0)) := by
  have h := lock_row b 65 w hg (pairA_65 f q)
  rw [pairA_lock] at h
  exact h
theorem Hp.start2 {w : World} {b pl : Nat} {ob ol : Obj} (hb : w.heap[b]? = some ob) (hpl : w.heap[pl]? = some ol) (hne : b ≠ pl) : Hp [b] w [⟨true, b, ob⟩, ⟨false, pl, ol⟩] w := by
  refine ⟨Kept.refl _ _, fun p hp => ?_, fun p hp ho => ?_, ?_⟩
  · simp only [List.mem_cons, List.not_mem_nil, or_false] at hp
    rcases hp with rfl | rfl
    · exact hb
    · exact hpl
  · simp only [List.mem_cons, List.not_mem_nil, or_false] at hp
    rcases hp with rfl | rfl
    · exact .inr (by simp)
    · exact Bool.noConfusion ho
  · exact List.pairwise_cons.2 ⟨fun q hq => by simp only [List.mem_singleton] at hq; subst hq; exact hne, List.pairwise_singleton _ _⟩
set_option maxRecDepth 100000 in
set_option maxHeartbeats 4000000 in
theorem pub1_any (b pl : Nat) (hne : b ≠ pl) (hb4 : b ≠ 0) (f : Nat → Nat) (hf : ∀ b, b < 32 → f b < 256) (RA : Nat → Nat) (hRA : byteOf (sharedN f nineF) = RA) (q : Nat → Nat) (d l : Int) (w : World) (h4 : Four w) (hb : w.heap[b]? = some (.cells (pairA f q d l) 99 (0, 0))) (hpl : w.heap[pl]? = some (.cells #[.pointer (some ⟨b, 0, none⟩)] 61 (0, 0))) :
    Calls Tryd.prog 64 #[.pointer (some ⟨pl, 0, none⟩)] w fun e w' => e = .returned (.tuple #[]) ∧ Kept [b] w w' ∧ w'.heap[b]? = some (.cells (pairA f RA d l) 99 (0, 0)) := by
  have h4p := h4.pos
  have dr := fun w h => public_any f hf w h
  rw [hRA] at dr
  have H := Hp.start2 hb hpl hne
  refine C_enter Tryd.func64 rfl 9 Tryd.ntmps64 (Nat.le_of_ble_eq_true rfl) (fun a F => ?_)
  skip
  replace F : Fm 9 [] [(0, .pointer (some ⟨pl, 0, none⟩))] a := F.weak _ (⟨rfl, trivial⟩)
  refine D_region F H (fun β => [(1, .pointer (some ⟨b, 0, none⟩)), (2, .pointer (some ⟨b, 0, none⟩)), (3, .pointer (some ⟨b, 0, none⟩)), (4, .pointer (some ⟨b, 0, none⟩)), (5, .agg (kArr f)), (6, .agg (kArr RA)), (7, .pointer (some ⟨b, 0, none⟩)), (8, .pointer (some ⟨b, 32, none⟩))]) [1, 2, 3, 4, 5, 6, 7, 8] [] [⟨b, 8, .cells (pairA f q d l) 99 (0, 0), .cells (pairA f RA d l) 99 (0, 0)⟩] [⟨false, pl, .cells #[.pointer (some ⟨b, 0, none⟩)] 61 (0, 0)⟩] [0, 1] (by as_aux_lemma => kernel_rfl) (by as_aux_lemma => kernel_rfl) (by as_aux_lemma => kernel_rfl) (fun β => rfl) (fun fit => ⟨?_, ?_, ?_, ?_, ?_, ?_, ?_, ?_, ?_, trivial⟩) ?_
  · exact D_val 9 (fun β => by as_aux_lemma => kernel_rfl) (fun β => .pointer (some ⟨b, 0, none⟩)) 1 rfl (fun β => by as_aux_lemma => kernel_rfl) (fun β => R_cell (own := false) (g := pl) (all := #[.pointer (some ⟨b, 0, none⟩)]) (t := 61) (fr := (0, 0)) 0 (by as_aux_lemma => kernel_rfl) 61 (.tmp 0) rfl 0 (by as_aux_lemma => kernel_rfl) (.pointer (some ⟨b, 0, none⟩)) (by as_aux_lemma => kernel_rfl) _ Tryd.underlying61 rfl) (by as_aux_lemma => kernel_rfl)
  · exact D_val 9 (fun β => by as_aux_lemma => kernel_rfl) (fun β => .pointer (some ⟨b, 0, none⟩)) 2 rfl (fun β => by as_aux_lemma => kernel_rfl) (fun β => R_cell (own := false) (g := pl) (all := #[.pointer (some ⟨b, 0, none⟩)]) (t := 61) (fr := (0, 0)) 0 (by as_aux_lemma => kernel_rfl) 61 (.tmp 0) rfl 0 (by as_aux_lemma => kernel_rfl) (.pointer (some ⟨b, 0, none⟩)) (by as_aux_lemma => kernel_rfl) _ Tryd.underlying61 rfl) (by as_aux_lemma => kernel_rfl)
  · exact D_val 9 (fun β => by as_aux_lemma => kernel_rfl) (fun β => .pointer (some ⟨b, 0, none⟩)) 3 rfl (fun β => by as_aux_lemma => kernel_rfl) (fun β _ _ => by as_aux_lemma => kernel_rfl) (by as_aux_lemma => kernel_rfl)
  · exact D_val 9 (fun β => by as_aux_lemma => kernel_rfl) (fun β => .pointer (some ⟨b, 0, none⟩)) 4 rfl (fun β => by as_aux_lemma => kernel_rfl) (fun β _ _ => by as_aux_lemma => kernel_rfl) (by as_aux_lemma => kernel_rfl)
  · exact D_valZ 9 (fun β => by as_aux_lemma => kernel_rfl) (fun β => .agg (kArr f)) 5 rfl (fun β => by as_aux_lemma => kernel_rfl) (fun β => R_load (own := true) (g := b) (all := (pairA f q d l)) (t := 99) (fr := (0, 0)) 0 (by as_aux_lemma => kernel_rfl) 23 (.tmp 4) rfl 0 (by as_aux_lemma => kernel_rfl) (kArr f) (part_ext (by as_aux_lemma => kernel_rfl)) _ Tryd.underlying23 rfl (by as_aux_lemma => kernel_rfl)) (by as_aux_lemma => kernel_rfl) (by as_aux_lemma => kernel_rfl)
  · exact D_call 9 (fun β => by as_aux_lemma => kernel_rfl) (fun β => .agg (kArr RA)) 6 rfl (fun β => by as_aux_lemma => kernel_rfl) 50 (fun β => #[.agg (kArr f)]) (fun β w => by as_aux_lemma => kernel_rfl) (fun β w hk => Calls.kept (dr _ (h4.kept hb4 hk))) (by as_aux_lemma => kernel_rfl)
  · exact D_val 9 (fun β => by as_aux_lemma => kernel_rfl) (fun β => .pointer (some ⟨b, 0, none⟩)) 7 rfl (fun β => by as_aux_lemma => kernel_rfl) (fun β _ _ => by as_aux_lemma => kernel_rfl) (by as_aux_lemma => kernel_rfl)
  · exact D_val 9 (fun β => by as_aux_lemma => kernel_rfl) (fun β => .pointer (some ⟨b, 32, none⟩)) 8 rfl (fun β => by as_aux_lemma => kernel_rfl) (fun β _ _ => by as_aux_lemma => kernel_rfl) (by as_aux_lemma => kernel_rfl)
  · exact D_putF fit ⟨b, 8, .cells (pairA f q d l) 99 (0, 0), .cells (pairA f RA d l) 99 (0, 0)⟩ (List.mem_of_getElem? (i := 0) rfl) rfl 9 (fun β => by as_aux_lemma => kernel_rfl) rfl (fun β w _ hg => P_part (off := 32) (cs := (kArr RA)) rfl (by as_aux_lemma => kernel_rfl) (ty := 23) (x := (.tmp 8)) (y := (.tmp 6)) rfl (by as_aux_lemma => kernel_rfl) (by as_aux_lemma => kernel_rfl) (by as_aux_lemma => kernel_rfl) (Nat.le_of_ble_eq_true (by as_aux_lemma => kernel_rfl)) (by as_aux_lemma => kernel_rfl) hg) (by as_aux_lemma => kernel_rfl)
  clear F H; intro β a v F H
  replace H : Hp [b] w [⟨true, b, .cells (pairA f RA d l) 99 (0, 0)⟩, ⟨false, pl, .cells #[.pointer (some ⟨b, 0, none⟩)] 61 (0, 0)⟩] v := H
  replace F : Fm 9 [] [(8, .pointer (some ⟨b, 32, none⟩)), (7, .pointer (some ⟨b, 0, none⟩)), (6, .agg (kArr RA)), (5, .agg (kArr f)), (4, .pointer (some ⟨b, 0, none⟩)), (3, .pointer (some ⟨b, 0, none⟩)), (2, .pointer (some ⟨b, 0, none⟩)), (1, .pointer (some ⟨b, 0, none⟩)), (0, .pointer (some ⟨pl, 0, none⟩))] a := F.weak _ (⟨rfl, ⟨rfl, ⟨rfl, ⟨rfl, ⟨rfl, ⟨rfl, ⟨rfl, ⟨rfl, ⟨rfl, trivial⟩⟩⟩⟩⟩⟩⟩⟩⟩)
  refine ?_
  exact C_end F rfl ⟨rfl, H.kept, H.at_ (k := 0) rfl⟩

set_option maxRecDepth 100000 in
set_option maxHeartbeats 4000000 in
theorem slow_any (b pl : Nat) (hne : b ≠ pl) (hb4 : b ≠ 0) (f : Nat → Nat) (hf : ∀ b, b < 32 → f b < 256) (RA : Nat → Nat) (hRA : byteOf (sharedN f nineF) = RA) (q : Nat → Nat) (w : World) (h4 : Four w) (hb : w.heap[b]? = some (.cells (pairA f q 0 0) 99 (0, 0))) (hpl : w.heap[pl]? = some (.cells #[.pointer (some ⟨b, 0, none⟩)] 61 (0, 0))) :
    Calls Tryd.prog 68 #[.pointer (some ⟨b, 64, none⟩), .func (.func 64) #[] #[.pointer (some ⟨pl, 0, none⟩)]] w fun e w' => e = .returned (.tuple #[]) ∧ Kept [b] w w' ∧ w'.heap[b]? = some (.cells (pairA f RA 1 0) 99 (0, 0)) := by
  have H := Hp.start2 hb hpl hne
  refine C_enterD Tryd.func68 rfl 21 Tryd.ntmps68 (Nat.le_of_ble_eq_true rfl) (fun a F => ?_)
  skip
  replace F : Fm 21 [] [(0, .pointer (some ⟨b, 64, none⟩)), (1, .func (.func 64) #[] #[.pointer (some ⟨pl, 0, none⟩)])] a := F.weak _ (⟨rfl, ⟨rfl, trivial⟩⟩)
  refine C_seqK (fun K hK => ?_)
  refine C_region ?_
  refine T_val F H (by as_aux_lemma => kernel_rfl) (.pointer (some ⟨b, 64, none⟩)) (fun _ _ => by as_aux_lemma => kernel_rfl) ?_
  clear F; intro a F
  refine T_val F H (by as_aux_lemma => kernel_rfl) (.pointer (some ⟨b, 64, none⟩)) (fun _ _ => by as_aux_lemma => kernel_rfl) ?_
  clear F; intro a F
  refine T_val F H (by as_aux_lemma => kernel_rfl) (.pointer (some ⟨b, 65, none⟩)) (fun _ _ => by as_aux_lemma => kernel_rfl) ?_
  clear F; intro a F
  refine T_callP F H (by as_aux_lemma => kernel_rfl) 70 #[.pointer (some ⟨b, 65, none⟩)] (.tuple #[]) 0 rfl (fun w => by as_aux_lemma => kernel_rfl) (fun w _ hg _ => lock_pair w hg) [⟨true, b, .cells (pairA f q 0 1) 99 (0, 0)⟩, ⟨false, pl, .cells #[.pointer (some ⟨b, 0, none⟩)] 61 (0, 0)⟩] rfl ?_
  clear F H; intro a v F H
  refine T_end (hK _ _ ?_)
  clear hK K
  refine C_seqK (fun K hK => ?_)
  refine C_region ?_
  refine T_val F H (by as_aux_lemma => kernel_rfl) (.pointer (some ⟨b, 64, none⟩)) (fun _ _ => by as_aux_lemma => kernel_rfl) ?_
  clear F; intro a F
  refine T_val F H (by as_aux_lemma => kernel_rfl) (.pointer (some ⟨b, 64, none⟩)) (fun _ _ => by as_aux_lemma => kernel_rfl) ?_
  clear F; intro a F
  refine T_val F H (by as_aux_lemma => kernel_rfl) (.pointer (some ⟨b, 65, none⟩)) (fun _ _ => by as_aux_lemma => kernel_rfl) ?_
  clear F; intro a F
  refine T_defer F (by as_aux_lemma => kernel_rfl) { target := .fn (.func 71) #[], args := #[.pointer (some ⟨b, 65, none⟩)] } (fun w => by as_aux_lemma => kernel_rfl) ?_
  clear F; intro a F
  refine T_end (hK _ _ ?_)
  clear hK K
  refine C_seqK (fun K hK => ?_)
  refine C_region ?_
  refine T_val F H (by as_aux_lemma => kernel_rfl) (.pointer (some ⟨b, 64, none⟩)) (fun _ _ => by as_aux_lemma => kernel_rfl) ?_
  clear F; intro a F
  refine T_val F H (by as_aux_lemma => kernel_rfl) (.pointer (some ⟨b, 64, none⟩)) (fun _ _ => by as_aux_lemma => kernel_rfl) ?_
  clear F; intro a F
  refine T_val F H (by as_aux_lemma => kernel_rfl) (.pointer (some ⟨b, 64, none⟩)) (fun _ _ => by as_aux_lemma => kernel_rfl) ?_
  clear F; intro a F
  refine T_call F H (by as_aux_lemma => kernel_rfl) 67 #[.pointer (some ⟨b, 64, none⟩)] (.bool false) (fun w => by as_aux_lemma => kernel_rfl) (load_row b 64 0 _ (H.at_ (k := 0) rfl) (by as_aux_lemma => kernel_rfl)) ?_
  clear F H; intro a v F H
  refine T_val F H (by as_aux_lemma => kernel_rfl) (.bool true) (fun _ _ => by as_aux_lemma => kernel_rfl) ?_
  clear F; intro a F
  refine T_end (hK _ _ ?_)
  clear hK K
  refine C_if F true rfl rfl ?_
  refine C_seqK (fun K hK => ?_)
  refine C_region ?_
  refine T_val F H (by as_aux_lemma => kernel_rfl) (.pointer (some ⟨b, 64, none⟩)) (fun _ _ => by as_aux_lemma => kernel_rfl) ?_
  clear F; intro a F
  refine T_val F H (by as_aux_lemma => kernel_rfl) (.pointer (some ⟨b, 64, none⟩)) (fun _ _ => by as_aux_lemma => kernel_rfl) ?_
  clear F; intro a F
  refine T_val F H (by as_aux_lemma => kernel_rfl) (.pointer (some ⟨b, 64, none⟩)) (fun _ _ => by as_aux_lemma => kernel_rfl) ?_
  clear F; intro a F
  refine T_defer F (by as_aux_lemma => kernel_rfl) { target := .fn (.func 72) #[], args := #[.pointer (some ⟨b, 64, none⟩), .bool true] } (fun w => by as_aux_lemma => kernel_rfl) ?_
  clear F; intro a F
  refine T_end (hK _ _ ?_)
  clear hK K
  refine C_region ?_
  refine T_val F H (by as_aux_lemma => kernel_rfl) (.func (.func 64) #[] #[.pointer (some ⟨pl, 0, none⟩)]) (fun _ _ => by as_aux_lemma => kernel_rfl) ?_
  clear F; intro a F
  refine T_callP F H (by as_aux_lemma => kernel_rfl) 64 #[.pointer (some ⟨pl, 0, none⟩)] (.tuple #[]) 0 rfl (fun w => by as_aux_lemma => kernel_rfl) (fun w hL hg hk => pub1_any b pl hne hb4 f hf RA hRA q 0 1 w (h4.kept hb4 hk) hg (hL.at_ (k := 1) rfl)) [⟨true, b, .cells (pairA f RA 0 1) 99 (0, 0)⟩, ⟨false, pl, .cells #[.pointer (some ⟨b, 0, none⟩)] 61 (0, 0)⟩] rfl ?_
  clear F H; intro a v F H
  refine wpList_nil ?_
  show Leaves _ _ a.tmps _ a.defers .returning v
  rw [F.df]
  have hbk := H.at_ (k := 0) rfl
  have hK := H.kept
  clear F H
  generalize hC : pairA f RA 0 1 = C at hbk
  have c64 : C[64]? = some (.int .u32 0) := by subst hC; kernel_rfl
  have c65 : C[65]? = some (.int .i32 1) := by subst hC; kernel_rfl
  refine leaves_cons (f := 72) (args := #[.pointer (some ⟨b, 64, none⟩), .bool true]) (by simp) (by as_aux_lemma => kernel_rfl) ?_
  refine (store_deferred ⟨b, 64, none⟩ (.int .u32 0) .returning v (by rw [cell_of_row v b 64 C 99 (0, 0) hbk]; exact c64) (frozen_of_row v b 64 C 99 hbk)).mono ?_
  rintro e u' v1 ⟨rfl, rfl, hv1⟩
  have hb1 : v1.heap[b]? = some (.cells (C.setIfInBounds 64 (.int .u32 1)) 99 (0, 0)) := by subst hv1; exact heap_setCell_same v.drew b 64 C 99 _ hbk
  have hk1 : Kept [b] v v1 := by subst hv1; exact ⟨rfl, rfl, rfl, by simp [World.setCell], fun k _ hk => heap_setCell_other _ _ _ _ (by simpa using hk)⟩
  clear hv1
  refine leaves_cons (f := 71) (args := #[.pointer (some ⟨b, 65, none⟩)]) (by simp [settle]) (by as_aux_lemma => kernel_rfl) ?_
  refine (unlock_deferred ⟨b, 65, none⟩ _ v1 (by rw [cell_of_row v1 b 65 _ 99 (0, 0) hb1]; subst hC; kernel_rfl) (frozen_of_row v1 b 65 _ 99 hb1)).mono ?_
  rintro e u' v2 ⟨rfl, rfl, hv2⟩
  have hb2 : v2.heap[b]? = some (.cells ((C.setIfInBounds 64 (.int .u32 1)).setIfInBounds 65 (.int .i32 0)) 99 (0, 0)) := by subst hv2; exact heap_setCell_same v1 b 65 _ 99 _ hb1
  have hk2 : Kept [b] v1 v2 := by subst hv2; exact ⟨rfl, rfl, rfl, by simp [World.setCell], fun k _ hk => heap_setCell_other _ _ _ _ (by simpa using hk)⟩
  refine ⟨.tuple #[], results_none rfl _ _ _, rfl, (hK.trans (fun y hy => .inr hy) hk1).trans (fun y hy => .inr hy) hk2, ?_⟩
  rw [hb2]
  subst hC
  kernel_rfl

set_option maxRecDepth 100000 in
set_option maxHeartbeats 4000000 in
theorem do_first (b pl : Nat) (hne : b ≠ pl) (hb4 : b ≠ 0) (f : Nat → Nat) (hf : ∀ b, b < 32 → f b < 256) (RA : Nat → Nat) (hRA : byteOf (sharedN f nineF) = RA) (q : Nat → Nat) (w : World) (h4 : Four w) (hb : w.heap[b]? = some (.cells (pairA f q 0 0) 99 (0, 0))) (hpl : w.heap[pl]? = some (.cells #[.pointer (some ⟨b, 0, none⟩)] 61 (0, 0))) :
    Calls Tryd.prog 63 #[.pointer (some ⟨b, 64, none⟩), .func (.func 64) #[] #[.pointer (some ⟨pl, 0, none⟩)]] w fun e w' => e = .returned (.tuple #[]) ∧ Kept [b] w w' ∧ w'.heap[b]? = some (.cells (pairA f RA 1 0) 99 (0, 0)) := by
  have H := Hp.start2 hb hpl hne
  refine C_enter Tryd.func63 rfl 12 Tryd.ntmps63 (Nat.le_of_ble_eq_true rfl) (fun a F => ?_)
  skip
  replace F : Fm 12 [] [(0, .pointer (some ⟨b, 64, none⟩)), (1, .func (.func 64) #[] #[.pointer (some ⟨pl, 0, none⟩)])] a := F.weak _ (⟨rfl, ⟨rfl, trivial⟩⟩)
  refine C_seqK (fun K hK => ?_)
  refine C_region ?_
  refine T_val F H (by as_aux_lemma => kernel_rfl) (.pointer (some ⟨b, 64, none⟩)) (fun _ _ => by as_aux_lemma => kernel_rfl) ?_
  clear F; intro a F
  refine T_val F H (by as_aux_lemma => kernel_rfl) (.pointer (some ⟨b, 64, none⟩)) (fun _ _ => by as_aux_lemma => kernel_rfl) ?_
  clear F; intro a F
  refine T_val F H (by as_aux_lemma => kernel_rfl) (.pointer (some ⟨b, 64, none⟩)) (fun _ _ => by as_aux_lemma => kernel_rfl) ?_
  clear F; intro a F
  refine T_call F H (by as_aux_lemma => kernel_rfl) 67 #[.pointer (some ⟨b, 64, none⟩)] (.bool false) (fun w => by as_aux_lemma => kernel_rfl) (load_row b 64 0 _ (H.at_ (k := 0) rfl) (by as_aux_lemma => kernel_rfl)) ?_
  clear F H; intro a v F H
  refine T_val F H (by as_aux_lemma => kernel_rfl) (.bool true) (fun _ _ => by as_aux_lemma => kernel_rfl) ?_
  clear F; intro a F
  refine T_end (hK _ _ ?_)
  clear hK K
  refine C_if F true rfl rfl ?_
  refine C_region ?_
  refine T_val F H (by as_aux_lemma => kernel_rfl) (.pointer (some ⟨b, 64, none⟩)) (fun _ _ => by as_aux_lemma => kernel_rfl) ?_
  clear F; intro a F
  refine T_val F H (by as_aux_lemma => kernel_rfl) (.func (.func 64) #[] #[.pointer (some ⟨pl, 0, none⟩)]) (fun _ _ => by as_aux_lemma => kernel_rfl) ?_
  clear F; intro a F
  refine T_callP F H (by as_aux_lemma => kernel_rfl) 68 #[.pointer (some ⟨b, 64, none⟩), .func (.func 64) #[] #[.pointer (some ⟨pl, 0, none⟩)]] (.tuple #[]) 0 rfl (fun w => by as_aux_lemma => kernel_rfl) (fun w hL hg hk => slow_any b pl hne hb4 f hf RA hRA q w (h4.kept hb4 hk) hg (hL.at_ (k := 1) rfl)) [⟨true, b, .cells (pairA f RA 1 0) 99 (0, 0)⟩, ⟨false, pl, .cells #[.pointer (some ⟨b, 0, none⟩)] 61 (0, 0)⟩] rfl ?_
  clear F H; intro a v F H
  refine wpList_nil ?_
  exact C_end F rfl ⟨rfl, H.kept, H.at_ (k := 0) rfl⟩

set_option maxRecDepth 100000 in
set_option maxHeartbeats 4000000 in
theorem do_again (b pl : Nat) (hne : b ≠ pl) (hb4 : b ≠ 0) (f : Nat → Nat) (hf : ∀ b, b < 32 → f b < 256) (RA : Nat → Nat) (hRA : byteOf (sharedN f nineF) = RA) (q : Nat → Nat) (w : World) (h4 : Four w) (hb : w.heap[b]? = some (.cells (pairA f q 1 0) 99 (0, 0))) (hpl : w.heap[pl]? = some (.cells #[.pointer (some ⟨b, 0, none⟩)] 61 (0, 0))) :
    Calls Tryd.prog 63 #[.pointer (some ⟨b, 64, none⟩), .func (.func 64) #[] #[.pointer (some ⟨pl, 0, none⟩)]] w fun e w' => e = .returned (.tuple #[]) ∧ Kept [b] w w' ∧ w'.heap[b]? = some (.cells (pairA f q 1 0) 99 (0, 0)) := by
  have H := Hp.start2 hb hpl hne
  refine C_enter Tryd.func63 rfl 12 Tryd.ntmps63 (Nat.le_of_ble_eq_true rfl) (fun a F => ?_)
  skip
  replace F : Fm 12 [] [(0, .pointer (some ⟨b, 64, none⟩)), (1, .func (.func 64) #[] #[.pointer (some ⟨pl, 0, none⟩)])] a := F.weak _ (⟨rfl, ⟨rfl, trivial⟩⟩)
  refine C_seqK (fun K hK => ?_)
  refine C_region ?_
  refine T_val F H (by as_aux_lemma => kernel_rfl) (.pointer (some ⟨b, 64, none⟩)) (fun _ _ => by as_aux_lemma => kernel_rfl) ?_
  clear F; intro a F
  refine T_val F H (by as_aux_lemma => kernel_rfl) (.pointer (some ⟨b, 64, none⟩)) (fun _ _ => by as_aux_lemma => kernel_rfl) ?_
  clear F; intro a F
  refine T_val F H (by as_aux_lemma => kernel_rfl) (.pointer (some ⟨b, 64, none⟩)) (fun _ _ => by as_aux_lemma => kernel_rfl) ?_
  clear F; intro a F
  refine T_call F H (by as_aux_lemma => kernel_rfl) 67 #[.pointer (some ⟨b, 64, none⟩)] (.bool true) (fun w => by as_aux_lemma => kernel_rfl) (load_row b 64 1 _ (H.at_ (k := 0) rfl) (by as_aux_lemma => kernel_rfl)) ?_
  clear F H; intro a v F H
  refine T_val F H (by as_aux_lemma => kernel_rfl) (.bool false) (fun _ _ => by as_aux_lemma => kernel_rfl) ?_
  clear F; intro a F
  refine T_end (hK _ _ ?_)
  clear hK K
  refine C_if F false rfl rfl ?_
  refine wp_skip ?_
  exact C_end F rfl ⟨rfl, H.kept, H.at_ (k := 0) rfl⟩

theorem Hp.startX {w : World} {b : Nat} {ob : Obj} (hb : w.heap[b]? = some ob) : Hp [b] w [⟨true, b, ob⟩] w :=
  ⟨Kept.refl _ _, fun p hp => by simp only [List.mem_singleton] at hp; subst hp; exact hb, fun p hp ho => by simp only [List.mem_singleton] at hp; subst hp; exact .inr (by simp), List.pairwise_singleton _ _⟩
theorem Hp.apart {X w0 L w} (H : Hp X w0 L w) {i j : Nat} {p q : Blk} (hi : L[i]? = some p) (hj : L[j]? = some q) (hne : i ≠ j) : p.ad ≠ q.ad := by
  obtain ⟨hi1, hi2⟩ := List.getElem?_eq_some_iff.1 hi
  obtain ⟨hj1, hj2⟩ := List.getElem?_eq_some_iff.1 hj
  have hp := List.pairwise_iff_getElem.1 H.far
  rcases Nat.lt_or_gt_of_ne hne with h | h
  · have := hp i j hi1 hj1 h; rw [hi2, hj2] at this; exact this
  · have := hp j i hj1 hi1 h; rw [hi2, hj2] at this; exact fun e => this e.symm

set_option maxRecDepth 100000 in
set_option maxHeartbeats 4000000 in
theorem pubP_first (b : Nat) (hb4 : b ≠ 0) (f : Nat → Nat) (hf : ∀ b, b < 32 → f b < 256) (RA : Nat → Nat) (hRA : byteOf (sharedN f nineF) = RA) (q : Nat → Nat) (w : World) (h4 : Four w) (hb : w.heap[b]? = some (.cells (pairA f q 0 0) 99 (0, 0))) :
    Calls Tryd.prog 47 #[.pointer (some ⟨b, 0, none⟩)] w fun e w' => e = .returned (.agg (kArr RA)) ∧ Kept [b] w w' ∧ w'.heap[b]? = some (.cells (pairA f RA 1 0) 99 (0, 0)) := by
  have H := Hp.startX hb
  refine C_enter Tryd.func47 rfl 12 Tryd.ntmps47 (Nat.le_of_ble_eq_true rfl) (fun a F => ?_)
  skip
  replace F : Fm 12 [] [(0, .pointer (some ⟨b, 0, none⟩))] a := F.weak _ (⟨rfl, trivial⟩)
  refine C_seqK (fun K hK => ?_)
  refine C_region ?_
  refine T_new F H (by as_aux_lemma => kernel_rfl) (fun ad => .pointer (some ⟨ad, 0, none⟩)) (.cells #[.pointer (some ⟨b, 0, none⟩)] 61 (0, 0)) (fun w => by as_aux_lemma => kernel_rfl) ?_
  clear F H; intro aq1 a v F H
  refine T_new F H (by as_aux_lemma => kernel_rfl) (fun ad => .pointer (some ⟨ad, 0, none⟩)) (.cells #[.int .u8 0, .int .u8 0, .int .u8 0, .int .u8 0, .int .u8 0, .int .u8 0, .int .u8 0, .int .u8 0, .int .u8 0, .int .u8 0, .int .u8 0, .int .u8 0, .int .u8 0, .int .u8 0, .int .u8 0, .int .u8 0, .int .u8 0, .int .u8 0, .int .u8 0, .int .u8 0, .int .u8 0, .int .u8 0, .int .u8 0, .int .u8 0, .int .u8 0, .int .u8 0, .int .u8 0, .int .u8 0, .int .u8 0, .int .u8 0, .int .u8 0, .int .u8 0] 23 (0, 0)) (fun w => by as_aux_lemma => kernel_rfl) ?_
  clear F H; intro aq2 a v F H
  refine T_end (hK _ _ ?_)
  clear hK K
  refine C_seqK (fun K hK => ?_)
  refine C_region ?_
  refine T_val F H (by as_aux_lemma => kernel_rfl) (.pointer (some ⟨b, 0, none⟩)) (R_cell (own := true) (g := aq1) (all := #[.pointer (some ⟨b, 0, none⟩)]) (t := 61) (fr := (0, 0)) 1 (by as_aux_lemma => kernel_rfl) 61 (.tmp 1) rfl 0 (by as_aux_lemma => kernel_rfl) (.pointer (some ⟨b, 0, none⟩)) (by as_aux_lemma => kernel_rfl) _ Tryd.underlying61 rfl) ?_
  clear F; intro a F
  refine T_val F H (by as_aux_lemma => kernel_rfl) (.pointer (some ⟨b, 0, none⟩)) (fun _ _ => by as_aux_lemma => kernel_rfl) ?_
  clear F; intro a F
  refine T_val F H (by as_aux_lemma => kernel_rfl) (.pointer (some ⟨b, 64, none⟩)) (fun _ _ => by as_aux_lemma => kernel_rfl) ?_
  clear F; intro a F
  refine T_val F H (by as_aux_lemma => kernel_rfl) (.func (.func 64) #[] #[.pointer (some ⟨aq1, 0, none⟩)]) (fun _ _ => by as_aux_lemma => kernel_rfl) ?_
  clear F; intro a F
  refine T_callP F H (by as_aux_lemma => kernel_rfl) 63 #[.pointer (some ⟨b, 64, none⟩), .func (.func 64) #[] #[.pointer (some ⟨aq1, 0, none⟩)]] (.tuple #[]) 2 rfl (fun w => by as_aux_lemma => kernel_rfl) (fun w hL hg hk => do_first b aq1 (H.apart (i := 2) (j := 1) rfl rfl (by decide)) hb4 f hf RA hRA q w (h4.kept hb4 hk) hg (hL.at_ (k := 1) rfl)) [⟨true, aq2, .cells #[.int .u8 0, .int .u8 0, .int .u8 0, .int .u8 0, .int .u8 0, .int .u8 0, .int .u8 0, .int .u8 0, .int .u8 0, .int .u8 0, .int .u8 0, .int .u8 0, .int .u8 0, .int .u8 0, .int .u8 0, .int .u8 0, .int .u8 0, .int .u8 0, .int .u8 0, .int .u8 0, .int .u8 0, .int .u8 0, .int .u8 0, .int .u8 0, .int .u8 0, .int .u8 0, .int .u8 0, .int .u8 0, .int .u8 0, .int .u8 0, .int .u8 0, .int .u8 0] 23 (0, 0)⟩, ⟨true, aq1, .cells #[.pointer (some ⟨b, 0, none⟩)] 61 (0, 0)⟩, ⟨true, b, .cells (pairA f RA 1 0) 99 (0, 0)⟩] rfl ?_
  clear F H; intro a v F H
  refine T_end (hK _ _ ?_)
  clear hK K
  refine C_seqK (fun K hK => ?_)
  refine C_region ?_
  refine T_val F H (by as_aux_lemma => kernel_rfl) (.pointer (some ⟨b, 0, none⟩)) (R_cell (own := true) (g := aq1) (all := #[.pointer (some ⟨b, 0, none⟩)]) (t := 61) (fr := (0, 0)) 1 (by as_aux_lemma => kernel_rfl) 61 (.tmp 1) rfl 0 (by as_aux_lemma => kernel_rfl) (.pointer (some ⟨b, 0, none⟩)) (by as_aux_lemma => kernel_rfl) _ Tryd.underlying61 rfl) ?_
  clear F; intro a F
  refine T_val F H (by as_aux_lemma => kernel_rfl) (.pointer (some ⟨b, 0, none⟩)) (fun _ _ => by as_aux_lemma => kernel_rfl) ?_
  clear F; intro a F
  refine T_val F H (by as_aux_lemma => kernel_rfl) (.pointer (some ⟨b, 32, none⟩)) (fun _ _ => by as_aux_lemma => kernel_rfl) ?_
  clear F; intro a F
  refine T_val F H (by as_aux_lemma => kernel_rfl) (.agg (kArr RA)) (R_load (own := true) (g := b) (all := (pairA f RA 1 0)) (t := 99) (fr := (0, 0)) 2 (by as_aux_lemma => kernel_rfl) 23 (.tmp 10) rfl 32 (by as_aux_lemma => kernel_rfl) (kArr RA) (part_ext (by as_aux_lemma => kernel_rfl)) _ Tryd.underlying23 rfl (by as_aux_lemma => kernel_rfl)) ?_
  clear F; intro a F
  refine T_set F H (by as_aux_lemma => kernel_rfl) rfl 0 rfl (kArr RA) (S_row 0 rfl 23 (.tmp 2) (.tmp 11) rfl (by as_aux_lemma => kernel_rfl) (kArr RA) (by as_aux_lemma => kernel_rfl) (by as_aux_lemma => kernel_rfl) (by as_aux_lemma => kernel_rfl) (by as_aux_lemma => kernel_rfl)) [⟨true, aq2, .cells (kArr RA) 23 (0, 0)⟩, ⟨true, aq1, .cells #[.pointer (some ⟨b, 0, none⟩)] 61 (0, 0)⟩, ⟨true, b, .cells (pairA f RA 1 0) 99 (0, 0)⟩] rfl ?_
  clear F H; intro a v F H
  refine T_end (hK _ _ ?_)
  clear hK K
  refine wp_ret ?_
  exact C_ret F H (rs := [.cell 2 23]) rfl (vs := [.agg (kArr RA)]) (.row 0 rfl rfl _ Tryd.underlying23 rfl (by as_aux_lemma => kernel_rfl) .nil) (.agg (kArr RA)) rfl ⟨rfl, H.kept, H.at_ (k := 2) rfl⟩

set_option maxRecDepth 100000 in
set_option maxHeartbeats 4000000 in
theorem pubP_again (b : Nat) (hb4 : b ≠ 0) (f : Nat → Nat) (hf : ∀ b, b < 32 → f b < 256) (RA : Nat → Nat) (hRA : byteOf (sharedN f nineF) = RA) (q : Nat → Nat) (w : World) (h4 : Four w) (hb : w.heap[b]? = some (.cells (pairA f q 1 0) 99 (0, 0))) :
    Calls Tryd.prog 47 #[.pointer (some ⟨b, 0, none⟩)] w fun e w' => e = .returned (.agg (kArr q)) ∧ Kept [b] w w' ∧ w'.heap[b]? = some (.cells (pairA f q 1 0) 99 (0, 0)) := by
  have H := Hp.startX hb
  refine C_enter Tryd.func47 rfl 12 Tryd.ntmps47 (Nat.le_of_ble_eq_true rfl) (fun a F => ?_)
  skip
  replace F : Fm 12 [] [(0, .pointer (some ⟨b, 0, none⟩))] a := F.weak _ (⟨rfl, trivial⟩)
  refine C_seqK (fun K hK => ?_)
  refine C_region ?_
  refine T_new F H (by as_aux_lemma => kernel_rfl) (fun ad => .pointer (some ⟨ad, 0, none⟩)) (.cells #[.pointer (some ⟨b, 0, none⟩)] 61 (0, 0)) (fun w => by as_aux_lemma => kernel_rfl) ?_
  clear F H; intro aq1 a v F H
  refine T_new F H (by as_aux_lemma => kernel_rfl) (fun ad => .pointer (some ⟨ad, 0, none⟩)) (.cells #[.int .u8 0, .int .u8 0, .int .u8 0, .int .u8 0, .int .u8 0, .int .u8 0, .int .u8 0, .int .u8 0, .int .u8 0, .int .u8 0, .int .u8 0, .int .u8 0, .int .u8 0, .int .u8 0, .int .u8 0, .int .u8 0, .int .u8 0, .int .u8 0, .int .u8 0, .int .u8 0, .int .u8 0, .int .u8 0, .int .u8 0, .int .u8 0, .int .u8 0, .int .u8 0, .int .u8 0, .int .u8 0, .int .u8 0, .int .u8 0, .int .u8 0, .int .u8 0] 23 (0, 0)) (fun w => by as_aux_lemma => kernel_rfl) ?_
  clear F H; intro aq2 a v F H
  refine T_end (hK _ _ ?_)
  clear hK K
  refine C_seqK (fun K hK => ?_)
  refine C_region ?_
  refine T_val F H (by as_aux_lemma => kernel_rfl) (.pointer (some ⟨b, 0, none⟩)) (R_cell (own := true) (g := aq1) (all := #[.pointer (some ⟨b, 0, none⟩)]) (t := 61) (fr := (0, 0)) 1 (by as_aux_lemma => kernel_rfl) 61 (.tmp 1) rfl 0 (by as_aux_lemma => kernel_rfl) (.pointer (some ⟨b, 0, none⟩)) (by as_aux_lemma => kernel_rfl) _ Tryd.underlying61 rfl) ?_
  clear F; intro a F
  refine T_val F H (by as_aux_lemma => kernel_rfl) (.pointer (some ⟨b, 0, none⟩)) (fun _ _ => by as_aux_lemma => kernel_rfl) ?_
  clear F; intro a F
  refine T_val F H (by as_aux_lemma => kernel_rfl) (.pointer (some ⟨b, 64, none⟩)) (fun _ _ => by as_aux_lemma => kernel_rfl) ?_
  clear F; intro a F
  refine T_val F H (by as_aux_lemma => kernel_rfl) (.func (.func 64) #[] #[.pointer (some ⟨aq1, 0, none⟩)]) (fun _ _ => by as_aux_lemma => kernel_rfl) ?_
  clear F; intro a F
  refine T_callP F H (by as_aux_lemma => kernel_rfl) 63 #[.pointer (some ⟨b, 64, none⟩), .func (.func 64) #[] #[.pointer (some ⟨aq1, 0, none⟩)]] (.tuple #[]) 2 rfl (fun w => by as_aux_lemma => kernel_rfl) (fun w hL hg hk => do_again b aq1 (H.apart (i := 2) (j := 1) rfl rfl (by decide)) hb4 f hf RA hRA q w (h4.kept hb4 hk) hg (hL.at_ (k := 1) rfl)) [⟨true, aq2, .cells #[.int .u8 0, .int .u8 0, .int .u8 0, .int .u8 0, .int .u8 0, .int .u8 0, .int .u8 0, .int .u8 0, .int .u8 0, .int .u8 0, .int .u8 0, .int .u8 0, .int .u8 0, .int .u8 0, .int .u8 0, .int .u8 0, .int .u8 0, .int .u8 0, .int .u8 0, .int .u8 0, .int .u8 0, .int .u8 0, .int .u8 0, .int .u8 0, .int .u8 0, .int .u8 0, .int .u8 0, .int .u8 0, .int .u8 0, .int .u8 0, .int .u8 0, .int .u8 0] 23 (0, 0)⟩, ⟨true, aq1, .cells #[.pointer (some ⟨b, 0, none⟩)] 61 (0, 0)⟩, ⟨true, b, .cells (pairA f q 1 0) 99 (0, 0)⟩] rfl ?_
  clear F H; intro a v F H
  refine T_end (hK _ _ ?_)
  clear hK K
  refine C_seqK (fun K hK => ?_)
  refine C_region ?_
  refine T_val F H (by as_aux_lemma => kernel_rfl) (.pointer (some ⟨b, 0, none⟩)) (R_cell (own := true) (g := aq1) (all := #[.pointer (some ⟨b, 0, none⟩)]) (t := 61) (fr := (0, 0)) 1 (by as_aux_lemma => kernel_rfl) 61 (.tmp 1) rfl 0 (by as_aux_lemma => kernel_rfl) (.pointer (some ⟨b, 0, none⟩)) (by as_aux_lemma => kernel_rfl) _ Tryd.underlying61 rfl) ?_
  clear F; intro a F
  refine T_val F H (by as_aux_lemma => kernel_rfl) (.pointer (some ⟨b, 0, none⟩)) (fun _ _ => by as_aux_lemma => kernel_rfl) ?_
  clear F; intro a F
  refine T_val F H (by as_aux_lemma => kernel_rfl) (.pointer (some ⟨b, 32, none⟩)) (fun _ _ => by as_aux_lemma => kernel_rfl) ?_
  clear F; intro a F
  refine T_val F H (by as_aux_lemma => kernel_rfl) (.agg (kArr q)) (R_load (own := true) (g := b) (all := (pairA f q 1 0)) (t := 99) (fr := (0, 0)) 2 (by as_aux_lemma => kernel_rfl) 23 (.tmp 10) rfl 32 (by as_aux_lemma => kernel_rfl) (kArr q) (part_ext (by as_aux_lemma => kernel_rfl)) _ Tryd.underlying23 rfl (by as_aux_lemma => kernel_rfl)) ?_
  clear F; intro a F
  refine T_set F H (by as_aux_lemma => kernel_rfl) rfl 0 rfl (kArr q) (S_row 0 rfl 23 (.tmp 2) (.tmp 11) rfl (by as_aux_lemma => kernel_rfl) (kArr q) (by as_aux_lemma => kernel_rfl) (by as_aux_lemma => kernel_rfl) (by as_aux_lemma => kernel_rfl) (by as_aux_lemma => kernel_rfl)) [⟨true, aq2, .cells (kArr q) 23 (0, 0)⟩, ⟨true, aq1, .cells #[.pointer (some ⟨b, 0, none⟩)] 61 (0, 0)⟩, ⟨true, b, .cells (pairA f q 1 0) 99 (0, 0)⟩] rfl ?_
  clear F H; intro a v F H
  refine T_end (hK _ _ ?_)
  clear hK K
  refine wp_ret ?_
  exact C_ret F H (rs := [.cell 2 23]) rfl (vs := [.agg (kArr q)]) (.row 0 rfl rfl _ Tryd.underlying23 rfl (by as_aux_lemma => kernel_rfl) .nil) (.agg (kArr q)) rfl ⟨rfl, H.kept, H.at_ (k := 2) rfl⟩

set_option maxRecDepth 100000 in
set_option maxHeartbeats 4000000 in
theorem shared_any (b : Nat) (f : Nat → Nat) (hf : ∀ b, b < 32 → f b < 256) (g : Nat → Nat) (hg : ∀ b, b < 32 → g b < 256) (q : Nat → Nat) (o0 o1 : Int) (w : World) (h4 : Four w) (hb : w.heap[b]? = some (.cells (pairA f q o0 o1) 99 (0, 0))) :
    Calls Tryd.prog 46 #[.pointer (some ⟨b, 0, none⟩), .agg (kArr g)] w fun e w' => e = .returned (.tuple #[.agg (kArr (multK f g)), .int .i64 (multE f g)]) ∧ Below w.heap.size w w' := by
  have h4p := h4.pos
  have dm := fun w h => mult_any f hf g hg w h
  generalize multK f g = MK at dm ⊢
  generalize multE f g = ME at dm ⊢
  have H := Hp.start1 [] hb
  refine C_enter Tryd.func46 rfl 14 Tryd.ntmps46 (Nat.le_of_ble_eq_true rfl) (fun a F => ?_)
  skip
  replace F : Fm 14 [] [(0, .pointer (some ⟨b, 0, none⟩)), (1, .agg (kArr g))] a := F.weak _ (⟨rfl, ⟨rfl, trivial⟩⟩)
  refine C_seqK (fun K hK => ?_)
  refine C_region ?_
  refine T_new F H (by as_aux_lemma => kernel_rfl) (fun ad => .pointer (some ⟨ad, 0, none⟩)) (.cells (kArr g) 23 (0, 0)) (fun w => by as_aux_lemma => kernel_rfl) ?_
  clear F H; intro aq1 a v F H
  refine T_new F H (by as_aux_lemma => kernel_rfl) (fun ad => .pointer (some ⟨ad, 0, none⟩)) (.cells #[.int .u8 0, .int .u8 0, .int .u8 0, .int .u8 0, .int .u8 0, .int .u8 0, .int .u8 0, .int .u8 0, .int .u8 0, .int .u8 0, .int .u8 0, .int .u8 0, .int .u8 0, .int .u8 0, .int .u8 0, .int .u8 0, .int .u8 0, .int .u8 0, .int .u8 0, .int .u8 0, .int .u8 0, .int .u8 0, .int .u8 0, .int .u8 0, .int .u8 0, .int .u8 0, .int .u8 0, .int .u8 0, .int .u8 0, .int .u8 0, .int .u8 0, .int .u8 0] 23 (0, 0)) (fun w => by as_aux_lemma => kernel_rfl) ?_
  clear F H; intro aq2 a v F H
  refine T_val F H (by as_aux_lemma => kernel_rfl) (.int .i64 0) (fun _ _ => by as_aux_lemma => kernel_rfl) ?_
  clear F; intro a F
  refine T_end (hK _ _ ?_)
  clear hK K
  refine C_seqK (fun K hK => ?_)
  refine D_region F H (fun β => [(6, .pointer (some ⟨b, 0, none⟩)), (7, .pointer (some ⟨b, 0, none⟩)), (8, .pointer (some ⟨b, 0, none⟩)), (9, .agg (kArr f)), (10, .agg (kArr g)), (11, .tuple #[.agg (kArr MK), .int .i64 ME]), (12, .agg (kArr MK)), (13, .int .i64 ME), (5, .int .i64 ME)]) [6, 7, 8, 9, 10, 11, 12, 13, 5] [] [⟨aq2, 8, .cells #[.int .u8 0, .int .u8 0, .int .u8 0, .int .u8 0, .int .u8 0, .int .u8 0, .int .u8 0, .int .u8 0, .int .u8 0, .int .u8 0, .int .u8 0, .int .u8 0, .int .u8 0, .int .u8 0, .int .u8 0, .int .u8 0, .int .u8 0, .int .u8 0, .int .u8 0, .int .u8 0, .int .u8 0, .int .u8 0, .int .u8 0, .int .u8 0, .int .u8 0, .int .u8 0, .int .u8 0, .int .u8 0, .int .u8 0, .int .u8 0, .int .u8 0, .int .u8 0] 23 (0, 0), .cells (kArr MK) 23 (0, 0)⟩] [⟨true, aq1, .cells (kArr g) 23 (0, 0)⟩, ⟨false, b, .cells (pairA f q o0 o1) 99 (0, 0)⟩] [0, 1, 2] (by as_aux_lemma => kernel_rfl) (by as_aux_lemma => kernel_rfl) (by as_aux_lemma => kernel_rfl) (fun β => rfl) (fun fit => ⟨?_, ?_, ?_, ?_, ?_, ?_, ?_, ?_, ?_, ?_, trivial⟩) ?_
  · exact D_val 14 (fun β => by as_aux_lemma => kernel_rfl) (fun β => .pointer (some ⟨b, 0, none⟩)) 6 rfl (fun β => by as_aux_lemma => kernel_rfl) (fun β _ _ => by as_aux_lemma => kernel_rfl) (by as_aux_lemma => kernel_rfl)
  · exact D_val 14 (fun β => by as_aux_lemma => kernel_rfl) (fun β => .pointer (some ⟨b, 0, none⟩)) 7 rfl (fun β => by as_aux_lemma => kernel_rfl) (fun β _ _ => by as_aux_lemma => kernel_rfl) (by as_aux_lemma => kernel_rfl)
  · exact D_val 14 (fun β => by as_aux_lemma => kernel_rfl) (fun β => .pointer (some ⟨b, 0, none⟩)) 8 rfl (fun β => by as_aux_lemma => kernel_rfl) (fun β _ _ => by as_aux_lemma => kernel_rfl) (by as_aux_lemma => kernel_rfl)
  · exact D_val 14 (fun β => by as_aux_lemma => kernel_rfl) (fun β => .agg (kArr f)) 9 rfl (fun β => by as_aux_lemma => kernel_rfl) (fun β => R_load (own := false) (g := b) (all := (pairA f q o0 o1)) (t := 99) (fr := (0, 0)) 1 (by as_aux_lemma => kernel_rfl) 23 (.tmp 8) rfl 0 (by as_aux_lemma => kernel_rfl) (kArr f) (part_ext (by as_aux_lemma => kernel_rfl)) _ Tryd.underlying23 rfl (by as_aux_lemma => kernel_rfl)) (by as_aux_lemma => kernel_rfl)
  · exact D_val 14 (fun β => by as_aux_lemma => kernel_rfl) (fun β => .agg (kArr g)) 10 rfl (fun β => by as_aux_lemma => kernel_rfl) (fun β => R_load (own := true) (g := aq1) (all := (kArr g)) (t := 23) (fr := (0, 0)) 0 (by as_aux_lemma => kernel_rfl) 23 (.tmp 3) rfl 0 (by as_aux_lemma => kernel_rfl) (kArr g) (part_all _) _ Tryd.underlying23 rfl (by as_aux_lemma => kernel_rfl)) (by as_aux_lemma => kernel_rfl)
  · exact D_call 14 (fun β => by as_aux_lemma => kernel_rfl) (fun β => .tuple #[.agg (kArr MK), .int .i64 ME]) 11 rfl (fun β => by as_aux_lemma => kernel_rfl) 41 (fun β => #[.agg (kArr f), .agg (kArr g)]) (fun β w => by as_aux_lemma => kernel_rfl) (fun β w hk => Calls.kept (dm _ (h4.below h4p hk.below))) (by as_aux_lemma => kernel_rfl)
  · exact D_val 14 (fun β => by as_aux_lemma => kernel_rfl) (fun β => .agg (kArr MK)) 12 rfl (fun β => by as_aux_lemma => kernel_rfl) (fun β _ _ => by as_aux_lemma => kernel_rfl) (by as_aux_lemma => kernel_rfl)
  · exact D_val 14 (fun β => by as_aux_lemma => kernel_rfl) (fun β => .int .i64 ME) 13 rfl (fun β => by as_aux_lemma => kernel_rfl) (fun β _ _ => by as_aux_lemma => kernel_rfl) (by as_aux_lemma => kernel_rfl)
  · exact D_putF fit ⟨aq2, 8, .cells #[.int .u8 0, .int .u8 0, .int .u8 0, .int .u8 0, .int .u8 0, .int .u8 0, .int .u8 0, .int .u8 0, .int .u8 0, .int .u8 0, .int .u8 0, .int .u8 0, .int .u8 0, .int .u8 0, .int .u8 0, .int .u8 0, .int .u8 0, .int .u8 0, .int .u8 0, .int .u8 0, .int .u8 0, .int .u8 0, .int .u8 0, .int .u8 0, .int .u8 0, .int .u8 0, .int .u8 0, .int .u8 0, .int .u8 0, .int .u8 0, .int .u8 0, .int .u8 0] 23 (0, 0), .cells (kArr MK) 23 (0, 0)⟩ (List.mem_of_getElem? (i := 0) rfl) rfl 14 (fun β => by as_aux_lemma => kernel_rfl) rfl (fun β w _ hg => P_row rfl rfl (ty := 23) (x := (.tmp 4)) (y := (.tmp 12)) rfl (by as_aux_lemma => kernel_rfl) (by as_aux_lemma => kernel_rfl) (by as_aux_lemma => kernel_rfl) (by as_aux_lemma => kernel_rfl) (by as_aux_lemma => kernel_rfl) hg) (by as_aux_lemma => kernel_rfl)
  · exact D_val 14 (fun β => by as_aux_lemma => kernel_rfl) (fun β => .int .i64 ME) 5 rfl (fun β => by as_aux_lemma => kernel_rfl) (fun β _ _ => by as_aux_lemma => kernel_rfl) (by as_aux_lemma => kernel_rfl)
  clear F H; intro β a v F H
  replace H : Hp [] w [⟨true, aq2, .cells (kArr MK) 23 (0, 0)⟩, ⟨true, aq1, .cells (kArr g) 23 (0, 0)⟩, ⟨false, b, .cells (pairA f q o0 o1) 99 (0, 0)⟩] v := H
  replace F : Fm 14 [] [(5, .int .i64 ME), (13, .int .i64 ME), (12, .agg (kArr MK)), (11, .tuple #[.agg (kArr MK), .int .i64 ME]), (10, .agg (kArr g)), (9, .agg (kArr f)), (8, .pointer (some ⟨b, 0, none⟩)), (7, .pointer (some ⟨b, 0, none⟩)), (6, .pointer (some ⟨b, 0, none⟩)), (4, .pointer (some ⟨aq2, 0, none⟩)), (3, .pointer (some ⟨aq1, 0, none⟩)), (0, .pointer (some ⟨b, 0, none⟩)), (1, .agg (kArr g))] a := F.weak _ (⟨rfl, ⟨rfl, ⟨rfl, ⟨rfl, ⟨rfl, ⟨rfl, ⟨rfl, ⟨rfl, ⟨rfl, ⟨rfl, ⟨rfl, ⟨rfl, ⟨rfl, trivial⟩⟩⟩⟩⟩⟩⟩⟩⟩⟩⟩⟩⟩)
  refine hK _ _ ?_
  clear hK K
  refine wp_ret ?_
  exact C_ret F H (rs := [.cell 4 23, .tmp 5]) rfl (vs := [.agg (kArr MK), .int .i64 ME]) (.row 0 rfl rfl _ Tryd.underlying23 rfl (by as_aux_lemma => kernel_rfl) (.tmp rfl .nil)) (.tuple #[.agg (kArr MK), .int .i64 ME]) rfl ⟨rfl, H.kept.below⟩

set_option maxRecDepth 100000 in
set_option maxHeartbeats 4000000 in
theorem secret_any (b : Nat) (f q : Nat → Nat) (o0 o1 : Int) (w : World) (hb : w.heap[b]? = some (.cells (pairA f q o0 o1) 99 (0, 0))) :
    Calls Tryd.prog 48 #[.pointer (some ⟨b, 0, none⟩)] w fun e w' => e = .returned (.agg (kArr f)) ∧ Below w.heap.size w w' := by
  have H := Hp.start1 [] hb
  refine C_enter Tryd.func48 rfl 7 Tryd.ntmps48 (Nat.le_of_ble_eq_true rfl) (fun a F => ?_)
  skip
  replace F : Fm 7 [] [(0, .pointer (some ⟨b, 0, none⟩))] a := F.weak _ (⟨rfl, trivial⟩)
  refine C_seqK (fun K hK => ?_)
  refine C_region ?_
  refine T_new F H (by as_aux_lemma => kernel_rfl) (fun ad => .pointer (some ⟨ad, 0, none⟩)) (.cells #[.int .u8 0, .int .u8 0, .int .u8 0, .int .u8 0, .int .u8 0, .int .u8 0, .int .u8 0, .int .u8 0, .int .u8 0, .int .u8 0, .int .u8 0, .int .u8 0, .int .u8 0, .int .u8 0, .int .u8 0, .int .u8 0, .int .u8 0, .int .u8 0, .int .u8 0, .int .u8 0, .int .u8 0, .int .u8 0, .int .u8 0, .int .u8 0, .int .u8 0, .int .u8 0, .int .u8 0, .int .u8 0, .int .u8 0, .int .u8 0, .int .u8 0, .int .u8 0] 23 (0, 0)) (fun w => by as_aux_lemma => kernel_rfl) ?_
  clear F H; intro aq1 a v F H
  refine T_end (hK _ _ ?_)
  clear hK K
  refine C_seqK (fun K hK => ?_)
  refine C_region ?_
  refine T_val F H (by as_aux_lemma => kernel_rfl) (.pointer (some ⟨b, 0, none⟩)) (fun _ _ => by as_aux_lemma => kernel_rfl) ?_
  clear F; intro a F
  refine T_val F H (by as_aux_lemma => kernel_rfl) (.pointer (some ⟨b, 0, none⟩)) (fun _ _ => by as_aux_lemma => kernel_rfl) ?_
  clear F; intro a F
  refine T_val F H (by as_aux_lemma => kernel_rfl) (.pointer (some ⟨b, 0, none⟩)) (fun _ _ => by as_aux_lemma => kernel_rfl) ?_
  clear F; intro a F
  refine T_val F H (by as_aux_lemma => kernel_rfl) (.agg (kArr f)) (R_load (own := false) (g := b) (all := (pairA f q o0 o1)) (t := 99) (fr := (0, 0)) 1 (by as_aux_lemma => kernel_rfl) 23 (.tmp 5) rfl 0 (by as_aux_lemma => kernel_rfl) (kArr f) (part_ext (by as_aux_lemma => kernel_rfl)) _ Tryd.underlying23 rfl (by as_aux_lemma => kernel_rfl)) ?_
  clear F; intro a F
  refine T_set F H (by as_aux_lemma => kernel_rfl) rfl 0 rfl (kArr f) (S_row 0 rfl 23 (.tmp 2) (.tmp 6) rfl (by as_aux_lemma => kernel_rfl) (kArr f) (by as_aux_lemma => kernel_rfl) (by as_aux_lemma => kernel_rfl) (by as_aux_lemma => kernel_rfl) (by as_aux_lemma => kernel_rfl)) [⟨true, aq1, .cells (kArr f) 23 (0, 0)⟩, ⟨false, b, .cells (pairA f q o0 o1) 99 (0, 0)⟩] rfl ?_
  clear F H; intro a v F H
  refine T_end (hK _ _ ?_)
  clear hK K
  refine wp_ret ?_
  exact C_ret F H (rs := [.cell 2 23]) rfl (vs := [.agg (kArr f)]) (.row 0 rfl rfl _ Tryd.underlying23 rfl (by as_aux_lemma => kernel_rfl) .nil) (.agg (kArr f)) rfl ⟨rfl, H.kept.below⟩

theorem Hp.fresh {w0 L w} (H : Hp [] w0 L w) {k : Nat} {ad : Nat} {ob : Obj} (hk : L[k]? = some ⟨true, ad, ob⟩) : w0.heap.size ≤ ad := by
  rcases H.own _ (List.mem_of_getElem? hk) rfl with h | h
  · exact h
  · simp at h
theorem Hp.add {X w0 L w w'} (H : Hp X w0 L w) (k : Kept [] w w') {b : Nat} {ob : Obj} (hb : w.heap.size ≤ b) (hn : w'.heap[b]? = some ob) : Hp X w0 (⟨true, b, ob⟩ :: L) w' := by
  have H' := H.call k
  refine ⟨H'.kept, fun p hp => ?_, fun p hp ho => ?_, List.pairwise_cons.2 ⟨fun p hp => ?_, H'.far⟩⟩
  · rcases List.mem_cons.1 hp with rfl | hp
    · exact hn
    · exact H'.held p hp
  · rcases List.mem_cons.1 hp with rfl | hp
    · exact .inl (Nat.le_trans H.kept.size hb)
    · exact H'.own p hp ho
  · have := heap_in (H.held p hp)
    show b ≠ p.ad
    omega
set_option maxRecDepth 100000 in
set_option maxHeartbeats 4000000 in
theorem newPair_any (f : Nat → Nat) (w : World) : Calls Tryd.prog 45 #[.agg (kArr f)] w fun e w' => ∃ b, e = .returned (.pointer (some ⟨b, 0, none⟩)) ∧ w.heap.size ≤ b ∧ w'.heap[b]? = some (.cells (pairA f zeroF 0 0) 99 (0, 0)) ∧ Kept [] w w' := by
  refine C_enter Tryd.func45 rfl 6 Tryd.ntmps45 (Nat.le_of_ble_eq_true rfl) (fun a F => ?_)
  have H := Hp.start [] w
  replace F : Fm 6 [] [(0, .agg (kArr f))] a := F.weak _ (⟨rfl, trivial⟩)
  refine C_seqK (fun K hK => ?_)
  refine C_region ?_
  refine T_new F H (by as_aux_lemma => kernel_rfl) (fun ad => .pointer (some ⟨ad, 0, none⟩)) (.cells (kArr f) 23 (0, 0)) (fun w => by as_aux_lemma => kernel_rfl) ?_
  clear F H; intro aq1 a v F H
  refine T_val F H (by as_aux_lemma => kernel_rfl) (.pointer none) (fun _ _ => by as_aux_lemma => kernel_rfl) ?_
  clear F; intro a F
  refine T_end (hK _ _ ?_)
  clear hK K
  refine C_seqK (fun K hK => ?_)
  refine C_region ?_
  refine T_val F H (by as_aux_lemma => kernel_rfl) (.agg (kArr f)) (R_load (own := true) (g := aq1) (all := (kArr f)) (t := 23) (fr := (0, 0)) 0 (by as_aux_lemma => kernel_rfl) 23 (.tmp 1) rfl 0 (by as_aux_lemma => kernel_rfl) (kArr f) (part_all _) _ Tryd.underlying23 rfl (by as_aux_lemma => kernel_rfl)) ?_
  clear F; intro a F
  refine T_val F H (by as_aux_lemma => kernel_rfl) (.agg (pairA f zeroF 0 0)) (fun _ _ => by as_aux_lemma => kernel_rfl) ?_
  clear F; intro a F
  refine T_new F H (by as_aux_lemma => kernel_rfl) (fun ad => .pointer (some ⟨ad, 0, none⟩)) (.cells (pairA f zeroF 0 0) 99 (0, 0)) (fun w => by as_aux_lemma => kernel_rfl) ?_
  clear F H; intro aq2 a v F H
  refine T_val F H (by as_aux_lemma => kernel_rfl) (.pointer (some ⟨aq2, 0, none⟩)) (fun _ _ => by as_aux_lemma => kernel_rfl) ?_
  clear F; intro a F
  refine T_end (hK _ _ ?_)
  clear hK K
  refine wp_ret ?_
  exact C_ret F H (rs := [.tmp 2]) rfl (vs := [.pointer (some ⟨aq2, 0, none⟩)]) (.tmp rfl .nil) (.pointer (some ⟨aq2, 0, none⟩)) rfl ⟨_, rfl, H.fresh (k := 0) rfl, H.at_ (k := 0) rfl, H.kept⟩

end Go.Proofs.YtdmioipdmdmkhaaDoor
