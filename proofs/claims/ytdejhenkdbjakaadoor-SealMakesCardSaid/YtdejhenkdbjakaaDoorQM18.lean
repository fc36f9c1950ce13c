/- WL WO -/
import Derived.Test.YtdejhenkdbjakaaDoorChecked
import Derived.Test.YtdejhenkdbjakaaDoorQM05
import Derived.WalkKit
import Derived.RegionTactic
import Derived.RegionCalls
import Derived.Tactics2
import Derived.Laws.Pointers
import Derived.Test.YtdejhenkdbjakaaDoorQM15
set_option linter.unusedVariables false
set_option linter.unusedSimpArgs false
set_option maxRecDepth 100000
set_option maxHeartbeats 4000000
namespace Go.Proofs.YtdejhenkdbjakaaDoor
open Go.RowKit
theorem race_disable (w : World) : (callFunc 111 #[]).run Tryd.prog w = .ok (.value (.tuple #[])) w := run_call_mark0 Tryd.func111 (by kernel_rfl) (by kernel_rfl) (by kernel_rfl) .disable (by kernel_rfl) w
theorem race_enable (w : World) : (callFunc 113 #[]).run Tryd.prog w = .ok (.value (.tuple #[])) w := run_call_mark0 Tryd.func113 (by kernel_rfl) (by kernel_rfl) (by kernel_rfl) .enable (by kernel_rfl) w
theorem race_acquire (a : Addr) (w : World) : (callFunc 114 #[.pointer (some a)]).run Tryd.prog w = .ok (.value (.tuple #[])) w := run_call_marked Tryd.func114 (by kernel_rfl) (by kernel_rfl) (by kernel_rfl) .acquire (by kernel_rfl) a w
theorem race_merge (a : Addr) (w : World) : (callFunc 116 #[.pointer (some a)]).run Tryd.prog w = .ok (.value (.tuple #[])) w := run_call_marked Tryd.func116 (by kernel_rfl) (by kernel_rfl) (by kernel_rfl) .releaseMerge (by kernel_rfl) a w
/-- Store(true) of an atomic Bool, entered as a deferred call. -/
theorem store_deferred (a : Addr) (x : Value) (u : FrameMode) (w : World) (hc : w.cell? a = some x) (hz : w.frozen? a = false) :
    CallsD Tryd.prog 103 #[.pointer (some a), .bool true] u w fun e u' w' => u' = u ∧ (e = .returned (.tuple #[]) ∧ w' = w.drew.setCell a (.int .u32 1)) := by
  have hc' : w.drew.cell? a = some x := by go_simp
  have hz' : w.drew.frozen? a = false := by go_simp
  have hst := run_call_store (P := Tryd.prog) Tryd.func120 (by kernel_rfl) (by kernel_rfl) (by kernel_rfl) (by kernel_rfl) (k := .u32) (y := 1) hc' hz'
  go_enter_d Tryd.func103, Tryd.ntmps103
  go_wp2
  go_region_calls
  all_goals (go_end0; exact ⟨rfl, rfl⟩)
/-- Unlock, entered as a deferred call, the lock held and nobody waiting. -/
theorem unlock_deferred (a : Addr) (u : FrameMode) (w : World) (hc : w.cell? a = some (.int .i32 1)) (hz : w.frozen? a = false) :
    CallsD Tryd.prog 78 #[.pointer (some a)] u w fun e u' w' => u' = u ∧ (e = .returned (.tuple #[]) ∧ w' = w.setCell a (.int .i32 0)) := by
  have hd := race_disable
  have he := race_enable
  have hr := race_merge
  have hadd := run_call_add (P := Tryd.prog) Tryd.func117 (by kernel_rfl) (by kernel_rfl) (by kernel_rfl) .i32 (by kernel_rfl) (y := -1) (s := 0) hc hz (by simp [go_sem]; rfl)
  have hcv := run_convert_to_unsafe (P := Tryd.prog) (src := 162) (dst := 166) Tryd.underlying162 Tryd.underlying166 (by kernel_rfl) hc
  go_enter_d Tryd.func78, Tryd.ntmps78
  go_wp2
  go_end0
  go_wp2
  all_goals (go_end0; exact ⟨rfl, rfl⟩)
/-- Lock, the lock free. -/
theorem lock_free (a : Addr) (w : World) (hc : w.cell? a = some (.int .i32 0)) (hz : w.frozen? a = false) :
    Calls Tryd.prog 77 #[.pointer (some a)] w fun e w' => e = .returned (.tuple #[]) ∧ w' = w.setCell a (.int .i32 1) := by
  have hd := race_disable
  have he := race_enable
  have ha := race_acquire
  have hcas := run_call_cas_hit (P := Tryd.prog) Tryd.func112 (by kernel_rfl) (by kernel_rfl) (by kernel_rfl) .i32 (by kernel_rfl) (y := 1) hc hz
  have hc' : (w.setCell a (.int .i32 1)).cell? a = some (.int .i32 1) := World.cell?_setCell_same w a _ hc
  have hcv := run_convert_to_unsafe (P := Tryd.prog) (src := 162) (dst := 166) Tryd.underlying162 Tryd.underlying166 (by kernel_rfl) hc'
  go_enter Tryd.func77, Tryd.ntmps77
  go_wp2
  first | go_end0 | (simp only [Exit.inBlock, Exit.then]; refine bodyPost_ret (results_none rfl _ _ _) rfl ?_) | refine bodyPost_ret (results_none rfl _ _ _) rfl ?_
  go_wp2
  all_goals (go_end0; exact ⟨rfl, rfl⟩)
theorem lock_row (b off : Nat) {C : Array Value} {t : TypeId} (w : World) (hb : w.heap[b]? = some (.cells C t (0, 0))) (hc : C[off]? = some (.int .i32 0)) :
    Calls Tryd.prog 77 #[.pointer (some ⟨b, off, none⟩)] w fun e w' => e = .returned (.tuple #[]) ∧ Kept [b] w w' ∧ w'.heap[b]? = some (.cells (C.setIfInBounds off (.int .i32 1)) t (0, 0)) :=
  (lock_free ⟨b, off, none⟩ w (by rw [cell_of_row w b off C t (0, 0) hb]; exact hc) (frozen_of_row w b off C t hb)).mono fun e w' ⟨h1, h2⟩ => by
    subst h2
    exact ⟨h1, ⟨rfl, rfl, rfl, by simp [World.setCell], fun k _ hk => heap_setCell_other _ _ _ _ (by simpa using hk)⟩, heap_setCell_same w b off C t _ hb⟩

end Go.Proofs.YtdejhenkdbjakaaDoor
namespace Go.Proofs.YtdejhenkdbjakaaDoor
open Go Go.RowKit
theorem set_same {l : List Nat} {k a : Nat} (h : l[k]? = some a) : l.set k a = l := by
  refine List.ext_getElem? fun i => ?_
  rw [List.getElem?_set]
  split
  · rename_i e; subst e
    split
    · exact h.symm
    · rename_i h2; rw [List.getElem?_eq_none (by omega)] at h; cases h
  · rfl
theorem Hp.put2 {X : List Nat} {w0 : World} {L : List Blk} {w w' : World} (H : Hp X w0 L w) {k k2 ad ad2 : Nat} {Z Z2 R R2 : Obj} (hk : L[k]? = some ⟨true, ad, Z⟩) (hk2 : L[k2]? = some ⟨true, ad2, Z2⟩) (hne : k ≠ k2) (hK : Kept [ad, ad2] w w') (h1 : w'.heap[ad]? = some R) (h2 : w'.heap[ad2]? = some R2) : Hp X w0 ((L.set k ⟨true, ad, R⟩).set k2 ⟨true, ad2, R2⟩) w' := by
  have hm1 := List.mem_of_getElem? hk
  have hm2 := List.mem_of_getElem? hk2
  have hads : ((L.set k ⟨true, ad, R⟩).set k2 ⟨true, ad2, R2⟩).map (·.ad) = L.map (·.ad) := by
    rw [List.map_set, List.map_set]
    have e1 : (L.map (·.ad))[k]? = some ad := by rw [List.getElem?_map, hk]; rfl
    have e2 : (L.map (·.ad))[k2]? = some ad2 := by rw [List.getElem?_map, hk2]; rfl
    show (((L.map (·.ad)).set k ad).set k2 ad2) = _
    rw [set_same e1, set_same e2]
  have hcase : ∀ p ∈ (L.set k ⟨true, ad, R⟩).set k2 ⟨true, ad2, R2⟩, p = ⟨true, ad, R⟩ ∨ p = ⟨true, ad2, R2⟩ ∨ (p ∈ L ∧ p.ad ≠ ad ∧ p.ad ≠ ad2) := fun p hp => by
    obtain ⟨j, hj, rfl⟩ := List.mem_iff_getElem.1 hp
    rw [List.getElem_set]
    split
    · exact .inr (.inl rfl)
    · rw [List.getElem_set]
      split
      · exact .inl rfl
      · rename_i n2 n1
        have hjl : j < L.length := by simpa using hj
        refine .inr (.inr ⟨List.getElem_mem _, ?_, ?_⟩)
        · exact fun e => H.apart (i := j) (j := k) (List.getElem?_eq_getElem hjl) hk (fun h => n1 h.symm) e
        · exact fun e => H.apart (i := j) (j := k2) (List.getElem?_eq_getElem hjl) hk2 (fun h => n2 h.symm) e
  refine ⟨H.kept.trans (fun y hy => ?_) hK, fun p hp => ?_, fun p hp ho => ?_, ?_⟩
  · simp only [List.mem_cons, List.not_mem_nil, or_false] at hy
    rcases hy with rfl | rfl
    · exact H.own _ hm1 rfl
    · exact H.own _ hm2 rfl
  · rcases hcase p hp with rfl | rfl | ⟨h3, h4, h5⟩
    · exact h1
    · exact h2
    · exact (hK.block _ (heap_in (H.held p h3)) (by simp [h4, h5])).trans (H.held p h3)
  · rcases hcase p hp with rfl | rfl | ⟨h3, h4, h5⟩
    · exact H.own ⟨true, ad, Z⟩ hm1 rfl
    · exact H.own ⟨true, ad2, Z2⟩ hm2 rfl
    · exact H.own p h3 ho
  · have hf := H.far
    rw [← List.pairwise_map (f := fun p : Blk => p.ad) (R := fun a b => a ≠ b)] at hf ⊢
    rw [hads]
    exact hf
theorem callsX_put2 {P : Program} {X : List Nat} {w0 : World} {L : List Blk} {f : Nat} {args : Array Value} {w : World} (H : Hp X w0 L w) {k k2 ad ad2 : Nat} {Z Z2 : Obj} {R R2 : SlR → Obj} {q : SlR → Prop} {v : SlR → Value} (hk : L[k]? = some ⟨true, ad, Z⟩) (hk2 : L[k2]? = some ⟨true, ad2, Z2⟩) (hne : k ≠ k2) (h : Calls P f args w fun en w' => ∃ r, en = .returned (v r) ∧ q r ∧ Kept [ad, ad2] w w' ∧ w'.heap[ad]? = some (R r) ∧ w'.heap[ad2]? = some (R2 r)) :
    Calls P f args w fun en w' => ∃ r : SlR, en = .returned (v r) ∧ q r ∧ Hp X w0 ((L.set k ⟨true, ad, R r⟩).set k2 ⟨true, ad2, R2 r⟩) w' :=
  h.mono fun _ w' ⟨r, h1, h2, h3, h4, h5⟩ => ⟨r, h1, h2, H.put2 hk hk2 hne h3 h4 h5⟩
theorem Hp.start3 {w : World} {gm sg pl : Nat} {om os op : Obj} (hm : w.heap[gm]? = some om) (hs : w.heap[sg]? = some os) (hp : w.heap[pl]? = some op) (h1 : gm ≠ sg) (h2 : gm ≠ pl) (h3 : sg ≠ pl) : Hp [gm, sg] w [⟨true, gm, om⟩, ⟨true, sg, os⟩, ⟨false, pl, op⟩] w :=
  ⟨Kept.refl _ _, (fun p hq => by
    simp only [List.mem_cons, List.not_mem_nil, or_false] at hq
    rcases hq with rfl | rfl | rfl
    · exact hm
    · exact hs
    · exact hp), (fun p hq ho => by
    simp only [List.mem_cons, List.not_mem_nil, or_false] at hq
    rcases hq with rfl | rfl | rfl
    · exact .inr (by simp)
    · exact .inr (by simp)
    · cases ho), List.pairwise_cons.2 ⟨(fun q hq => by
      simp only [List.mem_cons, List.not_mem_nil, or_false] at hq
      rcases hq with rfl | rfl
      · exact h1
      · exact h2), List.pairwise_cons.2 ⟨(fun q hq => by simp only [List.mem_singleton] at hq; subst hq; exact h3), List.pairwise_singleton _ _⟩⟩⟩

theorem load_row (b off : Nat) (d : Int) {C : Array Value} {t : TypeId} (w : World) (hb : w.heap[b]? = some (.cells C t (0, 0))) (hc : C[off]? = some (.int .u32 d)) : Calls Tryd.prog 83 #[.pointer (some ⟨b, off, none⟩)] w fun e w' => e = .returned (.bool (d != 0)) ∧ Kept [] w w' := by
  refine C_enter Tryd.func83 rfl 8 Tryd.ntmps83 (Nat.le_of_ble_eq_true rfl) (fun a F => ?_)
  have H := Hp.start1 [] hb
  replace F : Fm 8 [] [(0, pt b off)] a := F.weak _ (subL_of kr);refine C_seqK fun K1 hK1 => C_region ?_;refine T_k F H (.bool false) ?_;clear F; intro a F;refine wpList_nil (hK1 _ _ ?_);clear hK1;refine C_seqK fun K2 hK2 => C_region ?_;refine T_k F H (pt b off) ?_;clear F; intro a F;refine T_k F H (pt b off) ?_;clear F; intro a F;refine T_k F H (pt b off) ?_;clear F; intro a F;refine T_val F H kr (.int .u32 d) (fun w hL => R_call0 rfl (args := #[pt b off]) kr (run_call_load (P := Tryd.prog) Tryd.func102 kr kr kr .u32 kr (w := w) (a := ⟨b, off, none⟩) (x := d) (by rw [cell_of_row w b off C t (0, 0) (hL.at_ (k := 0) rfl)]; exact hc))) ?_;clear F; intro a F;refine T_val F H kr (.bool (d != 0)) (fun w _ => R_bin rfl (k := .u32) (a := d) (b := 0) kr kr rfl w) ?_;clear F; intro a F;refine T_k F H (.bool (d != 0)) ?_;clear F; intro a F;refine wpList_nil (hK2 _ _ ?_);clear hK2;refine wp_ret ?_
  exact C_ret F H (rs := [.tmp 2]) rfl (vs := [.bool (d != 0)]) (.tmp rfl .nil) (.bool (d != 0)) rfl ⟨rfl, H.kept⟩

theorem Hp.startGS {w : World} {gm sg : Nat} {om os : Obj} (hm : w.heap[gm]? = some om) (hs : w.heap[sg]? = some os) (h1 : gm ≠ sg) : Hp [gm, sg] w [⟨true, gm, om⟩, ⟨true, sg, os⟩] w :=
  ⟨Kept.refl _ _, (fun p hq => by
    simp only [List.mem_cons, List.not_mem_nil, or_false] at hq
    rcases hq with rfl | rfl
    · exact hm
    · exact hs), (fun p hq ho => by
    simp only [List.mem_cons, List.not_mem_nil, or_false] at hq
    rcases hq with rfl | rfl
    · exact .inr (by simp)
    · exact .inr (by simp)), List.pairwise_cons.2 ⟨(fun q hq => by simp only [List.mem_singleton] at hq; subst hq; exact h1), List.pairwise_singleton _ _⟩⟩

end Go.Proofs.YtdejhenkdbjakaaDoor
