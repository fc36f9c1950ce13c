/- slices.SortFunc of what an inbox holds, by the shelf's contract. -/
import Derived.Test.YtlnlppmhiobgjaaGV
import Derived.Test.YtlnlppmhiobgjaaGK
import Derived.Shelf.SlSortCmp.WholeK
set_option linter.unusedVariables false
set_option linter.unusedSimpArgs false
namespace Go.Proofs.Ytlnlppmhiobgjaa
open Go Go.RowKit Go.Shelf Go.Sort
theorem nan_any (x : Nat) (W : World) : Calls Try.prog 41 #[.int .u32 ((x : Nat) : Int)] W fun e w' => e = .returned (.bool false) ∧ w' = W := by
  go_enter Try.func41, Try.ntmps41
  go_wp2_with fail
  go_ret
  exact ⟨rfl, rfl⟩
theorem cmp_any (x y : Nat) (W : World) : Calls Try.prog 36 #[.int .u32 ((x : Nat) : Int), .int .u32 ((y : Nat) : Int)] W fun e w' => e = .returned (.int .i64 (Lib.compareInt x y)) ∧ w' = W := by
  unfold Lib.compareInt
  rcases Nat.lt_trichotomy x y with h | h | h
  · have h1 : ((x : Nat) : Int) < y := by omega
    rw [if_pos h1]
    go_enter Try.func36, Try.ntmps36
    go_wp2_with (go_at_call 41; refine (nan_any _ _).mono ?_; rintro e w' ⟨rfl, rfl⟩)
    go_ret
    exact ⟨rfl, rfl⟩
  · subst h
    rw [if_neg (by omega), if_neg (by omega)]
    go_enter Try.func36, Try.ntmps36
    go_wp2_with (go_at_call 41; refine (nan_any _ _).mono ?_; rintro e w' ⟨rfl, rfl⟩)
    go_ret
    exact ⟨rfl, rfl⟩
  · have h1 : ¬ ((x : Nat) : Int) < y := by omega
    have h2 : ((x : Nat) : Int) > y := by omega
    rw [if_neg h1, if_pos h2]
    go_enter Try.func36, Try.ntmps36
    go_wp2_with (go_at_call 41; refine (nan_any _ _).mono ?_; rintro e w' ⟨rfl, rfl⟩)
    go_ret
    exact ⟨rfl, rfl⟩
def sortH_ren : Go.Shelf.Ren := ⟨fun | 6 => 34 | 15 => 40 | 14 => 39 | 28 => 50 | 29 => 51 | 20 => 42 | 21 => 43 | 22 => 44 | 23 => 45 | 24 => 46 | 25 => 47 | 26 => 48 | 27 => 49 | 46 => 52 | 47 => 53 | 48 => 54 | 49 => 55 | 50 => 56 | 57 => 57 | n => n, fun | 22 => 31 | 24 => 60 | 25 => 79 | 3 => 3 | 39 => 84 | 0 => 0 | 53 => 29 | 55 => 48 | 4 => 4 | 46 => 88 | 45 => 87 | 50 => 92 | 5 => 5 | 9 => 9 | 66 => 95 | 70 => 99 | 76 => 101 | 77 => 102 | n => n, fun | n => n⟩
theorem sortH : Go.Proofs.SlLaysF0.n6 Try.prog sortH_ren := {
  mixed := by kernel_rfl,
  f6 := ⟨Try.f34.name, by decide, Try.func34.trans (congrArg some (by kernel_rfl))⟩,
  f14 := ⟨Try.f39.name, by decide, Try.func39.trans (congrArg some (by kernel_rfl))⟩,
  f15 := Try.func40.trans (congrArg some (by kernel_rfl)),
  f20 := ⟨Try.f42.name, by decide, Try.func42.trans (congrArg some (by kernel_rfl))⟩,
  f21 := ⟨Try.f43.name, by decide, Try.func43.trans (congrArg some (by kernel_rfl))⟩,
  f22 := ⟨Try.f44.name, by decide, Try.func44.trans (congrArg some (by kernel_rfl))⟩,
  f23 := ⟨Try.f45.name, by decide, Try.func45.trans (congrArg some (by kernel_rfl))⟩,
  f24 := ⟨Try.f46.name, by decide, Try.func46.trans (congrArg some (by kernel_rfl))⟩,
  f25 := ⟨Try.f47.name, by decide, Try.func47.trans (congrArg some (by kernel_rfl))⟩,
  f26 := ⟨Try.f48.name, by decide, Try.func48.trans (congrArg some (by kernel_rfl))⟩,
  f27 := ⟨Try.f49.name, by decide, Try.func49.trans (congrArg some (by kernel_rfl))⟩,
  f28 := Try.func50.trans (congrArg some (by kernel_rfl)),
  f29 := Try.func51.trans (congrArg some (by kernel_rfl)),
  f46 := ⟨Try.f52.name, by decide, Try.func52.trans (congrArg some (by kernel_rfl))⟩,
  f47 := Try.func53.trans (congrArg some (by kernel_rfl)),
  f48 := Try.func54.trans (congrArg some (by kernel_rfl)),
  f49 := ⟨Try.f55.name, by decide, Try.func55.trans (congrArg some (by kernel_rfl))⟩,
  f50 := ⟨Try.f56.name, by decide, Try.func56.trans (congrArg some (by kernel_rfl))⟩,
  f57 := ⟨Try.f57.name, by decide, Try.func57.trans (congrArg some (by kernel_rfl))⟩,
  t0 := Try.underlying0,
  a0 := Try.isAgg0,
  z0 := Try.sizeOf0,
  v0 := Try.zeroValue0,
  t3 := Try.underlying3,
  a3 := Try.isAgg3,
  z3 := Try.sizeOf3,
  v3 := Try.zeroValue3,
  t4 := Try.underlying4,
  a4 := Try.isAgg4,
  z4 := Try.sizeOf4,
  v4 := Try.zeroValue4,
  t5 := Try.underlying5,
  a5 := Try.isAgg5,
  z5 := Try.sizeOf5,
  v5 := Try.zeroValue5,
  t9 := Try.underlying9,
  a9 := Try.isAgg9,
  z9 := Try.sizeOf9,
  v9 := Try.zeroValue9,
  t22 := Try.underlying31,
  a22 := Try.isAgg31,
  z22 := Try.sizeOf31,
  v22 := Try.zeroValue31,
  t25 := Try.underlying79,
  a25 := Try.isAgg79,
  z25 := Try.sizeOf79,
  v25 := Try.zeroValue79,
  t39 := Try.underlying84,
  a39 := Try.isAgg84,
  z39 := Try.sizeOf84,
  v39 := Try.zeroValue84,
  t45 := Try.underlying87,
  a45 := Try.isAgg87,
  z45 := Try.sizeOf87,
  v45 := Try.zeroValue87,
  t46 := Try.underlying88,
  a46 := Try.isAgg88,
  z46 := Try.sizeOf88,
  v46 := Try.zeroValue88,
  t50 := Try.underlying92,
  a50 := Try.isAgg92,
  z50 := Try.sizeOf92,
  v50 := Try.zeroValue92,
  t53 := Try.underlying29,
  a53 := Try.isAgg29,
  z53 := Try.sizeOf29,
  v53 := Try.zeroValue29,
  t55 := Try.underlying48,
  a55 := Try.isAgg48,
  z55 := Try.sizeOf48,
  v55 := Try.zeroValue48,
  t66 := Try.underlying95,
  a66 := Try.isAgg95,
  z66 := Try.sizeOf95,
  v66 := Try.zeroValue95,
  t70 := Try.underlying99,
  a70 := Try.isAgg99,
  z70 := Try.sizeOf99,
  v70 := Try.zeroValue99,
  t76 := Try.underlying101,
  a76 := Try.isAgg101,
  z76 := Try.sizeOf101,
  v76 := Try.zeroValue101,
  t77 := Try.underlying102,
  a77 := Try.isAgg102,
  z77 := Try.sizeOf102,
  v77 := Try.zeroValue102 }

instance : Inhabited Cl := ⟨⟨true, 0, 0, [], []⟩⟩
def encH (x : Nat × Cl) : List Value := [.int .u32 ((x.1 : Nat) : Int), x.2.v]
theorem encH1 (x : Nat × Cl) : ∀ v ∈ encH x, v.oneCell' = true := fun v hv => by
  unfold encH at hv
  rcases List.mem_cons.1 hv with rfl | hv
  · rfl
  · rw [List.mem_singleton.1 hv]; exact x.2.one
def cfH (x y : Nat × Cl) : Int := Lib.compareInt x.1 y.1
theorem ltH (x y : Nat × Cl) : ltOf cfH x y = decide (x.1 < y.1) := by
  unfold ltOf cfH Lib.compareInt
  by_cases h1 : x.1 < y.1
  · rw [if_pos (by omega)]; simp [h1]
  · rw [if_neg (by omega)]
    by_cases h2 : y.1 < x.1
    · rw [if_pos (by omega)]; simp [h1]
    · rw [if_neg (by omega)]; simp [h1]
theorem swoH : SWO (ltOf cfH) where
  irrefl x := by rw [ltH]; simp
  trans x y z h1 h2 := by rw [ltH] at *; simp at *; omega
  ntrans x y z h1 h2 := by rw [ltH] at *; simp at *; omega
theorem clos35 (x y : Nat) (u v : Value) (hu : u.oneCell' = true) (hv : v.oneCell' = true) (W : World) : Calls Try.prog 35 #[.agg #[.int .u32 ((x : Nat) : Int), u], .agg #[.int .u32 ((y : Nat) : Int), v]] W fun e w' => e = .returned (.int .i64 (Lib.compareInt x y)) ∧ ∃ q os', w' = grow (W.drewN q) os' := by
  have hcon := fun W' => cmp_any x y W'
  generalize Lib.compareInt x y = r at hcon ⊢
  go_enter Try.func35, Try.ntmps35
  go_wp2_with (go_at_call 36; refine (hcon _).mono ?_; rintro e w' ⟨rfl, rfl⟩)
  go_ret
  exact ⟨rfl, 0, _, by rw [alloc_eq_grow, alloc_eq_grow, grow_grow]; rfl⟩
theorem sort_any (blk cap : Nat) (d : Array (Nat × Cl)) (w : World) (hH : HoldsK encH 2 w blk 0 d) (hblk : blk < w.heap.size) (hsz : d.size < 4611686018427387904) :
    Calls Try.prog 34 #[.slice (some ⟨blk, 0, none⟩) d.size cap, .func (.func 35) #[] #[]] w fun e w' => e = .returned (.tuple #[]) ∧ ∃ d' n os, PermIn 0 d.size d d' ∧ SortedIn (ltOf cfH) 0 d.size d' ∧ w' = sortWorldK encH 2 w blk 0 n d' os := by
  have eg : ∀ args w, (callFunc 35 args).run Try.prog w = .ok (.enter 35 args) w := enters_of Try.func35 (by kernel_rfl) rfl
  exact AnyQ.slices_SortFunc sortH 2 Try.isAgg60 Try.sizeOf60 encH (fun _ => rfl) encH1 cfH swoH 35 #[] blk 0 cap d w eg (fun _ _ _ _ x y => clos35 _ _ _ _ x.2.one y.2.one _) hH hblk hsz
theorem flatK_list (cs : List (Nat × Cl)) : flatK encH 2 cs.toArray = (cs.flatMap encH).toArray := by
  have hlen : (cs.flatMap encH).length = cs.length * 2 := by
    induction cs with
    | nil => rfl
    | cons c cs ih => rw [List.flatMap_cons, List.length_append, ih, List.length_cons]; show 2 + _ = _; omega
  refine ext_get! (by rw [size_flatK]; simpa using hlen.symm) fun t ht => ?_
  rw [size_flatK] at ht
  rw [get_flatK _ _ _ _ ht]
  have ht' : t < cs.length * 2 := ht
  have h1 : t / 2 < cs.length := by omega
  have h2 := flat_at (f := encH) (n := 2) (fun _ => rfl) (l := cs) (k := t / 2) (j := t % 2) (a := cs[t / 2]) (List.getElem?_eq_getElem h1) (Nat.mod_lt _ (by decide))
  rw [show t / 2 * 2 + t % 2 = t by omega] at h2
  have e1 : cs.toArray[t / 2]! = cs[t / 2] := getElem!_pos cs.toArray (t / 2) h1
  rw [e1]
  have h3 : t % 2 < (encH cs[t / 2]).length := Nat.mod_lt _ (by decide)
  have h5 : t < (cs.flatMap encH).toArray.size := by rw [List.size_toArray, hlen]; exact ht'
  rw [getElem!_pos (encH cs[t / 2]) (t % 2) h3, getElem!_pos (cs.flatMap encH).toArray t h5]
  rw [List.getElem?_eq_getElem h3] at h2
  have h4 : t < (cs.flatMap encH).length := by rw [hlen]; exact ht'
  rw [List.getElem?_eq_getElem h4] at h2
  simpa using (Option.some.inj h2).symm
theorem putCells_sl (fl fl' rest : List Value) (h : fl'.length = fl.length) : putCells id 0 fl'.toArray (sl fl rest) = sl fl' rest := by
  apply Array.ext_getElem?
  intro k
  unfold putCells sl
  rw [Array.getElem?_mapIdx]
  simp only [List.getElem?_toArray, List.size_toArray, Nat.zero_le, true_and, Nat.zero_add, Nat.sub_zero, id]
  by_cases hk : k < fl'.length
  · rw [List.getElem?_append_left (by omega), List.getElem?_append_left hk, List.getElem?_eq_getElem (by omega), List.getElem?_eq_getElem hk]
    simp [hk]
  · rw [List.getElem?_append_right (by omega), List.getElem?_append_right (by omega), h]
    have hk2 : ¬ k < fl.length := by rw [← h]; exact hk
    cases rest[k - fl.length]? with
    | none => rfl
    | some x => simp [hk2]
theorem put_hp {w w' : World} {g n T : Nat} {fr : Nat × Nat} {fl fl' rest : List Value} {os : Array Obj} (hg : w.heap[g]? = some (.cells (sl fl rest) T fr)) (hl : fl'.length = fl.length) (hw : w' = grow (putRow id (Go.Sort.ahead w n) g 0 fl'.toArray) os) : Hp [g] w [⟨true, g, .cells (sl fl' rest) T fr⟩] w' := by
  subst hw
  have hlt := heap_in hg
  have e : (putRow id (Go.Sort.ahead w n) g 0 fl'.toArray).heap = w.heap.modify g (onCells (putCells id 0 fl'.toArray)) := rfl
  have hsz : (putRow id (Go.Sort.ahead w n) g 0 fl'.toArray).heap.size = w.heap.size := by rw [e]; simp
  refine ⟨⟨rfl, rfl, rfl, by rw [size_grow, hsz]; omega, fun k hk hx => ?_⟩, fun p hp => ?_, fun p hp _ => ?_, by simp⟩
  · rw [heap_grow_old _ _ (by rw [hsz]; exact hk), e, Array.getElem?_modify, if_neg (fun h => hx (by rw [h]; exact List.mem_singleton.2 rfl))]
  · rw [List.mem_singleton.1 hp]
    show (grow _ _).heap[g]? = _
    rw [heap_grow_old _ _ (by rw [hsz]; exact hlt), e, Array.getElem?_modify, if_pos rfl, hg]
    show some (onCells _ _) = _
    rw [onCells, putCells_sl _ _ _ hl]
  · rw [List.mem_singleton.1 hp]; exact .inr (List.mem_singleton.2 rfl)
theorem encL (cs : List (Nat × Cl)) : (cs.flatMap encH).length = cs.length * 2 := by
  induction cs with
  | nil => rfl
  | cons c cs ih => rw [List.flatMap_cons, List.length_append, ih, List.length_cons]; show 2 + _ = _; omega
/-- What is sorted. -/
theorem sort_S (g cap : Nat) (cs : List (Nat × Cl)) (rest : List Value) (w : World) (hg : w.heap[g]? = some (.cells (sl (cs.flatMap encH) rest) 60 (0, 0))) (hsz : cs.length < 1000000) : Calls Try.prog 34 #[.slice (some ⟨g, 0, none⟩) cs.length cap, .func (.func 35) #[] #[]] w fun e w' => ∃ cs' : List (Nat × Cl), e = .returned (.tuple #[]) ∧ cs'.Perm cs ∧ cs'.Pairwise (fun a b => a.1 ≤ b.1) ∧ Hp [g] w [⟨true, g, .cells (sl (cs'.flatMap encH) rest) 60 (0, 0)⟩] w' := by
  have hH : HoldsK encH 2 w g 0 cs.toArray := by
    unfold HoldsK
    rw [flatK_list]
    intro j hj
    have hj' : j < (cs.flatMap encH).length := by simpa using hj
    have hc : (sl (cs.flatMap encH) rest)[0 + j]? = some (cs.flatMap encH)[j] := by rw [Nat.zero_add]; exact sl_get (List.getElem?_eq_getElem hj')
    refine ⟨?_, ?_⟩
    · rw [getElem!_pos (cs.flatMap encH).toArray j hj]
      simp only [World.cell?, hg, hc]
      simp [id]
    · simp [World.frozen?, hg]
  have h := sort_any g cap cs.toArray w hH (heap_in hg) (by simpa using (by omega : cs.length < 4611686018427387904))
  have e0 : cs.toArray.size = cs.length := by simp
  rw [e0] at h
  refine h.mono fun e w' ⟨h1, d', n, os, hp, hs, hw⟩ => ⟨d'.toList, h1, ?_, ?_, ?_⟩
  · have := hp.2.2
    rw [← e0, ← hp.1] at this
    rw [hp.1] at this
    rw [show d'.extract 0 cs.toArray.size = d' by rw [← hp.1]; simp] at this
    simpa using this
  · have hsz' : d'.size = cs.length := by rw [hp.1, e0]
    rw [List.pairwise_iff_getElem]
    intro i j hi hj hij
    have hi' : i < d'.size := by simpa using hi
    have hj' : j < d'.size := by simpa using hj
    have := hs i j (Nat.zero_le _) hij (by omega)
    rw [ltH, getElem!_pos d' i hi', getElem!_pos d' j hj'] at this
    simpa using this
  · refine put_hp hg ?_ (hw.trans ?_) (n := n) (os := os)
    · rw [encL, encL]
      have hsz' : d'.size = cs.length := by rw [hp.1, e0]
      simp [hsz']
    · unfold sortWorldK putRowK
      rw [← flatK_list d'.toList]
end Go.Proofs.Ytlnlppmhiobgjaa
