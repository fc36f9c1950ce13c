/- The reference's Close. -/
import Derived.Test.YtffgechbmhgndaaR4
import Derived.Test.YtffgechbmhgndaaT13
set_option linter.unusedVariables false
set_option linter.unusedSimpArgs false
namespace Go.Proofs.Ytffgechbmhgndaa
open Go.RowKit

namespace Ts
def kset (l : List Tm) (known : List Int) : List Bool := known.foldl (fun s k => s.set k.toNat true) (List.replicate l.length false)
theorem kset_eq (l : List Tm) (known : List Int) : kset l known = knownSet l known := rfl
theorem foldl_set_length : ∀ (known : List Int) (s : List Bool), (known.foldl (fun s k => s.set k.toNat true) s).length = s.length
  | [], s => rfl
  | k :: ks, s => by rw [List.foldl_cons, foldl_set_length ks]; simp
theorem kset_length (l : List Tm) (known : List Int) : (kset l known).length = l.length := by unfold kset; rw [foldl_set_length]; simp
theorem kset_next {l : List Tm} {known : List Int} {k : Nat} (hk : k < known.length) : kset l (known.take (k + 1)) = (kset l (known.take k)).set known[k].toNat true := by
  unfold kset; rw [List.take_succ_eq_append_getElem hk, List.foldl_append]; rfl
/-- A round, up to the place j. -/
def roundTo (l : List Tm) (s : List Bool) (j : Nat) : List Bool := (List.range l.length).map fun i => if i < j then s.getD i false || rstep l s i else s.getD i false
theorem roundTo_length (l : List Tm) (s : List Bool) (j : Nat) : (roundTo l s j).length = l.length := by simp [roundTo]
theorem roundTo_zero {l : List Tm} {s : List Bool} (hl : s.length = l.length) : roundTo l s 0 = s := by
  apply List.ext_getElem (by simp [roundTo, hl])
  intro i h1 h2
  simp [roundTo, List.getD, h2]
theorem roundTo_end (l : List Tm) (s : List Bool) : roundTo l s l.length = round l s := by
  unfold roundTo round
  apply List.map_congr_left
  intro i hi
  rw [if_pos (by simpa using hi)]
theorem roundTo_had {l : List Tm} {s : List Bool} {j : Nat} (h : s.getD j false = true) : roundTo l s (j + 1) = roundTo l s j := by
  unfold roundTo
  apply List.map_congr_left
  intro i hi
  by_cases e : i = j
  · subst e; rw [if_pos (by omega), if_neg (by omega), h]; rfl
  · by_cases e2 : i < j
    · rw [if_pos (by omega), if_pos e2]
    · rw [if_neg (by omega), if_neg e2]
theorem roundTo_new {l : List Tm} {s : List Bool} {j : Nat} (h : s.getD j false = false) : roundTo l s (j + 1) = (roundTo l s j).set j (rstep l s j) := by
  apply List.ext_getElem (by simp [roundTo])
  intro i h1 h2
  rw [List.getElem_set]
  simp only [roundTo, List.getElem_map, List.getElem_range]
  by_cases e : i = j
  · subst e; rw [if_pos (by omega), if_pos rfl, h]; rfl
  · have e' : ¬ j = i := fun h => e h.symm
    simp only [if_neg e']
    by_cases e2 : i < j
    · rw [if_pos (by omega), if_pos e2]
    · rw [if_neg (by omega), if_neg e2]
end Ts

/-- What the reference's Close tells. -/
inductive RCloseRes (w : World) (l : List Tm) (known : List Int) : Ending → World → Prop
  | shape (w' : World) : Ts.right l ≠ 0 → Below w.heap.size w w' → RCloseRes w l known (.returned (.tuple #[.slice none 0 0, .int .i64 (Ts.right l)])) w'
  | arg (w' : World) : Ts.right l = 0 → ¬ Ts.valid l known → Below w.heap.size w w' → RCloseRes w l known (.returned (.tuple #[.slice none 0 0, .int .i64 1])) w'
  | ok (u : Value) (w' : World) : Ts.right l = 0 → Ts.valid l known → RowAt w' u (bools (Ts.rclose l known)) → Below w.heap.size w w' → RCloseRes w l known (.returned (.tuple #[u, .int .i64 0])) w'

set_option maxRecDepth 100000 in
set_option maxHeartbeats 1000000 in
theorem rclose_bad {w : World} {l : List Tm} (vl v : Value) (known : List Int) (hl : TermsAt w vl l) (hr : Ts.right l ≠ 0) : Calls Try.prog 18 #[vl, v] w (RCloseRes w l known) := by
  have HR := Lib.hid (rright_any _ l w hl)
  have hr' : (Ts.right l != 0) = true := by simp [hr]
  have HF := Lib.hid (fun w1 hb => RCloseRes.shape (w := w) (known := known) w1 hr hb)
  generalize Ts.right l = e at *
  clear hr hl
  go_enter Try.func18, Try.ntmps18
  go_wp2_with fail
  refine HR.out.mono ?_
  rintro e1 w1 ⟨rfl, hb⟩
  have HFF := Lib.hid (HF.out w1 hb)
  go_wp2
  go_ret2
  exact HFF.out

theorem own_emptyB (w : World) (base : Nat) (hb : base ≤ w.heap.size) : (w.alloc (.cells #[] 4)).ownsRow base 4 1 (.slice (some ⟨w.heap.size, 0, none⟩) 0 0) 0 [] :=
  ⟨rfl, .inr ⟨w.heap.size, 0, #[], rfl, hb, heap_alloc_new w _, Nat.le_refl _, by unfold maxLen; omega, rfl, rfl⟩⟩
theorem copied_fin {w w3 : World} {g n cap : Nat} {s : List Bool} (hown : w3.ownsRow w.heap.size 4 1 (.slice (some ⟨g, 0, none⟩) (0 + n) cap) (0 + n) ([] ++ bools s)) (hgrow : (w.alloc (.cells #[] 4)).grownBy w3 (Value.slice (some ⟨w.heap.size, 0, none⟩) 0 0).ownBlock) :
    Below w.heap.size w w3 ∧ w3.ownsRow w.heap.size 4 1 (.slice (some ⟨g, 0, none⟩) n cap) n (bools s) := by
  rw [Nat.zero_add, List.nil_append] at hown
  exact ⟨((Below.refl w.heap.size w).alloc (Nat.le_refl _) _).grown hgrow (by simp) (by intro k h; simp [Value.ownBlock] at h; omega), hown⟩
theorem bools_one (s : List Bool) : ∀ u ∈ bools s, u.oneCell' = true := by
  simp only [bools, List.mem_map]
  rintro u ⟨b, _, rfl⟩
  rfl
theorem round_store {w : World} {base g n c j : Nat} {s t : List Bool} {x : Bool} (ho : w.ownsRow base 4 1 (.slice (some ⟨g, 0, none⟩) n c) n (bools s)) (h : t = s.set j x) :
    (w.setCell ⟨g, j, none⟩ (.bool x)).ownsRow base 4 1 (.slice (some ⟨g, 0, none⟩) n c) n (bools t) := by
  rw [h]
  have := own_store ho j (.bool x)
  simpa [bools, List.map_set] using this
theorem cells_row {w : World} {base n c g : Nat} {s : List Bool} (h : w.ownsRow base 4 1 (.slice (some ⟨g, 0, none⟩) n c) n (bools s)) (hn : n = s.length) {w1 : World} (hb : Below w.heap.size w w1) : ∀ j u, (bools s)[j]? = some u → w1.cell? ((⟨g, 0, none⟩ : Addr).add j) = some u := by
  intro j u hj
  have hl := (List.getElem?_eq_some_iff.1 hj).1
  rw [bools_length] at hl
  obtain ⟨g', c', he, _, hg, cur, hcur, _⟩ := own_some h (by omega)
  simp only [Value.slice.injEq, Option.some.injEq, Addr.mk.injEq, and_true, true_and] at he
  obtain ⟨rfl, rfl⟩ := he
  rw [bools_get _ _ hl] at hj
  have hb' := bool_cell h hn j hl
  have hadd : (⟨g, 0, none⟩ : Addr).add j = ⟨g, j, none⟩ := by unfold Addr.add; split <;> simp_all
  rw [hadd, hb.cell (p := ⟨g, j, none⟩) (heap_lt hcur), hb', ← hj]
  simp [List.getD, hl]

theorem kset_new {w w1 w2 : World} {l : List Tm} {known : List Int} {g : Nat} (hb : Below w.heap.size w w1) (hg : w1.grownBy w2 none) (ho : w2.ownsRow w.heap.size 4 1 (.slice (some ⟨g, 0, none⟩) l.length l.length) l.length (madeCells (Value.bool false).cells (l.length * 1)).toList) :
    Below w.heap.size w w2 ∧ w2.ownsRow w.heap.size 4 1 (.slice (some ⟨g, 0, none⟩) l.length l.length) l.length (bools (Ts.kset l (known.take 0))) := by
  rw [made_false] at ho
  exact ⟨hb.grown hg hb.size (by simp), ho⟩

set_option maxRecDepth 100000 in
set_option maxHeartbeats 8000000 in
theorem rclose_ok {w : World} {l : List Tm} (vl v : Value) (known : List Int) (hl : TermsAt w vl l) (hr : Ts.right l = 0) (hk : RowAt w v (intsV known)) : Calls Try.prog 18 #[vl, v] w (RCloseRes w l known) := by
  have HR := Lib.hid (rright_any _ l w hl)
  have HARG := Lib.hid (fun w1 hv hb => RCloseRes.arg (w := w) (known := known) w1 hr hv hb)
  have HOK := Lib.hid (fun u w1 hv hu hb => RCloseRes.ok (w := w) (known := known) u w1 hr hv hu hb)
  obtain ⟨h200, hsh⟩ := Ts.right_zero hr
  have HSH := Lib.hid hsh
  rw [hr] at HR
  have HL := Lib.hid hl
  obtain ⟨A, c, rfl, hc, hm⟩ := RowsAt.form hl
  have HK := Lib.hid hk
  obtain ⟨K, ck, rfl, hck, hmk, _⟩ := hk
  rw [intsV_length] at hck hmk HK ⊢
  obtain ⟨i0, hi0, hz0, hz1, hz2⟩ := info_parts info4'
  clear hl hr hsh
  go_enter Try.func18, Try.ntmps18
  go_wp2_with fail
  refine HR.out.mono ?_
  rintro e1 w1 ⟨rfl, hb⟩
  have hsz := hb.size
  go_wp2_with (with_reducible refine wpList_make_full _ rfl (.tmp 18) (.tmp 18) 30 rfl w.heap.size 4 i0 (.bool false) 1 Try.underlying30 hi0 hz0 hz1 .i64 .i64 _ _ l.length rfl rfl rfl rfl (by rw [hz2]; omega) (by unfold maxLen; omega) hsz ?_; intro w2 hown hgrow; have HNEW := Lib.hid (kset_new (known := known) hb hgrow hown); clear hown hgrow)
  go_loopw [4, 5, 8] (fun _ _ i' wr => ∃ k : Nat, k ≤ known.length ∧ i' = .int .i64 k ∧ Below w.heap.size w wr ∧ wr.ownsRow w.heap.size 4 1 (.slice (some ⟨w1.heap.size, 0, none⟩) l.length l.length) l.length (bools (Ts.kset l (known.take k))) ∧ Ts.valid l (known.take k)) (fun _ _ i' _ => known.length - (intOf i').toNat)
  case atStart => exact ⟨0, Nat.zero_le _, rfl, HNEW.out.1, HNEW.out.2, by intro x hx; simp at hx⟩
  case round =>
    obtain ⟨k, hkk, rfl, hbk, how, hval⟩ := hrel
    have HBK := Lib.hid hbk
    have HOW := Lib.hid how; clear how
    have HVAL := Lib.hid hval; clear hval
    by_cases hlt : k < known.length
    · obtain ⟨g, off, c', he, _, hg, hx⟩ := HK.out.cell (by rw [intsV_length]; omega)
      simp only [Value.slice.injEq, intsV_length, true_and] at he
      obtain ⟨rfl, rfl⟩ := he
      have x1 := (hbk.cell (p := ⟨g, off + k, none⟩) hg).trans (hx k _ (intsV_get known k hlt))
      clear hx hbk
      have HT := Lib.hid (show known.take (k + 1) = known.take k ++ [known[k]] from List.take_succ_eq_append_getElem hlt)
      have HM := Lib.hid (show known[k] ∈ known from List.getElem_mem hlt)
      have HS := Lib.hid (Ts.kset_next (l := l) hlt)
      generalize known[k] = x at *
      by_cases hx0 : x < 0
      · have HBAD := Lib.hid (HARG.out wr (fun h => by have := (h x HM.out).1; omega) HBK.out)
        go_wp2
        go_ret2
        exact HBAD.out
      · have hx0' : decide (x < 0) = false := by simp; omega
        by_cases hx1 : (l.length : Int) ≤ x
        · have HBAD := Lib.hid (HARG.out wr (fun h => by have := (h x HM.out).2; omega) HBK.out)
          go_wp2
          go_ret2
          exact HBAD.out
        · have hx1' : decide ((l.length : Int) ≤ x) = false := by simp; omega
          have hx2 : x < (l.length : Int) := by omega
          have hx3 : 0 ≤ x := by omega
          obtain ⟨g', c', he', _, hge, cur, hcur, _⟩ := own_some HOW.out (by omega)
          simp only [Value.slice.injEq, Option.some.injEq, Addr.mk.injEq, and_true, true_and] at he'
          obtain ⟨rfl, rfl⟩ := he'
          have f1 : wr.frozen? ⟨w1.heap.size, x.toNat, none⟩ = false := frozen_of_blk hcur _
          have x2 : wr.cell? ⟨w1.heap.size, x.toNat, none⟩ = some (.bool ((Ts.kset l (known.take k)).getD x.toNat false)) := bool_cell HOW.out (Ts.kset_length _ _).symm _ (by rw [Ts.kset_length]; omega)
          have HV2 := Lib.hid (show Ts.valid l (known.take (k + 1)) by
            rw [HT.out]
            intro y hy
            simp only [List.mem_append, List.mem_singleton] at hy
            rcases hy with hy | rfl
            · exact HVAL.out y hy
            · exact ⟨hx3, hx2⟩)
          have HO3 := Lib.hid (show (wr.setCell ⟨w1.heap.size, x.toNat, none⟩ (.bool true)).ownsRow w.heap.size 4 1 (.slice (some ⟨w1.heap.size, 0, none⟩) l.length l.length) l.length (bools (Ts.kset l (known.take (k + 1)))) by
            rw [HS.out]
            have := own_store HOW.out x.toNat (.bool true)
            simpa [bools, List.map_set] using this)
          have HB3 := Lib.hid (HBK.out.setCell (p := ⟨w1.heap.size, x.toNat, none⟩) hsz (.bool true))
          clear hcur hx0 hx1
          go_wp2
          go_roundw
          case rel => exact ⟨k + 1, hlt, by go_num, HB3.out, HO3.out, HV2.out⟩
          case measure => simp [intOf]; omega
    · have HV3 := Lib.hid (show Ts.valid l known by have := HVAL.out; rwa [List.take_of_length_le (by omega)] at this)
      have HO3 := Lib.hid (show wr.ownsRow w.heap.size 4 1 (.slice (some ⟨w1.heap.size, 0, none⟩) l.length l.length) l.length (bools (Ts.rounds l 0 (Ts.knownSet l known))) by have := HOW.out; rwa [List.take_of_length_le (by omega)] at this)
      clear hbk
      go_wp2
      go_loopw [7, 9, 10, 11] (fun v7 i' _ _ wr2 => ∃ k : Nat, k ≤ l.length + 1 ∧ i' = .int .i64 k ∧ Below w.heap.size w wr2 ∧ wr2.ownsRow w.heap.size 4 1 v7 l.length (bools (Ts.rounds l k (Ts.knownSet l known)))) (fun _ i' _ _ _ => l.length + 1 - (intOf i').toNat)
      case atStart => exact ⟨0, Nat.zero_le _, rfl, HBK.out, HO3.out⟩
      case round =>
        obtain ⟨k2, hk2, rfl, hb2, ho2⟩ := hrel
        have HB2 := Lib.hid hb2
        have HO2 := Lib.hid ho2
        have hsz2 := hb2.size
        clear hb2 ho2
        have HSL := Lib.hid (show (Ts.rounds l k2 (Ts.knownSet l known)).length = l.length from Ts.rounds_length (Ts.kset_length l known) k2)
        have HNX := Lib.hid (show Ts.rounds l (k2 + 1) (Ts.knownSet l known) = Ts.round l (Ts.rounds l k2 (Ts.knownSet l known)) from rfl)
        by_cases hlt2 : k2 ≤ l.length
        · generalize Ts.rounds l k2 (Ts.knownSet l known) = s at *
          have HE0 := Lib.hid (own_emptyB wr wr.heap.size (Nat.le_refl _))
          by_cases h0 : l.length = 0
          · obtain ⟨A7, c7, rfl, hc7⟩ := own_form HO2.out
            have HBZ := Lib.hid (HB2.out.alloc (o := .cells #[] 4) hsz2)
            have HOZ := Lib.hid (show (wr.alloc (.cells #[] 4)).ownsRow w.heap.size 4 1 (.slice (some ⟨wr.heap.size, 0, none⟩) 0 0) l.length (bools (Ts.rounds l (k2 + 1) (Ts.knownSet l known))) by
              rw [HNX.out, h0, show Ts.round l s = [] by simp [Ts.round, h0]]
              exact own_base' HE0.out hsz2)
            have H0 := Lib.hid h0
            have hd1 : decide ((0 : Int) < l.length) = false := decide_eq_false (by omega)
            have hd2 : decide (0 < l.length) = false := decide_eq_false (by omega)
            clear h0
            go_wp2_with (at_builtin; refine wpList_append_nothing _ rfl (.tmp 52) (.tmp 53) 30 rfl 4 i0 Try.underlying30 hi0 wr.heap.size 0 0 0 rfl (Nat.le_refl _) A7 c7 (congrArg (fun n => Value.slice A7 n c7) H0.out) ?_)
            go_loopw [11] (fun i' wr' => i' = .int .i64 0 ∧ wr' = wr.alloc (.cells #[] 4)) (fun _ _ => 0)
            case atStart => exact ⟨rfl, rfl⟩
            case round =>
              obtain ⟨rfl, rfl⟩ := hrel
              go_wp2
              go_roundw
              case rel => exact ⟨k2 + 1, by omega, by go_num, HBZ.out, HOZ.out⟩
              case measure => simp [intOf]; omega
          · obtain ⟨g7, c7, rfl, hc7, hg7, cur7, hcur7, _⟩ := own_some HO2.out (by omega)
            have HCR := Lib.hid (cells_row HO2.out HSL.out.symm ((Below.refl wr.heap.size wr).alloc (Nat.le_refl _) (.cells #[] 4)))
            go_wp2_with (at_builtin; refine wpList_append_lies _ rfl (.tmp 52) (.tmp 53) 30 rfl wr.heap.size 4 i0 (.bool false) 1 1 Try.underlying30 hi0 hz0 hz1 hz2 rfl (by decide) (.slice (some ⟨wr.heap.size, 0, none⟩) 0 0) 0 [] rfl HE0.out ⟨g7, 0, none⟩ l.length c7 (bools s) rfl (by rw [bools_length, HSL.out, Nat.mul_one]) HCR.out (bools_one s) (by omega) (by unfold maxLen; omega) (by omega) (by simp) _ rfl ?_; intro g3 cap3 w3 hown3 hgrow3 hat3 hlt3; have HC := Lib.hid (copied_fin hown3 hgrow3); clear hown3 hgrow3 hat3)
            have HC1 := Lib.hid HC.out.1
            have HC2 := Lib.hid (show w3.ownsRow wr.heap.size 4 1 (.slice (some ⟨g3, 0, none⟩) l.length cap3) l.length (bools (Ts.roundTo l s 0)) by rw [Ts.roundTo_zero HSL.out]; exact HC.out.2)
            clear HC HCR HE0
            have HOLD := Lib.hid (fun (x : World) (hx : Below wr.heap.size wr x) (j : Nat) (hj : j < l.length) => (hx.cell (p := ⟨g7, j, none⟩) (heap_lt hcur7)).trans (bool_cell HO2.out HSL.out.symm j (by rw [HSL.out]; exact hj)))
            have HOLR := Lib.hid (fun (x : World) (hx : Below wr.heap.size wr x) => (RowAt.of_own HO2.out).below hx)
            have HOLL := Lib.hid (fun (x : World) (hx : Below wr.heap.size wr x) => HL.out.below (HB2.out.trans (hx.mono hsz2)))
            have HOLB := Lib.hid (fun (x : World) (hx : Below wr.heap.size wr x) => HB2.out.trans (hx.mono hsz2))
            go_loopw [11] (fun i' wr' => ∃ j : Nat, j ≤ l.length ∧ i' = .int .i64 j ∧ Below wr.heap.size wr wr' ∧ wr'.ownsRow wr.heap.size 4 1 (.slice (some ⟨g3, 0, none⟩) l.length cap3) l.length (bools (Ts.roundTo l s j))) (fun i' _ => l.length - (intOf i').toNat)
            case atStart => exact ⟨0, Nat.zero_le _, rfl, HC1.out, HC2.out⟩
            case round =>
              obtain ⟨j, hj, rfl, hbj, hoj⟩ := hrel
              have HBJ := Lib.hid hbj
              have HOJ := Lib.hid hoj
              have hszj := hbj.size
              by_cases hlt3 : j < l.length
              · have x1 := HOLD.out _ hbj j hlt3
                clear hbj hoj
                have HHAD := Lib.hid (Ts.roundTo_had (l := l) (s := s) (j := j))
                have HNEW2 := Lib.hid (Ts.roundTo_new (l := l) (s := s) (j := j))
                generalize s.getD j false = sj at x1 HHAD HNEW2
                cases sj
                · have HCALL := Lib.hid (rstep_any _ (.slice (some ⟨g7, 0, none⟩) l.length c7) l s j wr (HOLL.out _ HBJ.out) (HOLR.out _ HBJ.out) HSL.out HSH.out hlt3)
                  go_wp2_with fail
                  refine HCALL.out.mono ?_
                  rintro e w4 ⟨rfl, hb4⟩
                  have HB4 := Lib.hid (HBJ.out.trans (hb4.mono hszj))
                  have HO4 := Lib.hid (own_keep HOJ.out fun k hk => hb4.block k (own_obl_lt HOJ.out hk))
                  obtain ⟨g', c', he', _, hge, cur, hcur, _⟩ := own_some HO4.out (by omega)
                  simp only [Value.slice.injEq, Option.some.injEq, Addr.mk.injEq, and_true, true_and] at he'
                  obtain ⟨rfl, rfl⟩ := he'
                  have f1 : w4.frozen? ⟨g3, j, none⟩ = false := frozen_of_blk hcur _
                  have x2 : w4.cell? ⟨g3, j, none⟩ = some (.bool ((Ts.roundTo l s j).getD j false)) := bool_cell HO4.out (Ts.roundTo_length _ _ _).symm _ (by rw [Ts.roundTo_length]; exact hlt3)
                  have HO6 := Lib.hid (round_store HO4.out (HNEW2.out (by simp)))
                  have HB6 := Lib.hid (HB4.out.setCell (p := ⟨g3, j, none⟩) hge (.bool (Ts.rstep l s j)))
                  clear hcur hb4
                  go_wp2
                  go_roundw
                  case rel => exact ⟨j + 1, hlt3, by go_num, HB6.out, HO6.out⟩
                  case measure => simp [intOf]; omega
                · have HX := Lib.hid (HHAD.out rfl)
                  go_wp2
                  go_roundw
                  case rel => exact ⟨j + 1, hlt3, by go_num, HBJ.out, by rw [HX.out]; exact HOJ.out⟩
                  case measure => simp [intOf]; omega
              · have HX := Lib.hid (show wr.ownsRow w.heap.size 4 1 (.slice (some ⟨g3, 0, none⟩) l.length cap3) l.length (bools (Ts.rounds l (k2 + 1) (Ts.knownSet l known))) by
                  rw [HNX.out, ← Ts.roundTo_end]
                  have h := own_base' HOJ.out hsz2
                  rwa [show j = l.length by omega] at h)
                have HXB := Lib.hid (HOLB.out _ HBJ.out)
                go_wp2
                go_roundw
                case rel => exact ⟨k2 + 1, by omega, by go_num, HXB.out, HX.out⟩
                case measure => simp [intOf]; omega
        · obtain ⟨gz, cz, rfl, _⟩ := own_form HO2.out
          have HFIN := Lib.hid (HOK.out _ wr HV3.out (by have h := RowAt.of_own HO2.out; rw [show k2 = l.length + 1 by omega] at h; exact h) HB2.out)
          go_wp2
          go_ret2
          exact HFIN.out

end Go.Proofs.Ytffgechbmhgndaa
