/- Bools of the reference; leaks; awake. -/
import Derived.Test.YtffgechbmhgndaaL3
import Derived.Test.YtffgechbmhgndaaL5
set_option linter.unusedVariables false
set_option linter.unusedSimpArgs false
namespace Go.Proofs.Ytffgechbmhgndaa
open Go.RowKit

set_option maxRecDepth 100000 in
set_option maxHeartbeats 1000000 in
theorem bools_any (va vb : Value) (a b : List Bool) (w : World) (ha : RowAt w va (bools a)) (hb : RowAt w vb (bools b)) :
    Calls Try.prog 21 #[va, vb] w fun r w' => r = .returned (.bool (decide (a = b))) ∧ ∃ n, w' = w.drewN n := by
  have hla := bools_length a
  have hlb := bools_length b
  have HA := Lib.hid ha
  have HB := Lib.hid hb
  obtain ⟨A, ca, rfl, hca⟩ := ha.form
  obtain ⟨B, cb, rfl, hcb⟩ := hb.form
  obtain ⟨_, _, _, _, hma, _⟩ := ha
  rw [hla] at hca hma
  rw [hlb] at hcb
  clear hb
  by_cases hne : a.length = b.length
  · have hneq : ((a.length : Int) != b.length) = false := by simp [hne]
    rw [hla, hlb]
    have HN := Lib.hid hne; have HLA := Lib.hid hla; have HLB := Lib.hid hlb; clear hne hla hlb
    go_enter Try.func21, Try.ntmps21
    go_wp2
    go_loopw [5] (fun i wr => ∃ k : Nat, k ≤ a.length ∧ i = .int .i64 k ∧ a.take k = b.take k ∧ ∃ n, wr = w.drewN n) (fun i _ => a.length - (intOf i).toNat)
    case atStart => exact ⟨0, Nat.zero_le _, rfl, rfl, 0, rfl⟩
    case round =>
      obtain ⟨k, hk, rfl, htk, nd, rfl⟩ := hrel
      have HT := Lib.hid htk; clear htk
      by_cases hlt : k < a.length
      · have hltb : k < b.length := by have := HN.out; omega
        obtain ⟨g, off, c, he, _, hg, hx⟩ := HA.out.cell (by rw [HLA.out]; omega)
        obtain ⟨g2, off2, c2, he2, _, hg2, hx2⟩ := HB.out.cell (by rw [HLB.out]; omega)
        simp only [Value.slice.injEq, true_and] at he he2
        obtain ⟨rfl, rfl⟩ := he
        obtain ⟨rfl, rfl⟩ := he2
        have x1 := hx k _ (bools_get a k hlt)
        have x2 := hx2 k _ (bools_get b k hltb)
        clear hx hx2
        have hab : ∀ x y, a[k] = x → b[k] = y → x = y → a.take (k + 1) = b.take (k + 1) := by
          intro x y h1 h2 h3
          rw [List.take_succ_eq_append_getElem hlt, List.take_succ_eq_append_getElem hltb, HT.out, h1, h2, h3]
        have hab2 : ∀ x y, a[k] = x → b[k] = y → x ≠ y → decide (a = b) = false := by
          intro x y h1 h2 h3
          simp only [decide_eq_false_iff_not]
          rintro rfl
          exact h3 (h1.symm.trans h2)
        have H1 := Lib.hid hab; have H2 := Lib.hid hab2; clear hab hab2
        cases hxa : a[k] <;> cases hxb : b[k]
        all_goals
          rw [hxa] at x1
          rw [hxb] at x2
          have HXA := Lib.hid hxa; have HXB := Lib.hid hxb; clear hxa hxb
          go_wp2
          go_quiet (fail)
          go_wp2
          first
            | (go_ret; exact ⟨ret_bool (H2.out _ _ HXA.out HXB.out (by decide)).symm, _, World.drewN_drewN _ _ _⟩)
            | (go_roundw
               case rel => exact ⟨k + 1, hlt, by go_num, H1.out _ _ HXA.out HXB.out rfl, _, rfl⟩
               case measure => simp [intOf]; omega)
      · go_wp2
        go_ret
        refine ⟨ret_bool ?_, _, rfl⟩
        have h1 := HT.out
        have := HN.out
        rw [List.take_of_length_le (by omega), List.take_of_length_le (by omega)] at h1
        simp [h1]
  · have hneq : ((a.length : Int) != b.length) = true := by simp; omega
    have e : decide (a = b) = false := by simp only [decide_eq_false_iff_not]; rintro rfl; exact hne rfl
    rw [hla, hlb, e]
    clear hla hlb hne e
    go_enter Try.func21, Try.ntmps21
    go_wp2
    go_ret
    exact ⟨rfl, 0, rfl⟩

namespace Led
def zero : Led := ⟨[], 0, 0, []⟩
def run (L : Led) (l : List Int) : Led := l.foldl next L
theorem run_snoc (L : Led) (l : List Int) (e : Int) : L.run (l ++ [e]) = (L.run l).next e := by simp [run]
theorem next_ok {L : Led} (h : L.Ok) (hs : L.seen.length < 1000) (e : Int) : (L.next e).Ok := by
  obtain ⟨h1, h2, h3, h4, h5⟩ := h
  unfold next
  split
  · split
    · exact ⟨h1, h2, h3, h4, h5⟩
    · refine ⟨by simp; omega, by simp; omega, h3, h4, ?_⟩
      intro x hx
      simp at hx
      rcases hx with hx | rfl
      · exact h5 x hx
      · exact h3
  · split
    · split
      · exact ⟨h1, h2, h3, h4, h5⟩
      · exact ⟨h1, by simp; omega, h3, h4, h5⟩
    · split
      · split
        · exact ⟨h1, h2, h3, h4, h5⟩
        · exact ⟨h1, h2, by simp; omega, h4, h5⟩
      · split
        · exact ⟨h1, h2, h3, by simp; omega, h5⟩
        · exact ⟨h1, h2, h3, h4, h5⟩
theorem next_seen (L : Led) (e : Int) : (L.next e).seen.length ≤ L.seen.length + 1 := by
  unfold next
  repeat' split
  all_goals simp
theorem run_okAux (l : List Int) : ∀ (L : Led), L.Ok → L.seen.length + l.length ≤ 1000 → (L.run l).Ok ∧ (L.run l).seen.length ≤ L.seen.length + l.length := by
  induction l with
  | nil => intro L h _; exact ⟨h, Nat.le_refl _⟩
  | cons e l ih =>
    intro L h hs
    simp only [List.length_cons] at hs
    have := next_seen L e
    obtain ⟨h1, h2⟩ := ih (L.next e) (next_ok h (by omega) e) (by omega)
    refine ⟨h1, ?_⟩
    simp only [List.length_cons]
    show (Led.run (L.next e) l).seen.length ≤ _
    omega
theorem zero_ok : zero.Ok := ⟨by simp [zero], by simp [zero], by simp [zero], by simp [zero], by simp [zero]⟩
theorem run_ok (l : List Int) (h : l.length ≤ 1000) : (zero.run l).Ok := (run_okAux l zero zero_ok (by simpa [zero] using h)).1
theorem run_seen (l : List Int) (h : l.length ≤ 1000) : (zero.run l).seen.length ≤ l.length := by
  have := (run_okAux l zero zero_ok (by simpa [zero] using h)).2
  simpa [zero] using this
end Led

theorem do_any {w : World} {b : Nat} {L : Led} {fs : List Nat} (h : LedAt w b L fs) (ok : L.Ok) (ev : Int) :
    Calls Try.prog 13 #[.pointer (some ⟨b, 0, none⟩), .int .i64 ev] w fun r w' => r = .returned (.int .i64 (L.err ev)) ∧ Goes w b (L.next ev) fs w' := by
  by_cases h1 : ev = 1
  · subst h1; exact do_1 h ok
  by_cases h2 : ev = 2
  · subst h2; exact do_2 h ok
  by_cases h3 : ev = 3
  · subst h3; exact do_3 h ok
  by_cases h4 : ev = 4
  · subst h4; exact do_4 h ok
  by_cases h5 : ev = 5
  · subst h5; exact do_5 h ok
  have e1 : L.err ev = 1 := by simp [Led.err, *]
  have e2 : L.next ev = L := by simp [Led.next, *]
  rw [e1, e2]
  refine (do_none ev (by omega)).mono ?_
  rintro e w' ⟨he, hb⟩
  exact ⟨he, Goes.same h (Fr.of_below hb _)⟩

theorem LedAt.new (w : World) : LedAt (w.alloc (.cells #[.slice none 0 0, .int .i64 0, .int .i64 0, .slice none 0 0] 27)) w.heap.size Led.zero [w.heap.size] :=
  ⟨_, _, heap_alloc_new w _, by simp [World.ownsRow, Led.zero, Led.ints], by simp [World.ownsRow, Led.zero, Led.seenCells], by simp [obl, Value.ownBlock]⟩

/-- A ledger of the call's own, behind events 'l'. -/
def Own (w : World) (b : Nat) (L : Led) (w' : World) : Prop := ∃ fs, LedAt w' b L fs ∧ Below w.heap.size w w' ∧ ∀ k, k ∈ fs → w.heap.size ≤ k
theorem Own.goes {w w1 w2 : World} {b : Nat} {L1 : Led} {fs : List Nat} (hf : ∀ k, k ∈ fs → w.heap.size ≤ k) (hb : Below w.heap.size w w1) (h : Goes w1 b L1 fs w2) : Own w b L1 w2 := by
  obtain ⟨fs', h1, h2, h3⟩ := h
  refine ⟨fs', h1, ?_, fun k hk => (h3 k hk).elim (hf k) fun h => Nat.le_trans hb.size h⟩
  exact (Fr.trans (H := fs) (Fr.of_below hb []) h2 (by simp) (fun _ h _ => h)).mono (G := []) (fun k hk hlt => absurd (hf k hk) (by omega)) |>.below
theorem Own.later {w w1 w2 : World} {b : Nat} {L : Led} (h : Own w b L w1) (hb : Below w1.heap.size w1 w2) : Own w b L w2 := by
  obtain ⟨fs, h1, h2, h3⟩ := h
  exact ⟨fs, h1.keep fun k hk => hb.block k (h1.lt k hk), h2.trans (hb.mono h2.size), h3⟩
theorem Own.new (w : World) : Own w w.heap.size Led.zero (w.alloc (.cells #[.slice none 0 0, .int .i64 0, .int .i64 0, .slice none 0 0] 27)) :=
  ⟨_, LedAt.new w, (Below.refl _ _).alloc (Nat.le_refl _) _, by simp⟩

set_option maxHeartbeats 1000000 in
theorem leaks_any (v : Value) (l : List Int) (w : World) (hl : l.length ≤ 100) (hv : RowAt w v (intsV l)) :
    Calls Try.prog 31 #[v] w (RetBools w (Led.zero.run l).leaked) := by
  have HV := Lib.hid hv
  obtain ⟨A, c, rfl, hc⟩ := hv.form
  rw [intsV_length] at hc ⊢
  clear hv
  go_enter Try.func31, Try.ntmps31
  go_wp2
  have hnew := Own.new w
  have HN := Lib.hid hnew; clear hnew
  go_loopw [4] (fun i wr => ∃ k : Nat, k ≤ l.length ∧ i = .int .i64 k ∧ Own w w.heap.size (Led.zero.run (l.take k)) wr) (fun i _ => l.length - (intOf i).toNat)
  case atStart => exact ⟨0, Nat.zero_le _, rfl, HN.out⟩
  case round =>
    obtain ⟨k, hk, rfl, fs, hled, hbl, hfs⟩ := hrel
    have HL := Lib.hid hled; clear hled
    have HF := Lib.hid hfs; clear hfs
    by_cases hlt : k < l.length
    · obtain ⟨g, off, c2, he, _, hg, hx⟩ := HV.out.cell (by rw [intsV_length]; omega)
      simp only [Value.slice.injEq, true_and] at he
      obtain ⟨rfl, rfl, rfl⟩ := he
      have x1 := (hbl.cell (p := ⟨g, off + k, none⟩) hg).trans (hx k _ (intsV_get l k hlt))
      clear hx
      have HS := Lib.hid (show Led.zero.run (l.take (k + 1)) = (Led.zero.run (l.take k)).next l[k] by rw [List.take_succ_eq_append_getElem hlt, Led.run_snoc])
      go_wp2_with fail
      refine (do_any HL.out (Led.run_ok _ (by simp; omega)) _).mono ?_
      rintro e w1 ⟨rfl, hg1⟩
      have HG := Lib.hid hg1; clear hg1
      go_wp2
      go_roundw
      case rel => exact ⟨k + 1, hlt, by go_num, by rw [HS.out]; exact Own.goes HF.out hbl HG.out⟩
      case measure => simp [intOf]; omega
    · obtain rfl : k = l.length := by omega
      rw [List.take_length] at HL
      go_wp2_with fail
      refine (leaked_any HL.out (Led.run_ok _ (by omega))).mono ?_
      rintro e w1 ⟨v, rfl, hown, hb1⟩
      have HO := Lib.hid hown; clear hown
      have hsz := hbl.size
      go_wp2
      go_ret
      exact ⟨v, rfl, own_base' HO.out hsz, hbl.trans (hb1.mono hsz)⟩

end Go.Proofs.Ytffgechbmhgndaa
