/- A set of package terms in memory: publicOf, made, open. -/
import Derived.Test.YtffgechbmhgndaaT3
import Derived.Deep.RegionWith
set_option linter.unusedVariables false
set_option linter.unusedSimpArgs false
namespace Go.Proofs.Ytffgechbmhgndaa
open Go.RowKit

namespace Ts
def pubTo (l : List Tm) (s : List Bool) (secret : Int) (k : Nat) : Bool := (List.range k).any fun i => (tm l i).op == 3 && (tm l i).a == secret && s.getD i false
theorem pub_to (l : List Tm) (s : List Bool) (x : Int) : pub l s x = pubTo l s x l.length := rfl
theorem pubTo_next {l : List Tm} {s : List Bool} {x : Int} {k : Nat} (h : pubTo l s x k = false) : pubTo l s x (k + 1) = ((tm l k).op == 3 && (tm l k).a == x && s.getD k false) := by
  unfold pubTo at h ⊢; rw [List.range_succ, List.any_append, h]; simp
theorem pubTo_true {l : List Tm} {s : List Bool} {x : Int} {k : Nat} (hk : k < l.length) (h : pubTo l s x (k + 1) = true) : pub l s x = true := by
  unfold pubTo at h; unfold pub
  rw [List.any_eq_true] at h ⊢
  obtain ⟨i, hi, hp⟩ := h
  exact ⟨i, by simp at hi ⊢; omega, hp⟩
end Ts

/-- What a call reads of a set: its list and its bools. -/
structure Reads (w : World) (b : Nat) (l : List Tm) (inn : List Bool) (A : Option Addr) (n c gi ci : Nat) : Prop where
  terms : TermsAt w (.slice A n c) l
  c0 : w.cell? ⟨b, 0, none⟩ = some (.slice A n c)
  c1 : w.cell? ⟨b, 1, none⟩ = some (.slice (some ⟨gi, 0, none⟩) inn.length ci)
  ins : ∀ i, i < inn.length → w.cell? ⟨gi, i, none⟩ = some (.bool (inn.getD i false))
  lb : b < w.heap.size
  lg : gi < w.heap.size
  le : inn.length ≤ ci
  eq : inn.length = l.length
  n : n = l.length
  small : l.length ≤ 10000
theorem Reads.below {w w1 : World} {b n c gi ci : Nat} {l : List Tm} {inn : List Bool} {A : Option Addr} (h : Reads w b l inn A n c gi ci) (hb : Below w.heap.size w w1) : Reads w1 b l inn A n c gi ci :=
  ⟨h.terms.below hb, (hb.cell (p := ⟨b, 0, none⟩) h.lb).trans h.c0, (hb.cell (p := ⟨b, 1, none⟩) h.lb).trans h.c1, fun i hi => (hb.cell (p := ⟨gi, i, none⟩) h.lg).trans (h.ins i hi), Nat.lt_of_lt_of_le h.lb hb.size, Nat.lt_of_lt_of_le h.lg hb.size, h.le, h.eq, h.n, h.small⟩

set_option maxRecDepth 100000 in
set_option maxHeartbeats 1000000 in
theorem public_any {w : World} {b n c gi ci : Nat} {l : List Tm} {inn : List Bool} {A : Option Addr} (h : Reads w b l inn A n c gi ci) (x : Int) :
    Calls Try.prog 69 #[.pointer (some ⟨b, 0, none⟩), .int .i64 x] w fun r w' => r = .returned (.bool (Ts.pub l inn x)) ∧ Below w.heap.size w w' := by
  have HR := Lib.hid h
  have c0 := h.c0
  have hsm := h.small
  obtain ⟨_, _, hv, hnc, hm⟩ := RowsAt.form h.terms
  simp only [Value.slice.injEq] at hv
  obtain ⟨rfl, rfl, rfl⟩ := hv
  clear h
  go_enter Try.func69, Try.ntmps69
  go_wp2
  go_loopw [5, 6, 12] (fun _ _ i' wr => ∃ k : Nat, k ≤ l.length ∧ i' = .int .i64 k ∧ Below w.heap.size w wr ∧ Ts.pubTo l inn x k = false) (fun _ _ i' _ => l.length - (intOf i').toNat)
  case atStart => exact ⟨0, Nat.zero_le _, rfl, Below.refl _ _, rfl⟩
  case round =>
    obtain ⟨k, hk, rfl, hb, hall⟩ := hrel
    have HA := Lib.hid hall; clear hall
    have hsz := hb.size
    have HRw := Lib.hid (HR.out.below hb)
    by_cases hlt : k < l.length
    · obtain ⟨g, off, rfl, hg, x1, x2, x3⟩ := HRw.out.terms.at k hlt
      have c1 := HRw.out.c1
      have ck := HRw.out.ins k (by rw [HR.out.eq]; exact hlt)
      have hki : k < inn.length := by rw [HR.out.eq]; exact hlt
      have hlb := HRw.out.lb
      have hlg := HRw.out.lg
      have hle := HRw.out.le
      have HN := Lib.hid (Ts.pubTo_next HA.out)
      have HT := Lib.hid (fun (h : Ts.pubTo l inn x (k + 1) = true) => Ts.pubTo_true hlt h)
      generalize Ts.tm l k = t at *
      generalize inn.getD k false = ik at *
      have HW := Lib.hid (hb.alloc hsz (.cells #[.int .i64 t.op, .int .i64 t.a, .int .i64 t.b] 60))
      by_cases h3 : t.op = 3
      · have h3' : (t.op == 3) = true := by simp [h3]
        by_cases hx : t.a = x
        · have hx' : (t.a == x) = true := by simp [hx]
          have HX := Lib.hid (show Ts.pubTo l inn x (k + 1) = ik by rw [HN.out, h3', hx']; simp)
          clear h3 hx
          cases ik
          · go_wp2
            go_roundw
            case rel => exact ⟨k + 1, hlt, by go_num, HW.out, HX.out⟩
            case measure => simp [intOf]; omega
          · have HP := Lib.hid (HT.out HX.out)
            go_wp2
            go_ret
            exact ⟨ret_bool' (by rw [HP.out]), HW.out⟩
        · have hx' : (t.a == x) = false := by simp [hx]
          have HX := Lib.hid (show Ts.pubTo l inn x (k + 1) = false by rw [HN.out, hx']; simp)
          clear h3 hx
          go_wp2
          go_roundw
          case rel => exact ⟨k + 1, hlt, by go_num, HW.out, HX.out⟩
          case measure => simp [intOf]; omega
      · have h3' : (t.op == 3) = false := by simp [h3]
        have HX := Lib.hid (show Ts.pubTo l inn x (k + 1) = false by rw [HN.out, h3']; simp)
        clear h3
        go_wp2
        go_roundw
        case rel => exact ⟨k + 1, hlt, by go_num, HW.out, HX.out⟩
        case measure => simp [intOf]; omega
    · have HX := Lib.hid (show Ts.pub l inn x = false by rw [Ts.pub_to, ← HA.out, show k = l.length by omega])
      go_wp2
      go_ret
      exact ⟨ret_bool' (by rw [HX.out]), hb⟩

end Go.Proofs.Ytffgechbmhgndaa
