/- What the rows give: a key that came in, and what the package's variable holds. -/
import Derived.Test.YtdmioipdmdmkhaaDoorA12
import Derived.Test.YtdmioipdmdmkhaaDoorRows
import Derived.ProofKit
import Derived.LaidMore
import Derived.OpenShut
import Derived.Stop.Joined
set_option linter.unusedVariables false
set_option linter.unusedSimpArgs false
namespace Go.Proofs.YtdmioipdmdmkhaaDoor
open Go.ChangeShapes Go.WideShapes Go.ChangeAt Go.WideMaps Go.WideElems Go.RowKit

theorem gFour : Tryd.prog.globalNamed "cablegram/field.four" = some 0 := by kernel_rfl
theorem tFour : (Tryd.prog.globals[0]?).map (·.type) = some 31 := by kernel_rfl
theorem c5cells : Tryd.prog.cellsOf 5 = 1 := by kernel_rfl
theorem c24cells : Tryd.prog.cellsOf 24 = 1 := by kernel_rfl

theorem kArr_at (g : Nat → Nat) : ∀ {i : Nat}, i < 32 → (kArr g)[i]? = some (.int .u8 (g i : Nat))
  | 0, _ => rfl
  | 1, _ => rfl
  | 2, _ => rfl
  | 3, _ => rfl
  | 4, _ => rfl
  | 5, _ => rfl
  | 6, _ => rfl
  | 7, _ => rfl
  | 8, _ => rfl
  | 9, _ => rfl
  | 10, _ => rfl
  | 11, _ => rfl
  | 12, _ => rfl
  | 13, _ => rfl
  | 14, _ => rfl
  | 15, _ => rfl
  | 16, _ => rfl
  | 17, _ => rfl
  | 18, _ => rfl
  | 19, _ => rfl
  | 20, _ => rfl
  | 21, _ => rfl
  | 22, _ => rfl
  | 23, _ => rfl
  | 24, _ => rfl
  | 25, _ => rfl
  | 26, _ => rfl
  | 27, _ => rfl
  | 28, _ => rfl
  | 29, _ => rfl
  | 30, _ => rfl
  | 31, _ => rfl
  | i + 32, h => absurd h (by omega)
theorem key_open {H : Type} {enc : TypeId × Value → H} {W : World} {base b0 : Nat} {spare : Nat → Bool} {held : Bool} {v : Value} {d : DataW H} {p : List MemPlace} {r : Reach} :
    Value.okWide Tryd.prog W r b0 23 v → DataW.Trod enc Tryd.prog W base spare held 23 v d p → ∃ f : Nat → Nat, v = .agg (kArr f) ∧ ∀ b, b < 32 → f b < 256 := by
  simp only [Value.okWide, Tryd.underlying23]
  rintro ⟨cs, rfl, h2, _⟩ ⟨fuel, hf⟩
  obtain ⟨xs, m, _, _, hl, hn, hel⟩ := DataW.trod_array Tryd.underlying23 hf
  have hs : cs.size = 32 := by rw [h2]; kernel_rfl
  have key : ∀ i : Nat, i < 32 → ∃ n : Nat, cs[i]? = some (.int .u8 n) ∧ n < 256 := by
    intro i hi
    have h0 := hel i hi
    rw [c5cells] at h0
    obtain ⟨y, hy⟩ : ∃ y, xs[i]? = some y := ⟨xs[i], List.getElem?_eq_getElem (by omega)⟩
    rw [hy] at h0
    obtain ⟨k, e1, _, wf⟩ := DataW.trod_int Tryd.underlying5 h0
    have hlt : i < cs.size := by omega
    have e2 : cs[i]? = some (.int .u8 k) := by
      have h3 := congrArg (fun l => l[0]?) e1
      simpa [Value.cells, hlt] using h3
    simp [Lit.wf, IntKind.min, IntKind.max, IntKind.signed, IntKind.bits] at wf
    exact ⟨k.toNat, by rw [e2]; congr 2; omega, by omega⟩
  obtain ⟨f, hf'⟩ : ∃ f : Nat → Nat, ∀ i, i < 32 → cs[i]? = some (.int .u8 (f i : Nat)) ∧ f i < 256 :=
    ⟨fun i => if h : i < 32 then Classical.choose (key i h) else 0, fun i hi => by simp only [hi, dif_pos]; exact Classical.choose_spec (key i hi)⟩
  refine ⟨f, ?_, fun b hb => (hf' b hb).2⟩
  congr 1
  apply Array.ext_getElem?
  intro i
  by_cases hi : i < 32
  · rw [(hf' i hi).1, kArr_at f hi]
  · rw [Array.getElem?_eq_none (by omega), Array.getElem?_eq_none (by show 32 ≤ i; omega)]

def laidF {H : Type} : List (String × DataW H) := [("cablegram/field.four", Rows.laid_cablegram_field_four)]
/-- What the laid variable gives. -/
theorem of_laid {W : World} (h : laidMetH Tryd.prog laidF W) : Four W := by
  rw [MakeChecks.laidMetH_plain _ _ _ (by kernel_rfl)] at h
  obtain ⟨ps, ⟨g0, t0, cs0, f0, p0, q0, hg0, ht0, hv0, hd0, _, _⟩, _, _⟩ := h
  obtain rfl := Option.some.inj (gFour.symm.trans hg0)
  obtain rfl := Option.some.inj (tFour.symm.trans ht0)
  obtain ⟨xs, m1, rfl, hx1, hlen, hn5, hel⟩ := DataW.trod_array Tryd.underlying31 hd0
  simp only [Prod.mk.injEq] at hx1
  have hx2 := hx1.1
  simp only [Rows.laid_cablegram_field_four, DataW.agg.injEq] at hx2
  match xs, hn5, hx2, hel with
  | [x0, x1, x2, x3, x4], _, hx2, hel =>
    simp only [List.map_cons, List.map_nil, List.cons.injEq, and_true] at hx2
    obtain ⟨y0, y1, y2, y3, y4⟩ := hx2
    have cell : ∀ (i : Nat) (n : Int) (x : _), i < 5 → [x0, x1, x2, x3, x4][i]? = some x → DataW.lit (.int .u64 n) = x.1 → W.cell? ⟨0, i, none⟩ = some (.int .u64 n) := by
      intro i n x hi hx hn
      have h0 := hel i hi
      rw [hx] at h0
      obtain ⟨k, e1, e2, _⟩ := DataW.trod_int Tryd.underlying24 h0
      rw [c24cells] at e1
      have hv := World.var?_cell hg0 hv0 i
      have hk : k = n := by rw [e2] at hn; simpa using hn.symm
      subst hk
      rw [hv]
      have h3 := congrArg (fun l => l[0]?) e1
      simp [List.getElem?_take, List.getElem?_drop] at h3
      simpa using h3
    exact ⟨cell 0 _ x0 (by omega) rfl y0, cell 1 _ x1 (by omega) rfl y1, cell 2 _ x2 (by omega) rfl y2, cell 3 _ x3 (by omega) rfl y3, cell 4 _ x4 (by omega) rfl y4⟩

/-- The door's own heap meets the condition. -/
theorem door_met (os : Os) (args : Array Value) : laidMetH Tryd.prog laidF ((World.doorLaid Tryd.prog 400 os).forCall (fun _ _ => 0) ⟨#[], args, []⟩).memory :=
  laidMetH_of_parts3 (fuel := 8) (laidMet_of_run' 8 (by kernel_rfl) (by kernel_rfl)) (by kernel_rfl) (by kernel_rfl)

end Go.Proofs.YtdmioipdmdmkhaaDoor
