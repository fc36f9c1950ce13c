/- What the rows give: a key that came in, and what the laid variables hold. -/
import Derived.Test.YtdejhenkdbjakaaDoorW5
import Derived.Test.YtdejhenkdbjakaaDoorRows
import Derived.ProofKit
import Derived.LaidMore
import Derived.OpenShut
import Derived.Stop.Joined
set_option linter.unusedVariables false
set_option linter.unusedSimpArgs false
namespace Go.Proofs.YtdejhenkdbjakaaDoor
open Go.ChangeShapes Go.WideShapes Go.ChangeAt Go.WideMaps Go.WideElems Go.RowKit

theorem c5cells : Tryd.prog.cellsOf 5 = 1 := by kernel_rfl
theorem c53cells : Tryd.prog.cellsOf 53 = 1 := by kernel_rfl
theorem arr_ext {k : IntKind} {n : Nat} {cs : Array Value} {f : Nat → Nat} (hs : cs.size = n) (h : ∀ i, i < n → cs[i]? = some (.int k ((f i : Nat) : Int))) : cs = arrF k n f := by
  apply Array.ext_getElem?
  intro i
  by_cases hi : i < n
  · rw [h i hi, arrF_get f hi]
  · rw [Array.getElem?_eq_none (by omega), Array.getElem?_eq_none (by rw [arrF_size]; omega)]
theorem key_open {H : Type} {enc : TypeId × Value → H} {W : World} {base b0 : Nat} {spare : Nat → Bool} {held : Bool} {v : Value} {d : DataW H} {p : List MemPlace} {r : Reach} :
    Value.okWide Tryd.prog W r b0 23 v → DataW.Trod enc Tryd.prog W base spare held 23 v d p → ∃ f : Nat → Nat, v = .agg (arrF .u8 32 f) ∧ ∀ b, b < 32 → f b < 256 := by
  simp only [Value.okWide, Tryd.underlying23]
  rintro ⟨cs, rfl, h2, _⟩ ⟨fuel, hf⟩
  obtain ⟨xs, m, _, _, hl, hn, hel⟩ := DataW.trod_array Tryd.underlying23 hf
  have hs : cs.size = 32 := by rw [h2]; kernel_rfl
  have key : ∀ i : Nat, i < 32 → ∃ n : Nat, cs[i]? = some (.int .u8 n) ∧ n < 256 := by
    intro i hi
    have h0 := hel i hi
    rw [c5cells] at h0
    obtain ⟨y, hy⟩ : ∃ y, xs[i]? = some y := ⟨xs[i], List.getElem?_eq_getElem (by omega)⟩
    rw [hy] at h0
    obtain ⟨k, e1, _, wf⟩ := DataW.trod_int Tryd.underlying5 h0
    have hlt : i < cs.size := by omega
    have e2 : cs[i]? = some (.int .u8 k) := by
      have h3 := congrArg (fun l => l[0]?) e1
      simpa [Value.cells, hlt] using h3
    simp [Lit.wf, IntKind.min, IntKind.max, IntKind.signed, IntKind.bits] at wf
    exact ⟨k.toNat, by rw [e2]; congr 2; omega, by omega⟩
  obtain ⟨f, hf'⟩ : ∃ f : Nat → Nat, ∀ i, i < 32 → cs[i]? = some (.int .u8 (f i : Nat)) ∧ f i < 256 :=
    ⟨fun i => if h : i < 32 then Classical.choose (key i h) else 0, fun i hi => by simp only [hi, dif_pos]; exact Classical.choose_spec (key i hi)⟩
  exact ⟨f, congrArg Value.agg (arr_ext hs fun i hi => (hf' i hi).1), fun b hb => (hf' b hb).2⟩
theorem laid_row {W : World} {t len fuel : Nat} (u : Tryd.prog.underlying t = some (.array len 53)) (l : List Nat) (hl : l.length = len) {cs : Array Value} (hs : cs.size = len) {d : DataW Unit} {p : List MemPlace} (hd : DataW.trod (fun _ => ()) Tryd.prog W 0 (fun _ => true) false fuel t cs.toList = some (d, p)) (he : d = .agg (l.map fun (n : Nat) => .lit (.int .u32 (n : Int)))) : cs = arrF .u32 len (fun i => l.getD i 0) := by
  obtain ⟨xs, m1, rfl, hx1, hlen, hn5, hel⟩ := DataW.trod_array u hd
  simp only [Prod.mk.injEq] at hx1
  have hx2 := hx1.1.symm.trans he
  rw [DataW.agg.injEq] at hx2
  refine arr_ext hs fun i hi => ?_
  have h0 := hel i hi
  rw [c53cells] at h0
  obtain ⟨y, hy⟩ : ∃ y, xs[i]? = some y := ⟨xs[i], List.getElem?_eq_getElem (by omega)⟩
  rw [hy] at h0
  obtain ⟨k, e1, e3, wf⟩ := DataW.trod_int Tryd.underlying53 h0
  have hlt : i < cs.size := by omega
  have e2 : cs[i]? = some (.int .u32 k) := by
    have h3 := congrArg (fun l => l[0]?) e1
    simpa [Value.cells, hlt] using h3
  have e4 := congrArg (fun l => l[i]?) hx2
  simp only [List.getElem?_map, hy, Option.map_some] at e4
  rw [List.getElem?_eq_getElem (by omega), Option.map_some, Option.some.injEq, e3] at e4
  rw [e2, List.getD_eq_getElem?_getD, List.getElem?_eq_getElem (by omega), Option.getD_some]
  simp only [DataW.lit.injEq, Lit.int.injEq, true_and] at e4
  rw [e4]
theorem gRounds : Tryd.prog.globalNamed "cablegram/sha.rounds" = some 1 := by kernel_rfl
theorem tRounds : (Tryd.prog.globals[1]?).map (·.type) = some 159 := by kernel_rfl
theorem gStart : Tryd.prog.globalNamed "cablegram/sha.start" = some 0 := by kernel_rfl
theorem tStart : (Tryd.prog.globals[0]?).map (·.type) = some 144 := by kernel_rfl
theorem zRounds : ((begin Tryd.prog (fun _ _ => 0) default).world.heap[1]?).bind Obj.row? = some ((List.replicate 64 (Value.int .u32 0)).toArray, 159) := by kernel_rfl
theorem zStart : ((begin Tryd.prog (fun _ _ => 0) default).world.heap[0]?).bind Obj.row? = some ((List.replicate 8 (Value.int .u32 0)).toArray, 144) := by kernel_rfl
def laidF {H : Type} : List (String × DataW H) := [("cablegram/sha.rounds", Rows.laid_cablegram_sha_rounds), ("cablegram/sha.start", Rows.laid_cablegram_sha_start)]
theorem row_of {W : World} {g t : Nat} {zero : Array Value} {name : String} (hS : W.ShapedOpen Tryd.prog) (hg : Tryd.prog.globalNamed name = some g) (hlt : g < Tryd.prog.globals.size) (hz : ((begin Tryd.prog (fun _ _ => 0) default).world.heap[g]?).bind Obj.row? = some (zero, t)) {cs : Array Value} (hv : W.var? Tryd.prog name = some cs) : W.heap[g]? = some (.cells cs t (0, 0)) ∧ cs.size = zero.size := by
  obtain ⟨cs', e1, e2, _⟩ := hS.1 g zero t hlt hz
  simp only [World.var?, hg, Option.bind_some, e1, Option.some.injEq] at hv
  subst hv
  exact ⟨e1, e2⟩
/-- What the laid variables give. -/
theorem of_laid {W : World} (hS : W.ShapedOpen Tryd.prog) (h : laidMetH Tryd.prog laidF W) : Laid W := by
  rw [MakeChecks.laidMetH_plain _ _ _ (by kernel_rfl)] at h
  obtain ⟨ps, ⟨g0, t0, cs0, f0, p0, q0, hg0, ht0, hv0, hd0, hr, _⟩, _, _⟩ := h
  obtain ⟨g1, t1, cs1, f1, p1, q1, hg1, ht1, hv1, hd1, _, _⟩ := hr
  obtain rfl := Option.some.inj (gRounds.symm.trans hg0)
  obtain rfl := Option.some.inj (tRounds.symm.trans ht0)
  obtain rfl := Option.some.inj (gStart.symm.trans hg1)
  obtain rfl := Option.some.inj (tStart.symm.trans ht1)
  obtain ⟨e0, s0⟩ := row_of hS gRounds (of_decide_eq_true (by kernel_rfl)) zRounds hv0
  obtain ⟨e1, s1⟩ := row_of hS gStart (of_decide_eq_true (by kernel_rfl)) zStart hv1
  have a0 := laid_row Tryd.underlying159 rndK (by kernel_rfl) (s0.trans (by kernel_rfl)) hd0 (by kernel_rfl)
  have a1 := laid_row Tryd.underlying144 st0L (by kernel_rfl) (s1.trans (by kernel_rfl)) hd1 (by kernel_rfl)
  exact ⟨by rw [e0, a0]; rfl, by rw [e1, a1]; rfl⟩
/-- The door's own heap meets the condition. -/
theorem door_met (os : Os) (args : Array Value) : laidMetH Tryd.prog laidF ((World.doorLaid Tryd.prog 400 os).forCall (fun _ _ => 0) ⟨#[], args, []⟩).memory :=
  laidMetH_of_parts3 (fuel := 8) (laidMet_of_run' 8 (by kernel_rfl) (by kernel_rfl)) (by kernel_rfl) (by kernel_rfl)
/-- As returnsInHanded_of_change_and, with what is known of the world's shape. -/
theorem returns_shaped {H : Type} {enc : TypeId × Value → H} {a : Assume} {C : Checked} {os : Os} {f : FuncId} {fn : Func} {s : ChangeSpec} {conds : List PathCond} {apart fresh handsOn again : Bool} {X : World → Array Value → Prop}
    (hX : ∀ (w w' : World) (args : Array Value), w.heap = w'.heap → X w args → X w' args)
    (own : ownKnob C.prog.godebug = none) (started : os.Started) (noInit : C.prog.inits.idxOf? f = none) (hfn : C.prog.funcs[f]? = some fn)
    (witness : ∃ (w : World) (tape : Tape) (i : Input), w.os = os ∧ (w.forCall tape i).Shaped C.prog ∧ i.vars = [] ∧ Input.okWide C.prog (w.forCall tape i) .any w.heap.size f i ∧
      ((s.pre enc C.prog fn conds apart (w.forCall tape i).memory i.args ∧ X (w.forCall tape i).memory i.args) ∧ sizedMet enc C.prog fn (OpenSpec.ofChange s) apart (w.forCall tape i).memory i.args) ∧ a.holds C.prog (lone (Frame.enter C.prog f i.args .normal) [] (w.forCall tape i)))
    (contract : ∀ (W : World) (base : Nat) (args : Array Value) (ds gs : List (DataW H)) (before : List MemPlace), W.ShapedOpen C.prog →
      (∀ (j : Nat) t v, fn.params[j]? = some t → args[j]? = some v → Value.okWide C.prog W .any base t v) →
      DataW.Whole enc C.prog fn.params.toList s.vars apart W args.toList ds gs before → X W args →
      Calls C.prog f args W fun e W' => ∃ v, e = .returned v ∧ s.post enc C.prog fn apart fresh handsOn again W args v W') :
    ReturnsInHanded a C os f .any (fun w args => (s.pre enc C.prog fn conds apart w args ∧ X w args) ∧ sizedMet enc C.prog fn (OpenSpec.ofChange s) apart w args) (s.post enc C.prog fn apart fresh handsOn again) := by
  refine returnsInHanded_of_calls own started noInit witness ?_
  intro w tape i _ hsh _ hok hpre hholds
  obtain ⟨_, _, _, fn', hfn', _, _, _, _, hval⟩ := hok
  have e : fn' = fn := Option.some.inj (hfn'.symm.trans hfn)
  subst e
  obtain ⟨⟨⟨ds, gs, before, hw, hc⟩, hx⟩, hz⟩ := hpre
  have hw' := DataW.Whole.of_heap (w' := w.forCall tape i) (by rfl) hw
  refine (contract (w.forCall tape i) w.heap.size i.args ds gs before hsh hval hw' (hX _ _ _ (by rfl) hx)).mono fun e W' ⟨v, he, hp⟩ => ?_
  subst he
  exact ChangeSpec.post_blind hp
end Go.Proofs.YtdejhenkdbjakaaDoor
