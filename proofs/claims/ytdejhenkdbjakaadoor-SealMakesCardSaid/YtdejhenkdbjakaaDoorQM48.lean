/- RA RB RC RE -/
import Derived.Test.YtdejhenkdbjakaaDoorQM14
import Derived.Test.YtdejhenkdbjakaaDoorRows
import Derived.ProofKit
import Derived.LaidMore
import Derived.OpenShut
import Derived.Stop.Joined
import Derived.Deep.Slices
import Derived.Deep.Fields
import Derived.Test.YtdejhenkdbjakaaDoorQM30
import Derived.Test.YtdejhenkdbjakaaDoorQM22
set_option linter.unusedVariables false
set_option linter.unusedSimpArgs false
set_option maxRecDepth 100000
set_option maxHeartbeats 4000000
namespace Go.Proofs.YtdejhenkdbjakaaDoor
open Go.ChangeShapes Go.WideShapes Go.ChangeAt Go.WideMaps Go.WideElems Go.RowKit

theorem c5cells : Tryd.prog.cellsOf 5 = 1 := by kernel_rfl
theorem c53cells : Tryd.prog.cellsOf 53 = 1 := by kernel_rfl
theorem arr_ext {k : IntKind} {n : Nat} {cs : Array Value} {f : Nat → Nat} (hs : cs.size = n) (h : ∀ i, i < n → cs[i]? = some (.int k ((f i : Nat) : Int))) : cs = arrF k n f := by
  apply Array.ext_getElem?
  intro i
  by_cases hi : i < n
  · rw [h i hi, arrF_get f hi]
  · rw [Array.getElem?_eq_none (by omega), Array.getElem?_eq_none (by rw [arrF_size]; omega)]
theorem key_open {H : Type} {enc : TypeId × Value → H} {W : World} {base b0 : Nat} {spare : Nat → Bool} {held : Bool} {v : Value} {d : DataW H} {p : List MemPlace} {r : Reach} :
    Value.okWide Tryd.prog W r b0 23 v → DataW.Trod enc Tryd.prog W base spare held 23 v d p → ∃ f : Nat → Nat, v = .agg (arrF .u8 32 f) ∧ ∀ b, b < 32 → f b < 256 := by
  simp only [Value.okWide, Tryd.underlying23]
  rintro ⟨cs, rfl, h2, _⟩ ⟨fuel, hf⟩
  obtain ⟨xs, m, _, _, hl, hn, hel⟩ := DataW.trod_array Tryd.underlying23 hf
  have hs : cs.size = 32 := by rw [h2]; kernel_rfl
  have key : ∀ i : Nat, i < 32 → ∃ n : Nat, cs[i]? = some (.int .u8 n) ∧ n < 256 := by
    intro i hi
    have h0 := hel i hi
    rw [c5cells] at h0
    obtain ⟨y, hy⟩ : ∃ y, xs[i]? = some y := ⟨xs[i], List.getElem?_eq_getElem (by omega)⟩
    rw [hy] at h0
    obtain ⟨k, e1, _, wf⟩ := DataW.trod_int Tryd.underlying5 h0
    have hlt : i < cs.size := by omega
    have e2 : cs[i]? = some (.int .u8 k) := by
      have h3 := congrArg (fun l => l[0]?) e1
      simpa [Value.cells, hlt] using h3
    simp [Lit.wf, IntKind.min, IntKind.max, IntKind.signed, IntKind.bits] at wf
    exact ⟨k.toNat, by rw [e2]; congr 2; omega, by omega⟩
  obtain ⟨f, hf'⟩ : ∃ f : Nat → Nat, ∀ i, i < 32 → cs[i]? = some (.int .u8 (f i : Nat)) ∧ f i < 256 :=
    ⟨fun i => if h : i < 32 then Classical.choose (key i h) else 0, fun i hi => by simp only [hi, dif_pos]; exact Classical.choose_spec (key i hi)⟩
  exact ⟨f, congrArg Value.agg (arr_ext hs fun i hi => (hf' i hi).1), fun b hb => (hf' b hb).2⟩
theorem laid_row {W : World} {t len fuel : Nat} (u : Tryd.prog.underlying t = some (.array len 53)) (l : List Nat) (hl : l.length = len) {cs : Array Value} (hs : cs.size = len) {d : DataW Unit} {p : List MemPlace} (hd : DataW.trod (fun _ => ()) Tryd.prog W 0 (fun _ => true) false fuel t cs.toList = some (d, p)) (he : d = .agg (l.map fun (n : Nat) => .lit (.int .u32 (n : Int)))) : cs = arrF .u32 len (fun i => l.getD i 0) := by
  obtain ⟨xs, m1, rfl, hx1, hlen, hn5, hel⟩ := DataW.trod_array u hd
  simp only [Prod.mk.injEq] at hx1
  have hx2 := hx1.1.symm.trans he
  rw [DataW.agg.injEq] at hx2
  refine arr_ext hs fun i hi => ?_
  have h0 := hel i hi
  rw [c53cells] at h0
  obtain ⟨y, hy⟩ : ∃ y, xs[i]? = some y := ⟨xs[i], List.getElem?_eq_getElem (by omega)⟩
  rw [hy] at h0
  obtain ⟨k, e1, e3, wf⟩ := DataW.trod_int Tryd.underlying53 h0
  have hlt : i < cs.size := by omega
  have e2 : cs[i]? = some (.int .u32 k) := by
    have h3 := congrArg (fun l => l[0]?) e1
    simpa [Value.cells, hlt] using h3
  have e4 := congrArg (fun l => l[i]?) hx2
  simp only [List.getElem?_map, hy, Option.map_some] at e4
  rw [List.getElem?_eq_getElem (by omega), Option.map_some, Option.some.injEq, e3] at e4
  rw [e2, List.getD_eq_getElem?_getD, List.getElem?_eq_getElem (by omega), Option.getD_some]
  simp only [DataW.lit.injEq, Lit.int.injEq, true_and] at e4
  rw [e4]
theorem gRounds : Tryd.prog.globalNamed "cablegram/sha.rounds" = some 1 := by kernel_rfl
theorem tRounds : (Tryd.prog.globals[1]?).map (·.type) = some 159 := by kernel_rfl
theorem gStart : Tryd.prog.globalNamed "cablegram/sha.start" = some 0 := by kernel_rfl
theorem tStart : (Tryd.prog.globals[0]?).map (·.type) = some 144 := by kernel_rfl
theorem zRounds : ((begin Tryd.prog (fun _ _ => 0) default).world.heap[1]?).bind Obj.row? = some ((List.replicate 64 (Value.int .u32 0)).toArray, 159) := by kernel_rfl
theorem zStart : ((begin Tryd.prog (fun _ _ => 0) default).world.heap[0]?).bind Obj.row? = some ((List.replicate 8 (Value.int .u32 0)).toArray, 144) := by kernel_rfl
theorem row_of {W : World} {g t : Nat} {zero : Array Value} {name : String} (hS : W.ShapedOpen Tryd.prog) (hg : Tryd.prog.globalNamed name = some g) (hlt : g < Tryd.prog.globals.size) (hz : ((begin Tryd.prog (fun _ _ => 0) default).world.heap[g]?).bind Obj.row? = some (zero, t)) {cs : Array Value} (hv : W.var? Tryd.prog name = some cs) : W.heap[g]? = some (.cells cs t (0, 0)) ∧ cs.size = zero.size := by
  obtain ⟨cs', e1, e2, _⟩ := hS.1 g zero t hlt hz
  simp only [World.var?, hg, Option.bind_some, e1, Option.some.injEq] at hv
  subst hv
  exact ⟨e1, e2⟩
theorem returns_shaped {H : Type} {enc : TypeId × Value → H} {a : Assume} {C : Checked} {os : Os} {f : FuncId} {fn : Func} {s : ChangeSpec} {conds : List PathCond} {apart fresh handsOn again : Bool} {X : World → Array Value → Prop}
    (hX : ∀ (w w' : World) (args : Array Value), w.heap = w'.heap → X w args → X w' args)
    (own : ownKnob C.prog.godebug = none) (started : os.Started) (noInit : C.prog.inits.idxOf? f = none) (hfn : C.prog.funcs[f]? = some fn)
    (witness : ∃ (w : World) (tape : Tape) (i : Input), w.os = os ∧ (w.forCall tape i).Shaped C.prog ∧ i.vars = [] ∧ Input.okWide C.prog (w.forCall tape i) .any w.heap.size f i ∧
      ((s.pre enc C.prog fn conds apart (w.forCall tape i).memory i.args ∧ X (w.forCall tape i).memory i.args) ∧ sizedMet enc C.prog fn (OpenSpec.ofChange s) apart (w.forCall tape i).memory i.args) ∧ a.holds C.prog (lone (Frame.enter C.prog f i.args .normal) [] (w.forCall tape i)))
    (contract : ∀ (W : World) (base : Nat) (args : Array Value) (ds gs : List (DataW H)) (before : List MemPlace), W.ShapedOpen C.prog →
      (∀ (j : Nat) t v, fn.params[j]? = some t → args[j]? = some v → Value.okWide C.prog W .any base t v) →
      DataW.Whole enc C.prog fn.params.toList s.vars apart W args.toList ds gs before → X W args →
      Calls C.prog f args W fun e W' => ∃ v, e = .returned v ∧ s.post enc C.prog fn apart fresh handsOn again W args v W') :
    ReturnsInHanded a C os f .any (fun w args => (s.pre enc C.prog fn conds apart w args ∧ X w args) ∧ sizedMet enc C.prog fn (OpenSpec.ofChange s) apart w args) (s.post enc C.prog fn apart fresh handsOn again) := by
  refine returnsInHanded_of_calls own started noInit witness ?_;intro w tape i _ hsh _ hok hpre hholds
  obtain ⟨_, _, _, fn', hfn', _, _, _, _, hval⟩ := hok
  have e : fn' = fn := Option.some.inj (hfn'.symm.trans hfn)
  subst e
  obtain ⟨⟨⟨ds, gs, before, hw, hc⟩, hx⟩, hz⟩ := hpre
  have hw' := DataW.Whole.of_heap (w' := w.forCall tape i) (by rfl) hw
  refine (contract (w.forCall tape i) w.heap.size i.args ds gs before hsh hval hw' (hX _ _ _ (by rfl) hx)).mono fun e W' ⟨v, he, hp⟩ => ?_
  subst he
  exact ChangeSpec.post_blind hp

end Go.Proofs.YtdejhenkdbjakaaDoor
namespace Go.Proofs.YtdejhenkdbjakaaDoor
open Go.ChangeShapes Go.WideShapes Go.ChangeAt Go.WideMaps Go.WideElems Go.RowKit Go.Deep

end Go.Proofs.YtdejhenkdbjakaaDoor
namespace Go.Proofs.YtdejhenkdbjakaaDoor
open Go.ChangeShapes Go.WideShapes Go.ChangeAt Go.WideMaps Go.WideElems Go.RowKit Go.Deep

theorem bytes_of_trod {H : Type} {enc : TypeId × Value → H} {w : World} {base : Nat} {spare : Nat → Bool} {held : Bool} {a : Option Addr} {len cap : Nat} {d : DataW H} {p : List MemPlace}
    (h : DataW.Trod enc Tryd.prog w base spare held 54 (.slice a len cap) d p) : ∃ l : List Nat, (∀ x ∈ l, x < 256) ∧ l.length = len ∧ RdK [] w ⟨a, len, cap, l⟩ := by
  obtain ⟨fuel, hf⟩ := h
  rcases open_slice Tryd.underlying54 hf with ⟨hcs, _⟩ | ⟨x, l, c, m, n, D, Pl, hcs, _, hl, hm, hmm, _, hi⟩
  · simp [Value.cells] at hcs
    obtain ⟨rfl, rfl, rfl⟩ := hcs
    exact ⟨[], by simp, rfl, fun _ _ => .inl ⟨rfl, rfl, rfl⟩⟩
  · simp [Value.cells] at hcs
    obtain ⟨rfl, rfl, rfl⟩ := hcs
    have hlm : len ≤ m := by rw [hmm]; split <;> omega
    have hel : ∀ i, i < len → ∃ f : Nat, f < 256 ∧ w.cell? (x.add i) = some (.int .u8 (f : Nat)) := by
      intro i hi'
      obtain ⟨cs', hc, ht⟩ := hi i (by omega)
      rw [c5cells] at hc
      obtain ⟨_, hcl, hcell⟩ := World.cells?_some hc
      obtain ⟨k, e1, _, wf⟩ := DataW.trod_int Tryd.underlying5 ht
      have h0 := hcell 0 (by omega)
      rw [add_add, Nat.mul_one, Nat.add_zero] at h0
      have e2 : cs'[0]? = some (.int .u8 k) := by
        rw [e1]; rfl
      simp [Lit.wf, IntKind.min, IntKind.max, IntKind.signed, IntKind.bits] at wf
      exact ⟨k.toNat, by omega, by rw [h0, e2]; congr 2; omega⟩
    refine ⟨(List.range len).map fun i => if h : i < len then (hel i h).choose else 0, ?_, by simp, fun w' k => RdS.kept (.inr ⟨x, cap, rfl, hl, fun j u hj => ?_⟩) k (fun _ _ _ _ => List.not_mem_nil)⟩
    · intro y hy
      obtain ⟨i, hi', rfl⟩ := List.mem_map.1 hy
      have hi2 := List.mem_range.1 hi'
      simp only [hi2, dif_pos]
      exact (hel i hi2).choose_spec.1
    · replace hj : (((List.range len).map fun i => if h : i < len then (hel i h).choose else 0).map fun (n : Nat) => Value.int .u8 (n : Int))[j]? = some u := hj
      rw [List.getElem?_map, List.getElem?_map] at hj
      rcases Nat.lt_or_ge j len with hj2 | hj2
      · rw [List.getElem?_range hj2] at hj
        simp only [Option.map_some, hj2, dif_pos, Option.some.injEq] at hj
        rw [← hj]
        exact (hel j hj2).choose_spec.2
      · rw [List.getElem?_eq_none (by simp; omega)] at hj
        cases hj

end Go.Proofs.YtdejhenkdbjakaaDoor
namespace Go.Proofs.YtdejhenkdbjakaaDoor
open Go.ChangeShapes Go.WideShapes Go.ChangeAt Go.WideMaps Go.WideElems Go.RowKit
theorem c178cells : Tryd.prog.cellsOf 178 = 4 := by kernel_rfl
theorem c3cells : Tryd.prog.cellsOf 3 = 1 := by kernel_rfl
theorem laid_row2 {W : World} {fuel : Nat} (LL : List (List Nat)) {cs : Array Value} (hs : cs.size = 32) {d : DataW Unit} {p : List MemPlace} (hd : DataW.trod (fun _ => ()) Tryd.prog W 0 (fun _ => true) false fuel 179 cs.toList = some (d, p)) (he : d = .agg (LL.map fun l => .agg (l.map fun (n : Nat) => .lit (.int .i64 (n : Int))))) : cs = arrF .i64 32 (fun i => (LL.getD (i / 4) []).getD (i % 4) 0) := by
  obtain ⟨xs, m1, rfl, hx1, hlen, hn5, hel⟩ := DataW.trod_array Tryd.underlying179 hd
  simp only [Prod.mk.injEq] at hx1
  have hx2 := hx1.1.symm.trans he
  rw [DataW.agg.injEq] at hx2
  refine arr_ext hs fun i hi => ?_
  have h0 := hel (i / 4) (by omega)
  rw [c178cells] at h0
  obtain ⟨y, hy⟩ : ∃ y, xs[i / 4]? = some y := ⟨xs[i / 4]'(by omega), List.getElem?_eq_getElem (by omega)⟩
  rw [hy] at h0
  have e4 := congrArg (fun l => l[i / 4]?) hx2
  simp only [List.getElem?_map, hy, Option.map_some] at e4
  have hll : i / 4 < LL.length := by
    have := congrArg List.length hx2
    simp only [List.length_map] at this
    omega
  rw [List.getElem?_eq_getElem hll, Option.map_some, Option.some.injEq] at e4
  obtain ⟨xs2, m2, rfl, hx3, hlen2, hn2, hel2⟩ := DataW.trod_array Tryd.underlying178 h0
  have e5 : DataW.agg (xs2.map (·.1)) = .agg (LL[i / 4].map fun (n : Nat) => .lit (.int .i64 (n : Int))) := by rw [← e4, hx3]
  rw [DataW.agg.injEq] at e5
  have h1 := hel2 (i % 4) (by omega)
  rw [c3cells] at h1
  obtain ⟨z, hz⟩ : ∃ z, xs2[i % 4]? = some z := ⟨xs2[i % 4]'(by omega), List.getElem?_eq_getElem (by omega)⟩
  rw [hz] at h1
  obtain ⟨k, e1, e3, wf⟩ := DataW.trod_int Tryd.underlying3 h1
  have hlt : i < cs.size := by omega
  have e2 : cs[i]? = some (.int .i64 k) := by
    have h3 := congrArg (fun l => l[0]?) e1
    simp only [List.getElem?_take, List.getElem?_drop, Nat.zero_lt_one, if_true, Nat.add_zero, Nat.mul_one, Array.getElem?_toList] at h3
    rw [if_pos (by omega), show i / 4 * 4 + i % 4 = i by omega] at h3
    exact h3
  have hl2 : i % 4 < LL[i / 4].length := by
    have := congrArg List.length e5
    simp only [List.length_map] at this
    omega
  have e6 := congrArg (fun l => l[i % 4]?) e5
  simp only [List.getElem?_map, hz, Option.map_some] at e6
  rw [List.getElem?_eq_getElem hl2, Option.map_some, Option.some.injEq, e3] at e6
  simp only [DataW.lit.injEq, Lit.int.injEq, true_and] at e6
  rw [e2, List.getD_eq_getElem?_getD (l := LL), List.getElem?_eq_getElem hll, Option.getD_some, List.getD_eq_getElem?_getD, List.getElem?_eq_getElem hl2, Option.getD_some, e6]
theorem gWords : Tryd.prog.globalNamed "cablegram/stream.start" = some 3 := by kernel_rfl
theorem tWords : (Tryd.prog.globals[3]?).map (·.type) = some 182 := by kernel_rfl
theorem gQuarters : Tryd.prog.globalNamed "cablegram/stream.quarters" = some 2 := by kernel_rfl
theorem tQuarters : (Tryd.prog.globals[2]?).map (·.type) = some 179 := by kernel_rfl
theorem zWords : ((begin Tryd.prog (fun _ _ => 0) default).world.heap[3]?).bind Obj.row? = some ((List.replicate 4 (Value.int .u32 0)).toArray, 182) := by kernel_rfl
theorem zQuarters : ((begin Tryd.prog (fun _ _ => 0) default).world.heap[2]?).bind Obj.row? = some ((List.replicate 32 (Value.int .i64 0)).toArray, 179) := by kernel_rfl
def laidFS {H : Type} : List (String × DataW H) := [("cablegram/sha.rounds", Rows.laid_cablegram_sha_rounds), ("cablegram/sha.start", Rows.laid_cablegram_sha_start), ("cablegram/stream.start", Rows.laid_cablegram_stream_start), ("cablegram/stream.quarters", Rows.laid_cablegram_stream_quarters)]
def qLL : List (List Nat) := [[0, 4, 8, 12], [1, 5, 9, 13], [2, 6, 10, 14], [3, 7, 11, 15], [0, 5, 10, 15], [1, 6, 11, 12], [2, 7, 8, 13], [3, 4, 9, 14]]
theorem of_laidS {W : World} (hS : W.ShapedOpen Tryd.prog) (h : laidMetH Tryd.prog laidFS W) : LaidS W := by
  rw [MakeChecks.laidMetH_plain _ _ _ (by kernel_rfl)] at h
  obtain ⟨ps, ⟨g0, t0, cs0, f0, p0, q0, hg0, ht0, hv0, hd0, hr, _⟩, _, _⟩ := h
  obtain ⟨g1, t1, cs1, f1, p1, q1, hg1, ht1, hv1, hd1, hr2, _⟩ := hr
  obtain ⟨g2, t2, cs2, f2, p2, q2, hg2, ht2, hv2, hd2, hr3, _⟩ := hr2
  obtain ⟨g3, t3, cs3, f3, p3, q3, hg3, ht3, hv3, hd3, _, _⟩ := hr3
  obtain rfl := Option.some.inj (gRounds.symm.trans hg0)
  obtain rfl := Option.some.inj (tRounds.symm.trans ht0)
  obtain rfl := Option.some.inj (gStart.symm.trans hg1)
  obtain rfl := Option.some.inj (tStart.symm.trans ht1)
  obtain rfl := Option.some.inj (gWords.symm.trans hg2)
  obtain rfl := Option.some.inj (tWords.symm.trans ht2)
  obtain rfl := Option.some.inj (gQuarters.symm.trans hg3)
  obtain rfl := Option.some.inj (tQuarters.symm.trans ht3)
  obtain ⟨e0, s0⟩ := row_of hS gRounds (of_decide_eq_true (by kernel_rfl)) zRounds hv0
  obtain ⟨e1, s1⟩ := row_of hS gStart (of_decide_eq_true (by kernel_rfl)) zStart hv1
  obtain ⟨e2, s2⟩ := row_of hS gWords (of_decide_eq_true (by kernel_rfl)) zWords hv2
  obtain ⟨e3, s3⟩ := row_of hS gQuarters (of_decide_eq_true (by kernel_rfl)) zQuarters hv3
  have a0 := laid_row Tryd.underlying159 rndK (by kernel_rfl) (s0.trans (by kernel_rfl)) hd0 (by kernel_rfl)
  have a1 := laid_row Tryd.underlying144 st0L (by kernel_rfl) (s1.trans (by kernel_rfl)) hd1 (by kernel_rfl)
  have a2 := laid_row Tryd.underlying182 st4 (by kernel_rfl) (s2.trans (by kernel_rfl)) hd2 (by kernel_rfl)
  have a3 := laid_row2 qLL (s3.trans (by kernel_rfl)) hd3 (by kernel_rfl)
  have w2 : arrF .u32 4 (fun i => st4.getD i 0) = arrF .u32 4 stW := by kernel_rfl
  have w3 : arrF .i64 32 (fun i => (qLL.getD (i / 4) []).getD (i % 4) 0) = arrF .i64 32 qT := by kernel_rfl
  exact ⟨⟨by rw [e0, a0]; rfl, by rw [e1, a1]; rfl⟩, by rw [e3, a3, w3], by rw [e2, a2, w2]⟩
theorem door_metS (os : Os) (args : Array Value) : laidMetH Tryd.prog laidFS ((World.doorLaid Tryd.prog 400 os).forCall (fun _ _ => 0) ⟨#[], args, []⟩).memory :=
  laidMetH_of_parts3 (fuel := 8) (laidMet_of_run' 8 (by kernel_rfl) (by kernel_rfl)) (by kernel_rfl) (by kernel_rfl)

end Go.Proofs.YtdejhenkdbjakaaDoor
