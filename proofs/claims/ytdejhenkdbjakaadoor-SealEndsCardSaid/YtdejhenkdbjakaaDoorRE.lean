/- What the rows of chapter 5 give: the four laid variables. -/
import Derived.Test.YtdejhenkdbjakaaDoorRC
import Derived.Test.YtdejhenkdbjakaaDoorYB
set_option linter.unusedVariables false
set_option linter.unusedSimpArgs false
namespace Go.Proofs.YtdejhenkdbjakaaDoor
open Go.ChangeShapes Go.WideShapes Go.ChangeAt Go.WideMaps Go.WideElems Go.RowKit
theorem c178cells : Tryd.prog.cellsOf 178 = 4 := by kernel_rfl
theorem c3cells : Tryd.prog.cellsOf 3 = 1 := by kernel_rfl
theorem laid_row2 {W : World} {fuel : Nat} (LL : List (List Nat)) {cs : Array Value} (hs : cs.size = 32) {d : DataW Unit} {p : List MemPlace} (hd : DataW.trod (fun _ => ()) Tryd.prog W 0 (fun _ => true) false fuel 179 cs.toList = some (d, p)) (he : d = .agg (LL.map fun l => .agg (l.map fun (n : Nat) => .lit (.int .i64 (n : Int))))) : cs = arrF .i64 32 (fun i => (LL.getD (i / 4) []).getD (i % 4) 0) := by
  obtain ⟨xs, m1, rfl, hx1, hlen, hn5, hel⟩ := DataW.trod_array Tryd.underlying179 hd
  simp only [Prod.mk.injEq] at hx1
  have hx2 := hx1.1.symm.trans he
  rw [DataW.agg.injEq] at hx2
  refine arr_ext hs fun i hi => ?_
  have h0 := hel (i / 4) (by omega)
  rw [c178cells] at h0
  obtain ⟨y, hy⟩ : ∃ y, xs[i / 4]? = some y := ⟨xs[i / 4]'(by omega), List.getElem?_eq_getElem (by omega)⟩
  rw [hy] at h0
  have e4 := congrArg (fun l => l[i / 4]?) hx2
  simp only [List.getElem?_map, hy, Option.map_some] at e4
  have hll : i / 4 < LL.length := by
    have := congrArg List.length hx2
    simp only [List.length_map] at this
    omega
  rw [List.getElem?_eq_getElem hll, Option.map_some, Option.some.injEq] at e4
  obtain ⟨xs2, m2, rfl, hx3, hlen2, hn2, hel2⟩ := DataW.trod_array Tryd.underlying178 h0
  have e5 : DataW.agg (xs2.map (·.1)) = .agg (LL[i / 4].map fun (n : Nat) => .lit (.int .i64 (n : Int))) := by rw [← e4, hx3]
  rw [DataW.agg.injEq] at e5
  have h1 := hel2 (i % 4) (by omega)
  rw [c3cells] at h1
  obtain ⟨z, hz⟩ : ∃ z, xs2[i % 4]? = some z := ⟨xs2[i % 4]'(by omega), List.getElem?_eq_getElem (by omega)⟩
  rw [hz] at h1
  obtain ⟨k, e1, e3, wf⟩ := DataW.trod_int Tryd.underlying3 h1
  have hlt : i < cs.size := by omega
  have e2 : cs[i]? = some (.int .i64 k) := by
    have h3 := congrArg (fun l => l[0]?) e1
    simp only [List.getElem?_take, List.getElem?_drop, Nat.zero_lt_one, if_true, Nat.add_zero, Nat.mul_one, Array.getElem?_toList] at h3
    rw [if_pos (by omega), show i / 4 * 4 + i % 4 = i by omega] at h3
    exact h3
  have hl2 : i % 4 < LL[i / 4].length := by
    have := congrArg List.length e5
    simp only [List.length_map] at this
    omega
  have e6 := congrArg (fun l => l[i % 4]?) e5
  simp only [List.getElem?_map, hz, Option.map_some] at e6
  rw [List.getElem?_eq_getElem hl2, Option.map_some, Option.some.injEq, e3] at e6
  simp only [DataW.lit.injEq, Lit.int.injEq, true_and] at e6
  rw [e2, List.getD_eq_getElem?_getD (l := LL), List.getElem?_eq_getElem hll, Option.getD_some, List.getD_eq_getElem?_getD, List.getElem?_eq_getElem hl2, Option.getD_some, e6]
theorem gWords : Tryd.prog.globalNamed "cablegram/stream.start" = some 3 := by kernel_rfl
theorem tWords : (Tryd.prog.globals[3]?).map (·.type) = some 182 := by kernel_rfl
theorem gQuarters : Tryd.prog.globalNamed "cablegram/stream.quarters" = some 2 := by kernel_rfl
theorem tQuarters : (Tryd.prog.globals[2]?).map (·.type) = some 179 := by kernel_rfl
theorem zWords : ((begin Tryd.prog (fun _ _ => 0) default).world.heap[3]?).bind Obj.row? = some ((List.replicate 4 (Value.int .u32 0)).toArray, 182) := by kernel_rfl
theorem zQuarters : ((begin Tryd.prog (fun _ _ => 0) default).world.heap[2]?).bind Obj.row? = some ((List.replicate 32 (Value.int .i64 0)).toArray, 179) := by kernel_rfl
def laidFS {H : Type} : List (String × DataW H) := [("cablegram/sha.rounds", Rows.laid_cablegram_sha_rounds), ("cablegram/sha.start", Rows.laid_cablegram_sha_start), ("cablegram/stream.start", Rows.laid_cablegram_stream_start), ("cablegram/stream.quarters", Rows.laid_cablegram_stream_quarters)]
def qLL : List (List Nat) := [[0, 4, 8, 12], [1, 5, 9, 13], [2, 6, 10, 14], [3, 7, 11, 15], [0, 5, 10, 15], [1, 6, 11, 12], [2, 7, 8, 13], [3, 4, 9, 14]]
theorem of_laidS {W : World} (hS : W.ShapedOpen Tryd.prog) (h : laidMetH Tryd.prog laidFS W) : LaidS W := by
  rw [MakeChecks.laidMetH_plain _ _ _ (by kernel_rfl)] at h
  obtain ⟨ps, ⟨g0, t0, cs0, f0, p0, q0, hg0, ht0, hv0, hd0, hr, _⟩, _, _⟩ := h
  obtain ⟨g1, t1, cs1, f1, p1, q1, hg1, ht1, hv1, hd1, hr2, _⟩ := hr
  obtain ⟨g2, t2, cs2, f2, p2, q2, hg2, ht2, hv2, hd2, hr3, _⟩ := hr2
  obtain ⟨g3, t3, cs3, f3, p3, q3, hg3, ht3, hv3, hd3, _, _⟩ := hr3
  obtain rfl := Option.some.inj (gRounds.symm.trans hg0)
  obtain rfl := Option.some.inj (tRounds.symm.trans ht0)
  obtain rfl := Option.some.inj (gStart.symm.trans hg1)
  obtain rfl := Option.some.inj (tStart.symm.trans ht1)
  obtain rfl := Option.some.inj (gWords.symm.trans hg2)
  obtain rfl := Option.some.inj (tWords.symm.trans ht2)
  obtain rfl := Option.some.inj (gQuarters.symm.trans hg3)
  obtain rfl := Option.some.inj (tQuarters.symm.trans ht3)
  obtain ⟨e0, s0⟩ := row_of hS gRounds (of_decide_eq_true (by kernel_rfl)) zRounds hv0
  obtain ⟨e1, s1⟩ := row_of hS gStart (of_decide_eq_true (by kernel_rfl)) zStart hv1
  obtain ⟨e2, s2⟩ := row_of hS gWords (of_decide_eq_true (by kernel_rfl)) zWords hv2
  obtain ⟨e3, s3⟩ := row_of hS gQuarters (of_decide_eq_true (by kernel_rfl)) zQuarters hv3
  have a0 := laid_row Tryd.underlying159 rndK (by kernel_rfl) (s0.trans (by kernel_rfl)) hd0 (by kernel_rfl)
  have a1 := laid_row Tryd.underlying144 st0L (by kernel_rfl) (s1.trans (by kernel_rfl)) hd1 (by kernel_rfl)
  have a2 := laid_row Tryd.underlying182 st4 (by kernel_rfl) (s2.trans (by kernel_rfl)) hd2 (by kernel_rfl)
  have a3 := laid_row2 qLL (s3.trans (by kernel_rfl)) hd3 (by kernel_rfl)
  have w2 : arrF .u32 4 (fun i => st4.getD i 0) = arrF .u32 4 stW := by kernel_rfl
  have w3 : arrF .i64 32 (fun i => (qLL.getD (i / 4) []).getD (i % 4) 0) = arrF .i64 32 qT := by kernel_rfl
  exact ⟨⟨by rw [e0, a0]; rfl, by rw [e1, a1]; rfl⟩, by rw [e3, a3, w3], by rw [e2, a2, w2]⟩
theorem door_metS (os : Os) (args : Array Value) : laidMetH Tryd.prog laidFS ((World.doorLaid Tryd.prog 400 os).forCall (fun _ _ => 0) ⟨#[], args, []⟩).memory :=
  laidMetH_of_parts3 (fuel := 8) (laidMet_of_run' 8 (by kernel_rfl) (by kernel_rfl)) (by kernel_rfl) (by kernel_rfl)
end Go.Proofs.YtdejhenkdbjakaaDoor
