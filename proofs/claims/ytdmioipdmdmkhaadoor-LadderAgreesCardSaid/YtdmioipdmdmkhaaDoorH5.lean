/- A walk by rules: parts of blocks that are written, deferred calls, calls without a body. -/
import Derived.Test.YtdmioipdmdmkhaaDoorH4
import Derived.Defers
import Derived.Laws.LoneSync
import Derived.Deep.MidRow
import Derived.Laws.IdiomCopy
set_option linter.unusedVariables false
set_option linter.unusedSimpArgs false
namespace Go.Proofs.YtdmioipdmdmkhaaDoor
open Go Go.RowKit
/-- Some cells laid over others. -/
def spl : Array Value → Nat → List Value → Array Value
  | C, _, [] => C
  | C, o, v :: vs => spl (C.setIfInBounds o v) (o + 1) vs
section
variable {P : Program} {ops : Array Oper} {Q : Exit → Act → World → Prop} {rest : List Oper} {o : Oper} {a : Act} {w w0 : World} {n : Nat} {ds : List Deferred} {V : List (Nat × Value)} {X : List Nat} {L : List Blk}
theorem setRow_setRow (w : World) (g : Nat) (a b : Array Value) {old : Array Value} {t : TypeId} {fr : Nat × Nat} (h : w.heap[g]? = some (.cells old t fr)) : (w.setRow g a).heap[g]? = some (.cells a t fr) := setRow_heap _ _ _ _ _ _ h
theorem kept_store (g : Nat) (t : TypeId) : ∀ (vs : List Value) (C : Array Value) (o : Nat) (w : World), w.heap[g]? = some (.cells C t (0, 0)) → o + vs.length ≤ C.size → Kept [g] w (w.setCells g o vs) ∧ (w.setCells g o vs).heap[g]? = some (.cells (spl C o vs) t (0, 0))
  | [], C, o, w, h, _ => ⟨Kept.refl _ _, h⟩
  | v :: vs, C, o, w, h, hl => by
    have h1 := heap_setCell_same w g o C t v h
    have k1 : Kept [g] w (w.setCell ⟨g, o, none⟩ v) := ⟨rfl, rfl, rfl, by simp [World.setCell], fun k _ hk => heap_setCell_other _ _ _ _ (by simpa using hk)⟩
    obtain ⟨k2, h2⟩ := kept_store g t vs (C.setIfInBounds o v) (o + 1) (w.setCell ⟨g, o, none⟩ v) h1 (by simp at hl ⊢; omega)
    exact ⟨k1.trans (fun y hy => .inr hy) k2, h2⟩
theorem P_part {g off : Nat} {Z R : Obj} {old cs : Array Value} {t : TypeId} (hZ : Z = .cells old t (0, 0)) (hR : R = .cells (spl old off cs.toList) t (0, 0)) {ty : TypeId} {x y : Operand} (ho : o.op = .store ty x y) (hx : evV V x = .pointer (some ⟨g, off, none⟩)) (hy : evV V y = .agg cs)
    (hinf : (P.info? ty).map (·.size) = some cs.size) (hlen : off + cs.toList.length ≤ old.size) (h1 : cs.all (·.oneCell') = true) (hg : w.heap[g]? = some Z) : ∃ w', (execOp (evV V) o).run P w = .ok .skip w' ∧ Kept [g] w w' ∧ w'.heap[g]? = some R := by
  subst hZ hR
  have ht : w.there g off cs.size := fun j hj => by
    refine ⟨?_, frozen_of_row w g _ old t hg⟩
    rw [cell_of_row w g (off + j) old t (0, 0) hg]
    have : off + j < old.size := by simp at hlen; omega
    rw [Array.getElem?_eq_getElem this]; rfl
  obtain ⟨k, h⟩ := kept_store g t cs.toList old off w hg hlen
  refine ⟨w.setCells g off cs.toList, ?_, k, h⟩
  unfold execOp
  simp only [ho, hx, hy, Instr.storeAt, Instr.sureAddr, Sem.run_bind, Sem.run_pure, Result.andThen_ok, run_storeVar_mid w g off ty cs ht hinf h1]
/-- A write to a block, however it is told. -/
theorem T_put (F : Fm n ds V a) (H : Hp X w0 L w) (hc0 : opB ops V n o = true) (hd : o.dst = none) (k : Nat) {ad : Nat} {Z R : Obj} (hl : L[k]? = some ⟨true, ad, Z⟩)
    (hr : ∀ w, HeldL L w → w.heap[ad]? = some Z → ∃ w', (execOp (evV V) o).run P w = .ok .skip w' ∧ Kept [ad] w w' ∧ w'.heap[ad]? = some R) (L' : List Blk) (hL : L.set k ⟨true, ad, R⟩ = L')
    (h : ∀ a w, Fm n ds V a → Hp X w0 L' w → wpList P ops Q rest a w) : wpList P ops Q (o :: rest) a w := by
  obtain ⟨hg, hk, hd0⟩ := opB_spec hc0
  refine T_core F hg hk fun K hK => ?_
  obtain ⟨w', h1, h2, h3⟩ := hr w ⟨H.held⟩ (H.at_ hl)
  rw [h1, Oper.upon_skip, hd]
  exact hK _ _ (h _ _ F (hL ▸ H.put hl h2 h3))
/-- A call that writes one of the blocks. -/
theorem T_callP (F : Fm n ds V a) (H : Hp X w0 L w) (hc0 : opB ops V n o = true) (f : Nat) (args : Array Value) (v : Value) (k : Nat) {ad : Nat} {Z R : Obj} (hl : L[k]? = some ⟨true, ad, Z⟩)
    (hr : ∀ w, (execOp (evV V) o).run P w = .ok (.enter f args) w) (hc : ∀ w, HeldL L w → w.heap[ad]? = some Z → Kept X w0 w → Calls P f args w fun e w' => e = .returned v ∧ Kept [ad] w w' ∧ w'.heap[ad]? = some R) (L' : List Blk) (hL : L.set k ⟨true, ad, R⟩ = L')
    (h : ∀ a w, Fm n ds (upV V o.dst v) a → Hp X w0 L' w → wpList P ops Q rest a w) : wpList P ops Q (o :: rest) a w := by
  obtain ⟨hg, hk, hd0⟩ := opB_spec hc0
  refine T_core F hg hk fun K hK => ?_
  rw [hr w, Oper.upon_enter]
  refine (hc w ⟨H.held⟩ (H.at_ hl) H.kept).mono fun e w' ⟨he, h2, h3⟩ => ?_
  subst he
  exact hK _ _ (h _ _ (F.put _ _ hd0) (hL ▸ H.put hl h2 h3))
/-- A call that is deferred. -/
theorem T_defer (F : Fm n ds V a) (hc0 : opB ops V n o = true) (d : Deferred) (hr : ∀ w, (execOp (evV V) o).run P w = .ok (.defer d) w) (h : ∀ a, Fm n (d :: ds) (upV V o.dst undef) a → wpList P ops Q rest a w) : wpList P ops Q (o :: rest) a w := by
  obtain ⟨hg, hk, hd0⟩ := opB_spec hc0
  refine T_core F hg hk fun K hK => ?_
  rw [hr w, Oper.upon_defer]
  have F' : Fm n (d :: ds) V { a with defers := d :: a.defers } := ⟨by show d :: a.defers = d :: ds; rw [F.df], F.sz, F.at_⟩
  exact hK _ _ (h _ (F'.put _ _ hd0))
theorem C_enterD {f : FuncId} {fn : Func} {c : Code} {args : Array Value} {R : Ending → World → Prop} (hf : P.funcs[f]? = some fn) (hb : fn.body = some c) (n : Nat) (hn : fn.ntmps = n) (hle : args.size ≤ n)
    (h : ∀ a, Fm n [] (argV args.toList 0) a → c.wp P (bodyPostD P fn R) a w) : Calls P f args w R := by
  refine calls_of_wp_defers hf hb (h _ ⟨rfl, ?_, fun t v hv => ?_⟩)
  · simp only [Array.size_append, Array.size_replicate, hn]; omega
  · obtain ⟨_, h2⟩ := argV_lk hv
    rw [Nat.sub_zero, Array.getElem?_toList] at h2
    rw [Array.getElem?_append_left (Array.getElem?_eq_some_iff.1 h2).1]
    exact h2
/-- A function that ends without results. -/
theorem C_end {fn : Func} {R : Ending → World → Prop} (F : Fm n [] V a) (hr : fn.results = #[]) (hR : R (.returned (.tuple #[])) w) : bodyPost P fn R .normal a w :=
  bodyPost_end (results_none hr _ _ _) F.df hR
/-- A call of a function that has no body. -/
theorem R_call0 {f : Nat} {xs : Array Operand} {ts : Array TypeId} (ho : o.op = .call { callee := .value (.func f), args := xs, argTypes := ts }) {args : Array Value} (ha : xs.map (evV V) = args) {w w' : World} {r : Next} (h : (callFunc f args).run P w = .ok r w') : (execOp (evV V) o).run P w = .ok r w' := by
  subst ha
  unfold execOp
  simp only [ho, resolve, evV, Deferred.ofValue, Sem.run_bind, Sem.run_pure, Result.andThen_ok, invoke, Array.append_empty, Array.empty_append]
  exact h
end
end Go.Proofs.YtdmioipdmdmkhaaDoor
