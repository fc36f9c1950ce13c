/- A walk by rules: whole numbers, tests, equality of keys and of the reference's numbers. -/
import Derived.Test.YtlnlppmhiobgjaaH1
import Derived.Defers
import Derived.Laws.LoneSync
import Derived.Deep.MidRow
import Derived.Laws.IdiomCopy
set_option linter.unusedVariables false
set_option linter.unusedSimpArgs false
namespace Go.Proofs.Ytlnlppmhiobgjaa
open Go Go.RowKit
/-- What two whole numbers come to. -/
def intRes (op : BinOp) (k : IntKind) (a b : Int) : Option Value :=
  match op with
  | .add => some (.int k (k.wrap (a + b)))
  | .sub => some (.int k (k.wrap (a - b)))
  | .mul => some (.int k (k.wrap (a * b)))
  | .quo => if b = 0 then none else some (.int k (k.wrap (a.tdiv b)))
  | .rem => if b = 0 then none else some (.int k (a.tmod b))
  | .and => some (.int k (k.wrap (BitVec.ofInt k.bits a &&& BitVec.ofInt k.bits b).toNat))
  | .or => some (.int k (k.wrap (BitVec.ofInt k.bits a ||| BitVec.ofInt k.bits b).toNat))
  | .xor => some (.int k (k.wrap (BitVec.ofInt k.bits a ^^^ BitVec.ofInt k.bits b).toNat))
  | .eql => some (.bool (a == b))
  | .neq => some (.bool (a != b))
  | .lss => some (.bool (decide (a < b)))
  | .leq => some (.bool (decide (a ≤ b)))
  | .gtr => some (.bool (decide (a > b)))
  | .geq => some (.bool (decide (a ≥ b)))
  | _ => none
section
variable {P : Program} {o : Oper} {V : List (Nat × Value)}
theorem R_bin {op : BinOp} {t t' : TypeId} {x y : Operand} (ho : o.op = .binOp op t x y t') {k : IntKind} {a b : Int} (hx : evV V x = .int k a) (hy : evV V y = .int k b) {v : Value} (hv : intRes op k a b = some v) (w : World) : (execOp (evV V) o).run P w = .ok (.value v) w := by
  have hg : (eqGuard op t x y (.int k a) (.int k b)).run P w = .ok () w := by
    unfold eqGuard
    cases op <;> simp [Sem.run_bind, Sem.run_pure, go_sem]
  unfold execOp
  simp only [ho, hx, hy, Sem.run_bind, hg, Result.andThen_ok]
  cases op <;> simp only [intRes, Option.some.injEq, reduceCtorEq] at hv <;> first
    | (subst hv; simp [binOp, Op.intArith, Op.intBits, Op.intCmp, Sem.run_bind, Sem.run_pure, go_sem])
    | (split at hv
       · cases hv
       · rename_i h0
         simp only [Option.some.injEq] at hv
         subst hv
         simp [binOp, Op.intDiv, h0, Sem.run_bind, Sem.run_pure, go_sem])
theorem R_shr {t t' : TypeId} {x y : Operand} (ho : o.op = .binOp .shr t x y t') {k yk : IntKind} {a b : Int} (hx : evV V x = .int k a) (hy : evV V y = .int yk b) (hb : 0 ≤ b) {v : Value} (hv : v = .int k (a.fdiv (2 ^ min b.toNat k.bits))) (w : World) : (execOp (evV V) o).run P w = .ok (.value v) w := by
  have hg : (eqGuard .shr t x y (.int k a) (.int yk b)).run P w = .ok () w := by
    unfold eqGuard
    simp [Sem.run_bind, Sem.run_pure, go_sem]
  subst hv
  unfold execOp
  simp only [ho, hx, hy, Sem.run_bind, hg, Result.andThen_ok]
  have : ¬ b < 0 := by omega
  simp [binOp, Op.shift, this, Sem.run_bind, Sem.run_pure, go_sem]
theorem i_lt {k : IntKind} {a b : Int} (h : a < b) : intRes .lss k a b = some (.bool true) := by simp [intRes, h]
theorem i_nlt {k : IntKind} {a b : Int} (h : ¬ a < b) : intRes .lss k a b = some (.bool false) := by simp [intRes]; omega
theorem i_ge {k : IntKind} {a b : Int} (h : b ≤ a) : intRes .geq k a b = some (.bool true) := by simp [intRes, h]
theorem i_nge {k : IntKind} {a b : Int} (h : ¬ b ≤ a) : intRes .geq k a b = some (.bool false) := by simp [intRes]; omega
theorem i_eq {k : IntKind} {a b : Int} (h : a = b) : intRes .eql k a b = some (.bool true) := by simp [intRes, h]
theorem i_neq {k : IntKind} {a b : Int} (h : a ≠ b) : intRes .eql k a b = some (.bool false) := by simp [intRes, h]
theorem wr_i64 {a : Int} (h : -9223372036854775808 ≤ a ∧ a ≤ 9223372036854775807) : IntKind.i64.wrap a = a := by rw [IntKind.wrap_i64]; omega
theorem i_add64 {a b c : Int} (h : a + b = c) (hc : -9223372036854775808 ≤ c ∧ c ≤ 9223372036854775807) : intRes .add .i64 a b = some (.int .i64 c) := by subst h; simp [intRes, wr_i64 hc]
theorem i_sub64 {a b c : Int} (h : a - b = c) (hc : -9223372036854775808 ≤ c ∧ c ≤ 9223372036854775807) : intRes .sub .i64 a b = some (.int .i64 c) := by subst h; simp [intRes, wr_i64 hc]
/-- Two bools. -/
theorem R_eqb {t t' : TypeId} {x y : Operand} (ho : o.op = .binOp .eql t x y t') {a b : Bool} (hx : evV V x = .bool a) (hy : evV V y = .bool b) (hu : P.underlying t = some .bool) {v : Bool} (hv : (a == b) = v) (w : World) : (execOp (evV V) o).run P w = .ok (.value (.bool v)) w := by
  subst hv
  have he : (Op.equalIn (9999 + 1) t (.bool a) (.bool b)).run P w = .ok (a == b) w := by
    unfold Op.equalIn
    rw [Sem.run_bind, run_underlying hu w]
    rfl
  unfold execOp
  simp only [ho, hx, hy]
  have hq : (Op.equal t (.bool a) (.bool b)).run P w = .ok (a == b) w := he
  simp [eqGuard, binOp, hq, Sem.run_bind, Sem.run_pure, go_sem]
/-- A part of an array by a whole number. -/
theorem R_index {t e : TypeId} {x y : Operand} (ho : o.op = .indexAddr t x y) {len : Nat} (hu : P.underlying t = some (.array len e)) {g off : Nat} (hx : evV V x = .pointer (some ⟨g, off, none⟩)) {k : IntKind} (i : Nat) (hy : evV V y = .int k i) (hi : i < len) {sz : Nat} (hs : (P.info? e).map (·.size) = some sz) (w : World) :
    (execOp (evV V) o).run P w = .ok (.value (.pointer (some ⟨g, off + i * sz, none⟩))) w := by
  have hsz : (sizeOf e).run P w = .ok sz w := by
    cases hq : P.info? e with
    | none => simp [hq] at hs
    | some j =>
      have hs' : j.size = sz := by simpa [hq] using hs
      simp [sizeOf, typeInfo, hq, hs', Sem.run_bind, go_sem]
  have h1 : (0 : Int) ≤ i ∧ (i : Int) < len := by omega
  unfold execOp
  simp only [ho, hx, hy, Instr.indexAt, Sem.run_bind, asIntOf, Sem.run_pure, Result.andThen_ok, run_underlying hu w, Instr.sureAddr, if_pos h1, hsz, Int.toNat_natCast]
  have hadd : (⟨g, off, none⟩ : Addr).add (i * sz) = ⟨g, off + i * sz, none⟩ := by unfold Addr.add; split <;> simp_all
  rw [hadd]
end
def upd (f : Nat → Nat) (i v : Nat) : Nat → Nat := fun j => if j = i then v else f j

theorem bv8 (a : Nat) (ha : a < 256) : (BitVec.ofInt 8 (a : Int)).toNat = a := by
  rw [BitVec.ofInt_natCast, BitVec.toNat_ofNat]
  exact Nat.mod_eq_of_lt (by simpa using ha)
theorem bv64 (a : Nat) (ha : a < 18446744073709551616) : (BitVec.ofInt 64 (a : Int)).toNat = a := by
  rw [BitVec.ofInt_natCast, BitVec.toNat_ofNat]
  exact Nat.mod_eq_of_lt (by simpa using ha)
theorem wr8 {a : Nat} (h : a < 256) : IntKind.u8.wrap (a : Int) = a := by rw [IntKind.wrap_u8]; omega
theorem wru64 {a : Nat} (h : a < 18446744073709551616) : IntKind.u64.wrap (a : Int) = a := by
  have : IntKind.u64.wrap (a : Int) = (a : Int) % 18446744073709551616 := by first | exact IntKind.wrap_u64 | rfl
  rw [this]; omega
theorem i_and8 {a b : Nat} (ha : a < 256) (hb : b < 256) : intRes .and .u8 a b = some (.int .u8 ((a &&& b : Nat) : Int)) := by
  have h : (BitVec.ofInt 8 (a : Int) &&& BitVec.ofInt 8 (b : Int)).toNat = a &&& b := by rw [BitVec.toNat_and, bv8 a ha, bv8 b hb]
  show some (Value.int .u8 (IntKind.u8.wrap ((BitVec.ofInt 8 (a : Int) &&& BitVec.ofInt 8 (b : Int)).toNat : Int))) = _
  rw [h, wr8 (Nat.lt_of_le_of_lt Nat.and_le_left ha)]
theorem i_xor8 {a b : Nat} (ha : a < 256) (hb : b < 256) : intRes .xor .u8 a b = some (.int .u8 ((a ^^^ b : Nat) : Int)) := by
  have h : (BitVec.ofInt 8 (a : Int) ^^^ BitVec.ofInt 8 (b : Int)).toNat = a ^^^ b := by rw [BitVec.toNat_xor, bv8 a ha, bv8 b hb]
  show some (Value.int .u8 (IntKind.u8.wrap ((BitVec.ofInt 8 (a : Int) ^^^ BitVec.ofInt 8 (b : Int)).toNat : Int))) = _
  rw [h, wr8 (Nat.xor_lt_two_pow (n := 8) ha hb)]
theorem i_quo64 {a b : Nat} (hb : 0 < b) (ha : a < 9223372036854775808) : intRes .quo .i64 a b = some (.int .i64 ((a / b : Nat) : Int)) := by
  have h0 : (b : Int) ≠ 0 := by omega
  have h1 : a / b ≤ a := Nat.div_le_self _ _
  simp only [intRes, if_neg h0]
  rw [Int.tdiv_eq_ediv_of_nonneg (by omega), ← Int.natCast_ediv]
  generalize a / b = q at *
  rw [wr_i64 ⟨by omega, by omega⟩]
theorem i_rem64 {a b : Nat} (hb : 0 < b) : intRes .rem .i64 a b = some (.int .i64 ((a % b : Nat) : Int)) := by
  have h0 : (b : Int) ≠ 0 := by omega
  simp only [intRes, if_neg h0]
  rw [Int.tmod_eq_emod_of_nonneg (by omega), ← Int.natCast_emod]
theorem then_ret {Q : Exit → Act → World → Prop} {K : Act → World → Prop} {a : Act} {w : World} (h : Q .ret a w) : Exit.then K Q .ret a w := h
theorem inB_ret {Q : Exit → Act → World → Prop} {id : Nat} {a : Act} {w : World} (h : Q .ret a w) : Exit.inBlock id Q .ret a w := h
/-- A block that came in. -/
theorem Hp.start1 (X : List Nat) {w : World} {ad : Nat} {ob : Obj} (h : w.heap[ad]? = some ob) : Hp X w [⟨false, ad, ob⟩] w :=
  ⟨Kept.refl _ _, fun p hp => by simp only [List.mem_singleton] at hp; subst hp; exact h, fun p hp ho => by simp only [List.mem_singleton] at hp; subst hp; exact Bool.noConfusion ho, List.pairwise_singleton _ _⟩
section
variable {P : Program} {o : Oper} {V : List (Nat × Value)}
theorem R_conv {s d : TypeId} {x : Operand} (ho : o.op = .convert s d x) {k k' k0 : IntKind} {a c : Int} (hs : P.underlying s = some (.int k0)) (hd : P.underlying d = some (.int k')) (hx : evV V x = .int k a) (hc : k'.wrap a = c) (w : World) : (execOp (evV V) o).run P w = .ok (.value (.int k' c)) w := by
  subst hc
  unfold execOp
  simp only [ho, hx, convert, Sem.run_bind, run_underlying hs w, run_underlying hd w, Result.andThen_ok, Conv.intToInt, Sem.run_pure]
/-- An element's place in a slice. -/
theorem R_indexS {t e : TypeId} {x y : Operand} (ho : o.op = .indexAddr t x y) (hu : P.underlying t = some (.slice e)) {g off len cap : Nat} (hx : evV V x = .slice (some ⟨g, off, none⟩) len cap) {k : IntKind} (i : Nat) (hy : evV V y = .int k i) (hi : i < len) {sz : Nat} (hs : (P.info? e).map (·.size) = some sz) (w : World) :
    (execOp (evV V) o).run P w = .ok (.value (.pointer (some ⟨g, off + i * sz, none⟩))) w := by
  have hsz : (sizeOf e).run P w = .ok sz w := by
    cases hq : P.info? e with
    | none => simp [hq] at hs
    | some j =>
      have hs' : j.size = sz := by simpa [hq] using hs
      simp [sizeOf, typeInfo, hq, hs', Sem.run_bind, go_sem]
  have h1 : (0 : Int) ≤ i ∧ (i : Int) < len := by omega
  unfold execOp
  simp only [ho, hx, hy, Instr.indexAt, Sem.run_bind, asIntOf, Sem.run_pure, Result.andThen_ok, run_underlying hu w, if_pos h1, hsz, Int.toNat_natCast]
  have hadd : (⟨g, off, none⟩ : Addr).add (i * sz) = ⟨g, off + i * sz, none⟩ := by unfold Addr.add; split <;> simp_all
  rw [hadd]
end
theorem i_mulu64 {a b : Nat} (h : a * b < 18446744073709551616) : intRes .mul .u64 a b = some (.int .u64 ((a * b : Nat) : Int)) := by
  simp only [intRes]; rw [← Int.natCast_mul, wru64 h]
theorem i_addn64 {a b : Nat} (h : a + b < 9223372036854775808) : intRes .add .i64 a b = some (.int .i64 ((a + b : Nat) : Int)) := by
  simp only [intRes]; rw [← Int.natCast_add, wr_i64 (by omega)]
theorem i_and64 {a b : Nat} (ha : a < 9223372036854775808) (hb : b < 9223372036854775808) : intRes .and .i64 a b = some (.int .i64 ((a &&& b : Nat) : Int)) := by
  have h : (BitVec.ofInt 64 (a : Int) &&& BitVec.ofInt 64 (b : Int)).toNat = a &&& b := by rw [BitVec.toNat_and, bv64 a (by omega), bv64 b (by omega)]
  have h2 : a &&& b ≤ a := Nat.and_le_left
  show some (Value.int .i64 (IntKind.i64.wrap ((BitVec.ofInt 64 (a : Int) &&& BitVec.ofInt 64 (b : Int)).toNat : Int))) = _
  rw [h, wr_i64 (by omega)]
theorem i_ltn {k : IntKind} {a b : Nat} : intRes .lss k a b = some (.bool (decide (a < b))) := by
  simp only [intRes, Option.some.injEq, Value.bool.injEq]
  rw [Bool.eq_iff_iff]; simp
theorem wrn64 {a : Nat} (h : a < 9223372036854775808) : IntKind.i64.wrap (a : Int) = a := wr_i64 (by omega)

/-- Some cells laid over others. -/
def spl : Array Value → Nat → List Value → Array Value
  | C, _, [] => C
  | C, o, v :: vs => spl (C.setIfInBounds o v) (o + 1) vs
section
variable {P : Program} {ops : Array Oper} {Q : Exit → Act → World → Prop} {rest : List Oper} {o : Oper} {a : Act} {w w0 : World} {n : Nat} {ds : List Deferred} {V : List (Nat × Value)} {X : List Nat} {L : List Blk}
theorem kept_store (g : Nat) (t : TypeId) : ∀ (vs : List Value) (C : Array Value) (o : Nat) (w : World), w.heap[g]? = some (.cells C t (0, 0)) → o + vs.length ≤ C.size → Kept [g] w (w.setCells g o vs) ∧ (w.setCells g o vs).heap[g]? = some (.cells (spl C o vs) t (0, 0))
  | [], C, o, w, h, _ => ⟨Kept.refl _ _, h⟩
  | v :: vs, C, o, w, h, hl => by
    have h1 := heap_setCell_same w g o C t v h
    have k1 : Kept [g] w (w.setCell ⟨g, o, none⟩ v) := ⟨rfl, rfl, rfl, by simp [World.setCell], fun k _ hk => heap_setCell_other _ _ _ _ (by simpa using hk)⟩
    obtain ⟨k2, h2⟩ := kept_store g t vs (C.setIfInBounds o v) (o + 1) (w.setCell ⟨g, o, none⟩ v) h1 (by simp at hl ⊢; omega)
    exact ⟨k1.trans (fun y hy => .inr hy) k2, h2⟩
theorem P_part {g off : Nat} {Z R : Obj} {old cs : Array Value} {t : TypeId} (hZ : Z = .cells old t (0, 0)) (hR : R = .cells (spl old off cs.toList) t (0, 0)) {ty : TypeId} {x y : Operand} (ho : o.op = .store ty x y) (hx : evV V x = .pointer (some ⟨g, off, none⟩)) (hy : evV V y = .agg cs)
    (hinf : (P.info? ty).map (·.size) = some cs.size) (hlen : off + cs.toList.length ≤ old.size) (h1 : cs.all (·.oneCell') = true) (hg : w.heap[g]? = some Z) : ∃ w', (execOp (evV V) o).run P w = .ok .skip w' ∧ Kept [g] w w' ∧ w'.heap[g]? = some R := by
  subst hZ hR
  have ht : w.there g off cs.size := fun j hj => by
    refine ⟨?_, frozen_of_row w g _ old t hg⟩
    rw [cell_of_row w g (off + j) old t (0, 0) hg]
    have : off + j < old.size := by simp at hlen; omega
    rw [Array.getElem?_eq_getElem this]; rfl
  obtain ⟨k, h⟩ := kept_store g t cs.toList old off w hg hlen
  refine ⟨w.setCells g off cs.toList, ?_, k, h⟩
  unfold execOp
  simp only [ho, hx, hy, Instr.storeAt, Instr.sureAddr, Sem.run_bind, Sem.run_pure, Result.andThen_ok, run_storeVar_mid w g off ty cs ht hinf h1]
/-- A call that is deferred. -/
theorem T_defer (F : Fm n ds V a) (hc0 : opB ops V n o = true) (d : Deferred) (hr : ∀ w, (execOp (evV V) o).run P w = .ok (.defer d) w) (h : ∀ a, Fm n (d :: ds) (upV V o.dst undef) a → wpList P ops Q rest a w) : wpList P ops Q (o :: rest) a w := by
  obtain ⟨hg, hk, hd0⟩ := opB_spec hc0
  refine T_core F hg hk fun K hK => ?_
  rw [hr w, Oper.upon_defer]
  have F' : Fm n (d :: ds) V { a with defers := d :: a.defers } := ⟨by show d :: a.defers = d :: ds; rw [F.df], F.sz, F.at_⟩
  exact hK _ _ (h _ (F'.put _ _ hd0))
theorem C_enterD {f : FuncId} {fn : Func} {c : Code} {args : Array Value} {R : Ending → World → Prop} (hf : P.funcs[f]? = some fn) (hb : fn.body = some c) (n : Nat) (hn : fn.ntmps = n) (hle : args.size ≤ n)
    (h : ∀ a, Fm n [] (argV args.toList 0) a → c.wp P (bodyPostD P fn R) a w) : Calls P f args w R := by
  refine calls_of_wp_defers hf hb (h _ ⟨rfl, ?_, fun t v hv => ?_⟩)
  · simp only [Array.size_append, Array.size_replicate, hn]; omega
  · obtain ⟨_, h2⟩ := argV_lk hv
    rw [Nat.sub_zero, Array.getElem?_toList] at h2
    rw [Array.getElem?_append_left (Array.getElem?_eq_some_iff.1 h2).1]
    exact h2
/-- A function that ends without results. -/
theorem C_end {fn : Func} {R : Ending → World → Prop} (F : Fm n [] V a) (hr : fn.results = #[]) (hR : R (.returned (.tuple #[])) w) : bodyPost P fn R .normal a w :=
  bodyPost_end (results_none hr _ _ _) F.df hR
/-- A call of a function that has no body. -/
theorem R_call0 {f : Nat} {xs : Array Operand} {ts : Array TypeId} (ho : o.op = .call { callee := .value (.func f), args := xs, argTypes := ts }) {args : Array Value} (ha : xs.map (evV V) = args) {w w' : World} {r : Next} (h : (callFunc f args).run P w = .ok r w') : (execOp (evV V) o).run P w = .ok r w' := by
  subst ha
  unfold execOp
  simp only [ho, resolve, evV, Deferred.ofValue, Sem.run_bind, Sem.run_pure, Result.andThen_ok, invoke, Array.append_empty, Array.empty_append]
  exact h
end
end Go.Proofs.Ytlnlppmhiobgjaa
