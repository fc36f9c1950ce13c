/- Walk: OutboxAgain. -/
import Derived.Test.YtlnlppmhiobgjaaGJ
set_option linter.unusedVariables false
set_option linter.unusedSimpArgs false
namespace Go.Proofs.Ytlnlppmhiobgjaa
open Go Go.RowKit
theorem flat_at {α : Type} {f : α → List Value} {n : Nat} (hf : ∀ a, (f a).length = n) : ∀ {l : List α} {k j : Nat} {a : α}, l[k]? = some a → j < n → (l.flatMap f)[k * n + j]? = (f a)[j]?
  | a :: l, 0, j, b, h, hj => by
    rw [List.getElem?_cons_zero] at h
    injection h with h
    subst h
    rw [List.flatMap_cons, Nat.zero_mul, Nat.zero_add, List.getElem?_append_left (by rw [hf]; exact hj)]
  | a :: l, k + 1, j, b, h, hj => by
    rw [List.getElem?_cons_succ] at h
    rw [List.flatMap_cons, List.getElem?_append_right (by rw [hf, Nat.add_mul]; omega), ← flat_at hf h hj, hf]
    congr 1
    rw [Nat.add_mul]
    omega
/-- A whole struct by its cells. -/
theorem R_ldA {P : Program} {o : Oper} {V : List (Nat × Value)} {w : World} {ty : TypeId} {y : Operand} (ho : o.op = .load ty y) {g off : Nat} (hy : evV V y = .pointer (some ⟨g, off, none⟩)) (cs : Array Value) (hc : ∀ j v, cs[j]? = some v → w.cell? ⟨g, off + j, none⟩ = some v)
    (d : TypeDesc) (hu : P.underlying ty = some d) (hd : (match d with | .struct _ | .array _ _ => true | _ => false) = true) (hi : (P.info? ty).map (·.size) = some cs.size) : (execOp (evV V) o).run P w = .ok (.value (.agg cs)) w := by
  have hl : (loadCells ⟨g, off, none⟩ cs.toList.length).run P w = .ok cs.toList.toArray w :=
    run_loadCells_list (P := P) w ⟨g, off, none⟩ cs.toList (fun j v hv => by
      have hadd : (⟨g, off, none⟩ : Addr).add j = ⟨g, off + j, none⟩ := by unfold Addr.add; split <;> simp_all
      rw [hadd]
      exact hc j v (by simpa using hv))
  have hv : (loadVar ty ⟨g, off, none⟩).run P w = .ok (.agg cs) w := by
    cases hq : P.info? ty with
    | none => simp [hq] at hi
    | some i =>
      have hs : i.size = cs.size := by simpa [hq] using hi
      have hagg : (isAgg ty).run P w = .ok true w := by
        unfold isAgg
        rw [Sem.run_bind, run_underlying hu w]
        cases d <;> simp_all
      simp only [Array.length_toList, Array.toArray_toList] at hl
      simp [loadVar, Sem.run_bind, hagg, sizeOf, typeInfo, hq, hs, hl]
  unfold execOp
  simp only [ho, hy, Instr.loadAt, Instr.sureAddr, Sem.run_bind, Sem.run_pure, Result.andThen_ok, hv]
theorem R_len0 {P : Program} {o : Oper} {V : List (Nat × Value)} {w : World} {x : Operand} {t e : TypeId} (ho : o.op = .call { callee := .builtin .len, args := #[x], argTypes := #[t] }) (ht : P.underlying t = some (.slice e)) {ad : Option Addr} {n c : Nat} (hx : evV V x = .slice ad n c) : (execOp (evV V) o).run P w = .ok (.value (.int .i64 ((n : Nat) : Int))) w := by
  unfold execOp
  simp only [ho, resolve, invoke, builtin, Sem.run_bind, Sem.run_pure, Result.andThen_ok, List.map_toArray, List.map_cons, List.map_nil, hx]
  simp [Builtin.len_, run_underlying ht]
  rfl
theorem R_lenLs {P : Program} {o : Oper} {V : List (Nat × Value)} {w : World} {x : Operand} {t e : TypeId} (ho : o.op = .call { callee := .builtin .len, args := #[x], argTypes := #[t] }) (ht : P.underlying t = some (.slice e)) (q : Ls) (hq : q.ok) (hx : evV V x = q.v) : (execOp (evV V) o).run P w = .ok (.value (.int .i64 ((q.cs.length : Nat) : Int))) w := by
  obtain ⟨nl, g, cap, rest, cs⟩ := q
  cases nl with
  | true =>
    have h0 : cs = [] := hq.nil rfl
    subst h0
    exact R_len0 ho ht hx
  | false => exact R_len0 ho ht hx
/-- An operation of a script for the outbox. -/
structure OpI where
  do_ : Int
  ix : Nat
  now : Nat
  b : Sv
  lv : Value
abbrev OpI.arr (o : OpI) : Array Value := #[.int .i64 o.do_, .int .u32 ((o.ix : Nat) : Int), .int .u64 ((o.now : Nat) : Int), .slice o.b.ad o.b.l.length o.b.c, o.lv]
def OpI.cells (o : OpI) : List Value := o.arr.toList
structure OpsR (w : World) (la : Option Addr) (c : Nat) (ops : List OpI) : Prop where
  le : ops.length ≤ c
  at_ : ops ≠ [] → ∃ g off, la = some ⟨g, off, none⟩ ∧ RdB w g off (ops.flatMap OpI.cells)
  each : ∀ o ∈ ops, o.b.Rd w ∧ o.ix < 4294967296 ∧ o.lv.oneCell' = true
theorem op_load {w : World} {g off k : Nat} {ops : List OpI} {op : OpI} (h : RdB w g off (ops.flatMap OpI.cells)) (hk : ops[k]? = some op) : ∀ j v, op.arr[j]? = some v → w.cell? ⟨g, off + k * 5 + j, none⟩ = some v := fun j v hj => by
  have hj5 : j < 5 := (Array.getElem?_eq_some_iff.1 hj).1
  have := flat_at (f := OpI.cells) (n := 5) (fun _ => rfl) hk hj5
  rw [Nat.add_assoc]
  refine h _ _ (this.trans ?_)
  unfold OpI.cells
  rw [Array.getElem?_toList]; exact hj
theorem op_ones {op : OpI} (h : op.lv.oneCell' = true) : op.arr.all (·.oneCell') = true := by
  simp only [OpI.arr, List.all_toArray, List.all_cons, List.all_nil, h, Bool.and_true]
  rfl
theorem rdK_in0 {w0 w : World} {xb : Nat} {s : BxS} {R : List Blk} {b : Sv} (H : Hp [] w0 (s.blks xb ++ R) w) (h : b.Rd w0) : b.RdK ((s.hd xb).map (·.ad)) w := fun w' k =>
  h.kept (H.kept.trans (fun y hy => by
    obtain ⟨p, hp, e⟩ := List.mem_map.1 hy
    have := H.own p (List.mem_append_left _ (List.mem_append_left _ hp)) (List.all_eq_true.1 (s.hd_own xb) p hp)
    rwa [e] at this) k)
theorem i_eqI {k : IntKind} {a b : Int} : intRes .eql k a b = some (.bool (decide (a = b))) := rfl
def Bnd (D : List Dt) : Prop := ∀ d ∈ D, d.1 < 4294967296 ∧ d.2.1 < 1099511627781
theorem Bnd.add {D : List Dt} (h : Bnd D) {ix now : Nat} {l : List Nat} (hi : ix < 4294967296) (hn : now < 1099511627776) : Bnd (addD D ix now l) := by
  unfold addD
  split
  · exact fun d hd => (List.mem_append.1 hd).elim (h d) (fun hd => by rw [List.mem_singleton.1 hd]; exact ⟨hi, by show now < _; omega⟩)
  · exact h
theorem Bnd.due {D : List Dt} (h : Bnd D) {now : Nat} (hn : now < 1099511627776) : Bnd (D.map (dueDU now)) := fun d hd => by
  obtain ⟨d', hd', rfl⟩ := List.mem_map.1 hd
  have := h d' hd'
  unfold dueDU
  split
  · exact ⟨this.1, by show now + 5 < _; omega⟩
  · exact this
theorem Bnd.got {D : List Dt} (h : Bnd D) (nn : Nat) : Bnd (gotD nn D) := fun d hd => h d (List.mem_filter.1 hd).1
theorem due_all {D : List Dt} {now : Nat} (h : ∀ d ∈ D, d.2.1 ≤ now) : dueL now D = D.map (·.2.2) := by
  unfold dueL
  rw [List.filter_eq_self.2 fun d hd => decide_eq_true (h d hd)]
theorem due_none {D : List Dt} {now : Nat} (h : ∀ d ∈ D, now < d.2.1) : dueL now D = [] ∧ D.map (dueDU now) = D := by
  refine ⟨?_, ?_⟩
  · unfold dueL
    rw [List.filter_eq_nil_iff.2 fun d hd => by have := h d hd; simp only [decide_eq_true_eq]; omega]; rfl
  · refine (List.map_congr_left fun d hd => ?_).trans (List.map_id _)
    exact if_neg (Nat.not_le.2 (h d hd))
theorem due_at {D : List Dt} {now : Nat} (h : ∀ d ∈ D, d.2.1 ≤ now) : ∀ d ∈ D.map (dueDU now), d.2.1 = now + 5 := fun d hd => by
  obtain ⟨d', hd', rfl⟩ := List.mem_map.1 hd
  unfold dueDU
  rw [if_pos (h d' hd')]
theorem due_ls (D : List Dt) (now : Nat) : (D.map (dueDU now)).map (·.2.2) = D.map (·.2.2) := by
  rw [List.map_map]
  exact List.map_congr_left fun d _ => by show (dueDU now d).2.2 = d.2.2; unfold dueDU; split <;> rfl
theorem due_ix (D : List Dt) (now : Nat) : (D.map (dueDU now)).map (·.1) = D.map (·.1) := by
  rw [List.map_map]
  exact List.map_congr_left fun d _ => by show (dueDU now d).1 = d.1; unfold dueDU; split <;> rfl
theorem got_all {D D' : List Dt} {nn : Nat} (h : ∀ d ∈ D, d.1 ≤ nn) (e : D'.map (·.1) = D.map (·.1)) : gotD nn D' = [] := by
  refine List.filter_eq_nil_iff.2 fun d hd => ?_
  have : d.1 ∈ D.map (·.1) := by rw [← e]; exact List.mem_map_of_mem hd
  obtain ⟨d', hd', e'⟩ := List.mem_map.1 this
  have := h d' hd'
  simp only [decide_eq_true_eq]
  omega
theorem s_weak {w0 w : World} {xb : Nat} {s : BxS} {R : List Blk} (H : Hp [] w0 (s.blks xb ++ R) w) : Hp [] w0 (s.blks xb ++ []) w := H.weak (List.Sublist.append (List.Sublist.refl _) (List.nil_sublist _))

set_option maxRecDepth 100000 in
set_option maxHeartbeats 4000000 in
theorem outboxAgain_any (la : Option Addr) (c : Nat) (ops : List OpI) (w : World) (hI : OpsR w la c ops) : Calls Try.prog 4 #[.slice la ops.length c] w fun e w' => e = .returned (.bool true) ∧ Kept [] w w' := by
  refine C_enter Try.func4 rfl 109 Try.ntmps4 (Nat.le_of_ble_eq_true rfl) (fun a F => ?_)
  have H := Hp.start [] w
  replace F : Fm 109 [] [(0, .slice la ops.length c)] a := F.weak _ (subL_of kr)
  refine C_seqK (fun K1 hK1 => ?_)
  refine C_region ?_
  refine T_k F H (.bool false) ?_
  clear F; intro a F
  refine wpList_nil ?_
  refine hK1 _ _ ?_
  clear hK1
  try clear K1
  refine C_seqK (fun K2 hK2 => ?_)
  refine C_region ?_
  refine T_call F H kr 15 #[] (.bool true) (fun w => kr) (awake21_any _) ?_
  clear F H; intro a v F H
  refine T_k F H (.bool true) ?_
  clear F; intro a F
  refine wpList_nil ?_
  refine hK2 _ _ ?_
  clear hK2
  try clear K2
  refine C_seqK (fun K3 hK3 => ?_)
  refine C_region ?_
  refine T_k F H (.agg #[.slice none 0 0]) ?_
  clear F; intro a F
  refine T_new F H kr (fun ad => pt ad 0) (ce #[.slice none 0 0] 47) (fun w => kr) ?_
  clear F H; intro aq4 a v F H
  refine T_k F H (pt aq4 0) ?_
  clear F; intro a F
  refine wpList_nil ?_
  replace H : Hp [] w [bk aq4 #[.slice none 0 0] 47] v := H.pick [0] kr _ rfl
  generalize aq4 = xb at F H
  replace H : Hp [] w ((⟨true, 0, 0, [], []⟩ : BxS).blks xb ++ []) v := H
  refine hK3 _ _ ?_
  clear hK3
  try clear K3
  refine C_seqK (fun K5 hK5 => ?_)
  refine C_seqK (fun K6 hK6 => ?_)
  refine C_region ?_
  refine T_k F H (.slice la ops.length c) ?_
  clear F; intro a F
  refine T_k F H (ni ops.length) ?_
  clear F; intro a F
  refine T_val F H kr (.bool (decide (60 < ops.length))) (fun w _ => R_bin (x := (.tmp 18)) (y := (.const (.int .i64 60))) rfl (k := .i64) (a := ((ops.length : Nat) : Int)) (b := ((60 : Nat) : Int)) kr kr i_gtrd w) ?_
  clear F; intro a F
  refine wpList_nil ?_
  refine hK6 _ _ ?_
  clear hK6
  try clear K6
  by_cases hc : 60 < ops.length
  · rw [decide_eq_true hc] at F
    refine C_if F true rfl rfl ?_
    refine C_seqK (fun K7 hK7 => ?_)
    refine C_region ?_
    refine T_k F H (.bool true) ?_
    clear F; intro a F
    refine T_k F H (.bool true) ?_
    clear F; intro a F
    refine wpList_nil ?_
    refine hK7 _ _ ?_
    clear hK7
    try clear K7
    refine wp_ret ?_
    repeat (first | with_reducible refine then_ret ?_ | with_reducible refine inB_ret ?_)
    exact C_ret F H (rs := [.tmp 2]) rfl (vs := [.bool true]) (.tmp rfl .nil) (.bool true) rfl ⟨rfl, H.kept⟩
  rw [decide_eq_false hc] at F
  refine C_if F false rfl rfl ?_
  refine wp_skip ?_
  refine hK5 _ _ ?_
  clear hK5
  try clear K5
  refine C_seqK (fun K8 hK8 => ?_)
  refine C_seqK (fun K9 hK9 => ?_)
  refine C_region ?_
  refine T_k F H (ni 0) ?_
  clear F; intro a F
  refine wpList_nil ?_
  refine hK9 _ _ ?_
  clear hK9
  try clear K9
  replace F : Fm 109 [] [(5, ni 0), (0, .slice la ops.length c), (3, .bool true), (4, pt xb 0)] a := F.weak _ (subL_of kr)
  have hlen : ops.length ≤ 60 := Nat.not_lt.1 hc
  clear hc
  refine wp_block ?_
  refine C_loop (fun m a v => ∃ (k : Nat) (s : BxS), k + m = ops.length ∧ (s.ok ∧ Bnd s.D) ∧ Fm 109 [] [(5, ni k), (0, .slice la ops.length c), (3, .bool true), (4, pt xb 0)] a ∧ Hp [] w (s.blks xb ++ []) v) ops.length ⟨0, (⟨true, 0, 0, [], []⟩ : BxS), Nat.zero_add _, ⟨s0_ok, fun d hd => by cases hd⟩, F, H⟩ ?_
  clear F H
  intro m a v ⟨k, s, hk, ⟨hs, hB⟩, F, H⟩
  rcases m with _ | m
  rotate_left
  · obtain ⟨op, hop⟩ : ∃ op, ops[k]? = some op := ⟨_, List.getElem?_eq_getElem (show k < ops.length by omega)⟩
    obtain ⟨ga, oa, e1, hr⟩ := hI.at_ (fun e => by rw [e] at hop; cases hop)
    subst e1
    obtain ⟨hob, hix, hlv⟩ := hI.each op (List.mem_of_getElem? hop)
    have hcase : 1099511627776 ≤ op.now ∨ (op.now < 1099511627776 ∧ (op.do_ = 1 ∨ op.do_ = 5 ∨ op.do_ = 2 ∨ op.do_ = 3 ∨ (op.do_ ≠ 1 ∧ op.do_ ≠ 5 ∧ op.do_ ≠ 2 ∧ op.do_ ≠ 3))) := by omega
    rcases hcase with hnw | ⟨hnw, hd | hd | hd | hd | ⟨hd1, hd5, hd2, hd3⟩⟩
    · skip
      refine C_seqK (fun K10 hK10 => ?_)
      refine C_seqK (fun K11 hK11 => ?_)
      refine C_region ?_
      refine T_k F H (ni k) ?_
      clear F; intro a F
      refine T_k F H (sc ga oa ops.length c) ?_
      clear F; intro a F
      refine T_k F H (ni ops.length) ?_
      clear F; intro a F
      refine T_val F H kr (.bool true) (fun w _ => R_bin (x := (.tmp 21)) (y := (.tmp 23)) rfl (k := .i64) (a := ((k : Nat) : Int)) (b := ((ops.length : Nat) : Int)) kr kr (i_lt (by omega)) w) ?_
      clear F; intro a F
      refine wpList_nil ?_
      refine hK11 _ _ ?_
      clear hK11
      try clear K11
      refine C_if F true rfl rfl ?_
      refine wp_skip ?_
      refine hK10 _ _ ?_
      clear hK10
      try clear K10
      refine C_seqK (fun K12 hK12 => ?_)
      refine wp_block ?_
      refine C_seqK (fun K13 hK13 => ?_)
      refine C_region ?_
      refine T_k F H (sc ga oa ops.length c) ?_
      clear F; intro a F
      refine T_k F H (ni k) ?_
      clear F; intro a F
      refine T_val F H kr (pt ga (oa + (k) * 5)) (fun w _ => R_indexS (k := .i64) (g := ga) (off := oa) (len := ops.length) (cap := c) (x := (.tmp 27)) (y := (.tmp 28)) rfl Try.underlying43 kr (k) kr (by omega) (sz := 5) kr w) ?_
      clear F; intro a F
      refine T_valK F H kr (.agg op.arr) (fun w hk hl => R_ldA (y := (.tmp 29)) rfl (g := ga) (off := oa + k * 5) kr op.arr (op_load (hr.kept hk List.not_mem_nil) hop) _ Try.underlying50 rfl kr) ?_
      clear F; intro a F
      refine T_new F H kr (fun ad => pt ad 0) (ce #[.int .i64 0, .int .u32 0, .int .u64 0, .slice none 0 0, .slice none 0 0] 50) (fun w => kr) ?_
      clear F H; intro aq14 a v F H
      refine T_set F H kr rfl 0 rfl op.arr (S_row 0 rfl 50 (.tmp 6) (.tmp 30) rfl kr op.arr kr kr kr (op_ones hlv)) ((bk aq14 op.arr 50) :: (s.blks xb ++ [])) rfl ?_
      clear F H; intro a v F H
      refine wpList_nil ?_
      refine hK13 _ _ ?_
      clear hK13
      try clear K13
      refine C_seqK (fun K15 hK15 => ?_)
      refine C_seqK (fun K16 hK16 => ?_)
      refine C_region ?_
      refine T_k F H (pt aq14 2) ?_
      clear F; intro a F
      refine T_val F H kr (nu op.now) (R_cell (own := true) (g := aq14) (all := op.arr) (t := 50) (fr := (0, 0)) 0 kr 48 (.tmp 31) rfl 2 kr (nu op.now) kr _ Try.underlying48 rfl) ?_
      clear F; intro a F
      refine T_val F H kr (.bool true) (fun w _ => R_bin (x := (.tmp 32)) (y := (.const (.int .u64 1099511627776))) rfl (k := .u64) (a := ((op.now : Nat) : Int)) (b := ((1099511627776 : Nat) : Int)) kr kr (i_geqd.trans (by rw [decide_eq_true (by omega)])) w) ?_
      clear F; intro a F
      refine wpList_nil ?_
      refine hK16 _ _ ?_
      clear hK16
      try clear K16
      refine C_if F true rfl rfl ?_
      refine C_seqK (fun K17 hK17 => ?_)
      refine C_region ?_
      refine T_k F H (.bool true) ?_
      clear F; intro a F
      refine T_k F H (.bool true) ?_
      clear F; intro a F
      refine wpList_nil ?_
      refine hK17 _ _ ?_
      clear hK17
      try clear K17
      refine wp_ret ?_
      repeat (first | with_reducible refine then_ret ?_ | with_reducible refine inB_ret ?_)
      exact C_ret F H (rs := [.tmp 2]) rfl (vs := [.bool true]) (.tmp rfl .nil) (.bool true) rfl ⟨rfl, H.kept⟩
    · skip
      refine C_seqK (fun K18 hK18 => ?_)
      refine C_seqK (fun K19 hK19 => ?_)
      refine C_region ?_
      refine T_k F H (ni k) ?_
      clear F; intro a F
      refine T_k F H (sc ga oa ops.length c) ?_
      clear F; intro a F
      refine T_k F H (ni ops.length) ?_
      clear F; intro a F
      refine T_val F H kr (.bool true) (fun w _ => R_bin (x := (.tmp 21)) (y := (.tmp 23)) rfl (k := .i64) (a := ((k : Nat) : Int)) (b := ((ops.length : Nat) : Int)) kr kr (i_lt (by omega)) w) ?_
      clear F; intro a F
      refine wpList_nil ?_
      refine hK19 _ _ ?_
      clear hK19
      try clear K19
      refine C_if F true rfl rfl ?_
      refine wp_skip ?_
      refine hK18 _ _ ?_
      clear hK18
      try clear K18
      refine C_seqK (fun K20 hK20 => ?_)
      refine wp_block ?_
      refine C_seqK (fun K21 hK21 => ?_)
      refine C_region ?_
      refine T_k F H (sc ga oa ops.length c) ?_
      clear F; intro a F
      refine T_k F H (ni k) ?_
      clear F; intro a F
      refine T_val F H kr (pt ga (oa + (k) * 5)) (fun w _ => R_indexS (k := .i64) (g := ga) (off := oa) (len := ops.length) (cap := c) (x := (.tmp 27)) (y := (.tmp 28)) rfl Try.underlying43 kr (k) kr (by omega) (sz := 5) kr w) ?_
      clear F; intro a F
      refine T_valK F H kr (.agg op.arr) (fun w hk hl => R_ldA (y := (.tmp 29)) rfl (g := ga) (off := oa + k * 5) kr op.arr (op_load (hr.kept hk List.not_mem_nil) hop) _ Try.underlying50 rfl kr) ?_
      clear F; intro a F
      refine T_new F H kr (fun ad => pt ad 0) (ce #[.int .i64 0, .int .u32 0, .int .u64 0, .slice none 0 0, .slice none 0 0] 50) (fun w => kr) ?_
      clear F H; intro aq22 a v F H
      refine T_set F H kr rfl 0 rfl op.arr (S_row 0 rfl 50 (.tmp 6) (.tmp 30) rfl kr op.arr kr kr kr (op_ones hlv)) ((bk aq22 op.arr 50) :: (s.blks xb ++ [])) rfl ?_
      clear F H; intro a v F H
      refine wpList_nil ?_
      refine hK21 _ _ ?_
      clear hK21
      try clear K21
      refine C_seqK (fun K23 hK23 => ?_)
      refine C_seqK (fun K24 hK24 => ?_)
      refine C_region ?_
      refine T_k F H (pt aq22 2) ?_
      clear F; intro a F
      refine T_val F H kr (nu op.now) (R_cell (own := true) (g := aq22) (all := op.arr) (t := 50) (fr := (0, 0)) 0 kr 48 (.tmp 31) rfl 2 kr (nu op.now) kr _ Try.underlying48 rfl) ?_
      clear F; intro a F
      refine T_val F H kr (.bool false) (fun w _ => R_bin (x := (.tmp 32)) (y := (.const (.int .u64 1099511627776))) rfl (k := .u64) (a := ((op.now : Nat) : Int)) (b := ((1099511627776 : Nat) : Int)) kr kr (i_geqd.trans (by rw [decide_eq_false (by omega)])) w) ?_
      clear F; intro a F
      refine wpList_nil ?_
      refine hK24 _ _ ?_
      clear hK24
      try clear K24
      refine C_if F false rfl rfl ?_
      refine wp_skip ?_
      refine hK23 _ _ ?_
      clear hK23
      try clear K23
      refine C_seqK (fun K25 hK25 => ?_)
      refine C_region ?_
      refine T_k F H (pt aq22 0) ?_
      clear F; intro a F
      refine T_val F H kr (.int .i64 op.do_) (R_cell (own := true) (g := aq22) (all := op.arr) (t := 50) (fr := (0, 0)) 0 kr 3 (.tmp 35) rfl 0 kr (.int .i64 op.do_) kr _ Try.underlying3 rfl) ?_
      clear F; intro a F
      refine wpList_nil ?_
      refine hK25 _ _ ?_
      clear hK25
      try clear K25
      refine wp_block ?_
      refine C_seqK (fun K26 hK26 => ?_)
      refine C_seqK (fun K27 hK27 => ?_)
      refine C_region ?_
      refine T_val F H kr (.bool true) (fun w _ => R_bin (x := (.tmp 36)) (y := (.const (.int .i64 1))) rfl (k := .i64) (a := op.do_) (b := 1) kr kr (i_eqI.trans (by rw [decide_eq_true (by omega)])) w) ?_
      clear F; intro a F
      refine T_k F H (.bool true) ?_
      clear F; intro a F
      refine wpList_nil ?_
      refine hK27 _ _ ?_
      clear hK27
      try clear K27
      refine C_if F true rfl rfl ?_
      refine wp_skip ?_
      refine hK26 _ _ ?_
      clear hK26
      try clear K26
      refine C_if F true rfl rfl ?_
      refine C_region ?_
      refine T_k F H (pt xb 0) ?_
      clear F; intro a F
      refine T_k F H (pt aq22 1) ?_
      clear F; intro a F
      refine T_val F H kr (nw op.ix) (R_cell (own := true) (g := aq22) (all := op.arr) (t := 50) (fr := (0, 0)) 0 kr 29 (.tmp 41) rfl 1 kr (nw op.ix) kr _ Try.underlying29 rfl) ?_
      clear F; intro a F
      refine T_k F H (pt aq22 3) ?_
      clear F; intro a F
      refine T_val F H kr (.slice op.b.ad op.b.l.length op.b.c) (R_cell (own := true) (g := aq22) (all := op.arr) (t := 50) (fr := (0, 0)) 0 kr 30 (.tmp 43) rfl 3 kr (.slice op.b.ad op.b.l.length op.b.c) kr _ Try.underlying30 rfl) ?_
      clear F; intro a F
      refine T_k F H (pt aq22 2) ?_
      clear F; intro a F
      refine T_val F H kr (nu op.now) (R_cell (own := true) (g := aq22) (all := op.arr) (t := 50) (fr := (0, 0)) 0 kr 48 (.tmp 45) rfl 2 kr (nu op.now) kr _ Try.underlying48 rfl) ?_
      clear F; intro a F
      replace H : Hp [] w (s.blks xb ++ ((bk aq22 op.arr 50) :: [])) v := H.perm List.perm_middle.symm
      refine T_callX (α := BxS) F H kr 16 #[pt xb 0, nw op.ix, .slice op.b.ad op.b.l.length op.b.c, nu op.now] (fun rX => .int .i64 (addC s.D op.ix)) (fun rX => rX.blks xb ++ ((bk aq22 op.arr 50) :: [])) (fun rX => rX.ok ∧ rX.D = addD s.D op.ix op.now op.b.l) (fun w => kr) (fun w H => (add_S hs H op.ix op.now op.b (rdK_in0 H hob)).mono fun _ _ ⟨s', q1, q2, q3, q4⟩ => ⟨s', q1, ⟨q2, q3⟩, q4⟩) ?_
      clear F H; intro s28 a v Qs28 F H
      refine wpList_nil ?_
      refine hK20 _ _ ?_
      clear hK20
      try clear K20
      refine C_region ?_
      refine T_k F H (ni k) ?_
      clear F; intro a F
      refine T_val F H kr (ni (k + 1)) (fun w _ => R_bin (x := (.tmp 25)) (y := (.const (.int .i64 1))) rfl (k := .i64) (a := ((k : Nat) : Int)) (b := ((1 : Nat) : Int)) kr kr (i_addn64 (a := k) (b := 1) (by omega)) w) ?_
      clear F; intro a F
      refine T_k F H (ni (k + 1)) ?_
      clear F; intro a F
      refine wpList_nil ?_
      replace F : Fm 109 [] [(5, ni (k + 1)), (0, sc ga oa ops.length c), (3, .bool true), (4, pt xb 0)] a := F.weak _ (subL_of kr)
      exact ⟨m, Nat.lt_succ_self m, k + 1, s28, by omega, ⟨Qs28.1, by rw [Qs28.2]; exact hB.add hix hnw⟩, F, s_weak H⟩
    · skip
      refine C_seqK (fun K29 hK29 => ?_)
      refine C_seqK (fun K30 hK30 => ?_)
      refine C_region ?_
      refine T_k F H (ni k) ?_
      clear F; intro a F
      refine T_k F H (sc ga oa ops.length c) ?_
      clear F; intro a F
      refine T_k F H (ni ops.length) ?_
      clear F; intro a F
      refine T_val F H kr (.bool true) (fun w _ => R_bin (x := (.tmp 21)) (y := (.tmp 23)) rfl (k := .i64) (a := ((k : Nat) : Int)) (b := ((ops.length : Nat) : Int)) kr kr (i_lt (by omega)) w) ?_
      clear F; intro a F
      refine wpList_nil ?_
      refine hK30 _ _ ?_
      clear hK30
      try clear K30
      refine C_if F true rfl rfl ?_
      refine wp_skip ?_
      refine hK29 _ _ ?_
      clear hK29
      try clear K29
      refine C_seqK (fun K31 hK31 => ?_)
      refine wp_block ?_
      refine C_seqK (fun K32 hK32 => ?_)
      refine C_region ?_
      refine T_k F H (sc ga oa ops.length c) ?_
      clear F; intro a F
      refine T_k F H (ni k) ?_
      clear F; intro a F
      refine T_val F H kr (pt ga (oa + (k) * 5)) (fun w _ => R_indexS (k := .i64) (g := ga) (off := oa) (len := ops.length) (cap := c) (x := (.tmp 27)) (y := (.tmp 28)) rfl Try.underlying43 kr (k) kr (by omega) (sz := 5) kr w) ?_
      clear F; intro a F
      refine T_valK F H kr (.agg op.arr) (fun w hk hl => R_ldA (y := (.tmp 29)) rfl (g := ga) (off := oa + k * 5) kr op.arr (op_load (hr.kept hk List.not_mem_nil) hop) _ Try.underlying50 rfl kr) ?_
      clear F; intro a F
      refine T_new F H kr (fun ad => pt ad 0) (ce #[.int .i64 0, .int .u32 0, .int .u64 0, .slice none 0 0, .slice none 0 0] 50) (fun w => kr) ?_
      clear F H; intro aq33 a v F H
      refine T_set F H kr rfl 0 rfl op.arr (S_row 0 rfl 50 (.tmp 6) (.tmp 30) rfl kr op.arr kr kr kr (op_ones hlv)) ((bk aq33 op.arr 50) :: (s.blks xb ++ [])) rfl ?_
      clear F H; intro a v F H
      refine wpList_nil ?_
      refine hK32 _ _ ?_
      clear hK32
      try clear K32
      refine C_seqK (fun K34 hK34 => ?_)
      refine C_seqK (fun K35 hK35 => ?_)
      refine C_region ?_
      refine T_k F H (pt aq33 2) ?_
      clear F; intro a F
      refine T_val F H kr (nu op.now) (R_cell (own := true) (g := aq33) (all := op.arr) (t := 50) (fr := (0, 0)) 0 kr 48 (.tmp 31) rfl 2 kr (nu op.now) kr _ Try.underlying48 rfl) ?_
      clear F; intro a F
      refine T_val F H kr (.bool false) (fun w _ => R_bin (x := (.tmp 32)) (y := (.const (.int .u64 1099511627776))) rfl (k := .u64) (a := ((op.now : Nat) : Int)) (b := ((1099511627776 : Nat) : Int)) kr kr (i_geqd.trans (by rw [decide_eq_false (by omega)])) w) ?_
      clear F; intro a F
      refine wpList_nil ?_
      refine hK35 _ _ ?_
      clear hK35
      try clear K35
      refine C_if F false rfl rfl ?_
      refine wp_skip ?_
      refine hK34 _ _ ?_
      clear hK34
      try clear K34
      refine C_seqK (fun K36 hK36 => ?_)
      refine C_region ?_
      refine T_k F H (pt aq33 0) ?_
      clear F; intro a F
      refine T_val F H kr (.int .i64 op.do_) (R_cell (own := true) (g := aq33) (all := op.arr) (t := 50) (fr := (0, 0)) 0 kr 3 (.tmp 35) rfl 0 kr (.int .i64 op.do_) kr _ Try.underlying3 rfl) ?_
      clear F; intro a F
      refine wpList_nil ?_
      refine hK36 _ _ ?_
      clear hK36
      try clear K36
      refine wp_block ?_
      refine C_seqK (fun K37 hK37 => ?_)
      refine C_seqK (fun K38 hK38 => ?_)
      refine C_region ?_
      refine T_val F H kr (.bool false) (fun w _ => R_bin (x := (.tmp 36)) (y := (.const (.int .i64 1))) rfl (k := .i64) (a := op.do_) (b := 1) kr kr (i_eqI.trans (by rw [decide_eq_false (by omega)])) w) ?_
      clear F; intro a F
      refine T_k F H (.bool false) ?_
      clear F; intro a F
      refine wpList_nil ?_
      refine hK38 _ _ ?_
      clear hK38
      try clear K38
      refine C_if F false rfl rfl ?_
      refine C_region ?_
      refine T_val F H kr (.bool true) (fun w _ => R_bin (x := (.tmp 36)) (y := (.const (.int .i64 5))) rfl (k := .i64) (a := op.do_) (b := 5) kr kr (i_eqI.trans (by rw [decide_eq_true (by omega)])) w) ?_
      clear F; intro a F
      refine T_k F H (.bool true) ?_
      clear F; intro a F
      refine wpList_nil ?_
      refine hK37 _ _ ?_
      clear hK37
      try clear K37
      refine C_if F true rfl rfl ?_
      refine C_region ?_
      refine T_k F H (pt xb 0) ?_
      clear F; intro a F
      refine T_k F H (pt aq33 1) ?_
      clear F; intro a F
      refine T_val F H kr (nw op.ix) (R_cell (own := true) (g := aq33) (all := op.arr) (t := 50) (fr := (0, 0)) 0 kr 29 (.tmp 41) rfl 1 kr (nw op.ix) kr _ Try.underlying29 rfl) ?_
      clear F; intro a F
      refine T_k F H (pt aq33 3) ?_
      clear F; intro a F
      refine T_val F H kr (.slice op.b.ad op.b.l.length op.b.c) (R_cell (own := true) (g := aq33) (all := op.arr) (t := 50) (fr := (0, 0)) 0 kr 30 (.tmp 43) rfl 3 kr (.slice op.b.ad op.b.l.length op.b.c) kr _ Try.underlying30 rfl) ?_
      clear F; intro a F
      refine T_k F H (pt aq33 2) ?_
      clear F; intro a F
      refine T_val F H kr (nu op.now) (R_cell (own := true) (g := aq33) (all := op.arr) (t := 50) (fr := (0, 0)) 0 kr 48 (.tmp 45) rfl 2 kr (nu op.now) kr _ Try.underlying48 rfl) ?_
      clear F; intro a F
      replace H : Hp [] w (s.blks xb ++ ((bk aq33 op.arr 50) :: [])) v := H.perm List.perm_middle.symm
      refine T_callX (α := BxS) F H kr 16 #[pt xb 0, nw op.ix, .slice op.b.ad op.b.l.length op.b.c, nu op.now] (fun rX => .int .i64 (addC s.D op.ix)) (fun rX => rX.blks xb ++ ((bk aq33 op.arr 50) :: [])) (fun rX => rX.ok ∧ rX.D = addD s.D op.ix op.now op.b.l) (fun w => kr) (fun w H => (add_S hs H op.ix op.now op.b (rdK_in0 H hob)).mono fun _ _ ⟨s', q1, q2, q3, q4⟩ => ⟨s', q1, ⟨q2, q3⟩, q4⟩) ?_
      clear F H; intro s39 a v Qs39 F H
      refine wpList_nil ?_
      refine hK31 _ _ ?_
      clear hK31
      try clear K31
      refine C_region ?_
      refine T_k F H (ni k) ?_
      clear F; intro a F
      refine T_val F H kr (ni (k + 1)) (fun w _ => R_bin (x := (.tmp 25)) (y := (.const (.int .i64 1))) rfl (k := .i64) (a := ((k : Nat) : Int)) (b := ((1 : Nat) : Int)) kr kr (i_addn64 (a := k) (b := 1) (by omega)) w) ?_
      clear F; intro a F
      refine T_k F H (ni (k + 1)) ?_
      clear F; intro a F
      refine wpList_nil ?_
      replace F : Fm 109 [] [(5, ni (k + 1)), (0, sc ga oa ops.length c), (3, .bool true), (4, pt xb 0)] a := F.weak _ (subL_of kr)
      exact ⟨m, Nat.lt_succ_self m, k + 1, s39, by omega, ⟨Qs39.1, by rw [Qs39.2]; exact hB.add hix hnw⟩, F, s_weak H⟩
    · skip
      refine C_seqK (fun K40 hK40 => ?_)
      refine C_seqK (fun K41 hK41 => ?_)
      refine C_region ?_
      refine T_k F H (ni k) ?_
      clear F; intro a F
      refine T_k F H (sc ga oa ops.length c) ?_
      clear F; intro a F
      refine T_k F H (ni ops.length) ?_
      clear F; intro a F
      refine T_val F H kr (.bool true) (fun w _ => R_bin (x := (.tmp 21)) (y := (.tmp 23)) rfl (k := .i64) (a := ((k : Nat) : Int)) (b := ((ops.length : Nat) : Int)) kr kr (i_lt (by omega)) w) ?_
      clear F; intro a F
      refine wpList_nil ?_
      refine hK41 _ _ ?_
      clear hK41
      try clear K41
      refine C_if F true rfl rfl ?_
      refine wp_skip ?_
      refine hK40 _ _ ?_
      clear hK40
      try clear K40
      refine C_seqK (fun K42 hK42 => ?_)
      refine wp_block ?_
      refine C_seqK (fun K43 hK43 => ?_)
      refine C_region ?_
      refine T_k F H (sc ga oa ops.length c) ?_
      clear F; intro a F
      refine T_k F H (ni k) ?_
      clear F; intro a F
      refine T_val F H kr (pt ga (oa + (k) * 5)) (fun w _ => R_indexS (k := .i64) (g := ga) (off := oa) (len := ops.length) (cap := c) (x := (.tmp 27)) (y := (.tmp 28)) rfl Try.underlying43 kr (k) kr (by omega) (sz := 5) kr w) ?_
      clear F; intro a F
      refine T_valK F H kr (.agg op.arr) (fun w hk hl => R_ldA (y := (.tmp 29)) rfl (g := ga) (off := oa + k * 5) kr op.arr (op_load (hr.kept hk List.not_mem_nil) hop) _ Try.underlying50 rfl kr) ?_
      clear F; intro a F
      refine T_new F H kr (fun ad => pt ad 0) (ce #[.int .i64 0, .int .u32 0, .int .u64 0, .slice none 0 0, .slice none 0 0] 50) (fun w => kr) ?_
      clear F H; intro aq44 a v F H
      refine T_set F H kr rfl 0 rfl op.arr (S_row 0 rfl 50 (.tmp 6) (.tmp 30) rfl kr op.arr kr kr kr (op_ones hlv)) ((bk aq44 op.arr 50) :: (s.blks xb ++ [])) rfl ?_
      clear F H; intro a v F H
      refine wpList_nil ?_
      refine hK43 _ _ ?_
      clear hK43
      try clear K43
      refine C_seqK (fun K45 hK45 => ?_)
      refine C_seqK (fun K46 hK46 => ?_)
      refine C_region ?_
      refine T_k F H (pt aq44 2) ?_
      clear F; intro a F
      refine T_val F H kr (nu op.now) (R_cell (own := true) (g := aq44) (all := op.arr) (t := 50) (fr := (0, 0)) 0 kr 48 (.tmp 31) rfl 2 kr (nu op.now) kr _ Try.underlying48 rfl) ?_
      clear F; intro a F
      refine T_val F H kr (.bool false) (fun w _ => R_bin (x := (.tmp 32)) (y := (.const (.int .u64 1099511627776))) rfl (k := .u64) (a := ((op.now : Nat) : Int)) (b := ((1099511627776 : Nat) : Int)) kr kr (i_geqd.trans (by rw [decide_eq_false (by omega)])) w) ?_
      clear F; intro a F
      refine wpList_nil ?_
      refine hK46 _ _ ?_
      clear hK46
      try clear K46
      refine C_if F false rfl rfl ?_
      refine wp_skip ?_
      refine hK45 _ _ ?_
      clear hK45
      try clear K45
      refine C_seqK (fun K47 hK47 => ?_)
      refine C_region ?_
      refine T_k F H (pt aq44 0) ?_
      clear F; intro a F
      refine T_val F H kr (.int .i64 op.do_) (R_cell (own := true) (g := aq44) (all := op.arr) (t := 50) (fr := (0, 0)) 0 kr 3 (.tmp 35) rfl 0 kr (.int .i64 op.do_) kr _ Try.underlying3 rfl) ?_
      clear F; intro a F
      refine wpList_nil ?_
      refine hK47 _ _ ?_
      clear hK47
      try clear K47
      refine wp_block ?_
      refine C_seqK (fun K48 hK48 => ?_)
      refine C_seqK (fun K49 hK49 => ?_)
      refine C_region ?_
      refine T_val F H kr (.bool false) (fun w _ => R_bin (x := (.tmp 36)) (y := (.const (.int .i64 1))) rfl (k := .i64) (a := op.do_) (b := 1) kr kr (i_eqI.trans (by rw [decide_eq_false (by omega)])) w) ?_
      clear F; intro a F
      refine T_k F H (.bool false) ?_
      clear F; intro a F
      refine wpList_nil ?_
      refine hK49 _ _ ?_
      clear hK49
      try clear K49
      refine C_if F false rfl rfl ?_
      refine C_region ?_
      refine T_val F H kr (.bool false) (fun w _ => R_bin (x := (.tmp 36)) (y := (.const (.int .i64 5))) rfl (k := .i64) (a := op.do_) (b := 5) kr kr (i_eqI.trans (by rw [decide_eq_false (by omega)])) w) ?_
      clear F; intro a F
      refine T_k F H (.bool false) ?_
      clear F; intro a F
      refine wpList_nil ?_
      refine hK48 _ _ ?_
      clear hK48
      try clear K48
      refine C_if F false rfl rfl ?_
      refine C_seqK (fun K50 hK50 => ?_)
      refine C_region ?_
      refine T_val F H kr (.bool true) (fun w _ => R_bin (x := (.tmp 36)) (y := (.const (.int .i64 2))) rfl (k := .i64) (a := op.do_) (b := 2) kr kr (i_eqI.trans (by rw [decide_eq_true (by omega)])) w) ?_
      clear F; intro a F
      refine T_k F H (.bool true) ?_
      clear F; intro a F
      refine wpList_nil ?_
      refine hK50 _ _ ?_
      clear hK50
      try clear K50
      refine C_if F true rfl rfl ?_
      refine C_region ?_
      refine T_k F H (pt xb 0) ?_
      clear F; intro a F
      refine T_k F H (pt aq44 2) ?_
      clear F; intro a F
      refine T_val F H kr (nu op.now) (R_cell (own := true) (g := aq44) (all := op.arr) (t := 50) (fr := (0, 0)) 0 kr 48 (.tmp 51) rfl 2 kr (nu op.now) kr _ Try.underlying48 rfl) ?_
      clear F; intro a F
      replace H : Hp [] w (s.blks xb ++ ((bk aq44 op.arr 50) :: [])) v := H.perm List.perm_middle.symm
      refine T_callX (α := BxS × Ls) F H kr 17 #[pt xb 0, nu op.now] (fun rX => rX.2.v) (fun rX => rX.1.blks xb ++ (rX.2.blks ++ ((bk aq44 op.arr 50) :: []))) (fun rX => rX.1.ok ∧ rX.2.ok ∧ rX.1.D = s.D.map (dueDU (op.now)) ∧ rX.2.ls = dueL (op.now) s.D ∧ rX.2.cs.length ≤ 4) (fun w => kr) (fun w H => due_S hs H (op.now) (by omega)) ?_
      clear F H; intro s51 a v Qs51 F H
      obtain ⟨s51, os51⟩ := s51
      dsimp only at Qs51
      obtain ⟨hs51, hos51, hds51, hls51, hcs51⟩ := Qs51
      replace F : Fm 109 [] [(53, (os51.v)), (52, nu op.now), (51, pt aq44 2), (50, pt xb 0), (48, .bool true), (49, .bool true), (37, .bool false), (39, .bool false), (38, .bool false), (36, .int .i64 op.do_), (35, pt aq44 0), (33, .bool false), (32, nu op.now), (31, pt aq44 2), (6, pt aq44 0), (30, .agg op.arr), (29, pt ga (oa + (k) * 5)), (28, ni k), (27, sc ga oa ops.length c), (24, .bool true), (23, ni ops.length), (22, sc ga oa ops.length c), (21, ni k), (5, ni k), (0, sc ga oa ops.length c), (3, .bool true), (4, pt xb 0)] a := F.weak _ (subL_of kr)
      replace H : Hp [] w (s51.blks xb ++ (os51.blks ++ ((bk aq44 op.arr 50) :: []))) v := H
      refine wpList_nil ?_
      refine hK42 _ _ ?_
      clear hK42
      try clear K42
      refine C_region ?_
      refine T_k F H (ni k) ?_
      clear F; intro a F
      refine T_val F H kr (ni (k + 1)) (fun w _ => R_bin (x := (.tmp 25)) (y := (.const (.int .i64 1))) rfl (k := .i64) (a := ((k : Nat) : Int)) (b := ((1 : Nat) : Int)) kr kr (i_addn64 (a := k) (b := 1) (by omega)) w) ?_
      clear F; intro a F
      refine T_k F H (ni (k + 1)) ?_
      clear F; intro a F
      refine wpList_nil ?_
      replace F : Fm 109 [] [(5, ni (k + 1)), (0, sc ga oa ops.length c), (3, .bool true), (4, pt xb 0)] a := F.weak _ (subL_of kr)
      exact ⟨m, Nat.lt_succ_self m, k + 1, s51, by omega, ⟨hs51, by rw [hds51]; exact hB.due hnw⟩, F, s_weak H⟩
    · skip
      refine C_seqK (fun K52 hK52 => ?_)
      refine C_seqK (fun K53 hK53 => ?_)
      refine C_region ?_
      refine T_k F H (ni k) ?_
      clear F; intro a F
      refine T_k F H (sc ga oa ops.length c) ?_
      clear F; intro a F
      refine T_k F H (ni ops.length) ?_
      clear F; intro a F
      refine T_val F H kr (.bool true) (fun w _ => R_bin (x := (.tmp 21)) (y := (.tmp 23)) rfl (k := .i64) (a := ((k : Nat) : Int)) (b := ((ops.length : Nat) : Int)) kr kr (i_lt (by omega)) w) ?_
      clear F; intro a F
      refine wpList_nil ?_
      refine hK53 _ _ ?_
      clear hK53
      try clear K53
      refine C_if F true rfl rfl ?_
      refine wp_skip ?_
      refine hK52 _ _ ?_
      clear hK52
      try clear K52
      refine C_seqK (fun K54 hK54 => ?_)
      refine wp_block ?_
      refine C_seqK (fun K55 hK55 => ?_)
      refine C_region ?_
      refine T_k F H (sc ga oa ops.length c) ?_
      clear F; intro a F
      refine T_k F H (ni k) ?_
      clear F; intro a F
      refine T_val F H kr (pt ga (oa + (k) * 5)) (fun w _ => R_indexS (k := .i64) (g := ga) (off := oa) (len := ops.length) (cap := c) (x := (.tmp 27)) (y := (.tmp 28)) rfl Try.underlying43 kr (k) kr (by omega) (sz := 5) kr w) ?_
      clear F; intro a F
      refine T_valK F H kr (.agg op.arr) (fun w hk hl => R_ldA (y := (.tmp 29)) rfl (g := ga) (off := oa + k * 5) kr op.arr (op_load (hr.kept hk List.not_mem_nil) hop) _ Try.underlying50 rfl kr) ?_
      clear F; intro a F
      refine T_new F H kr (fun ad => pt ad 0) (ce #[.int .i64 0, .int .u32 0, .int .u64 0, .slice none 0 0, .slice none 0 0] 50) (fun w => kr) ?_
      clear F H; intro aq56 a v F H
      refine T_set F H kr rfl 0 rfl op.arr (S_row 0 rfl 50 (.tmp 6) (.tmp 30) rfl kr op.arr kr kr kr (op_ones hlv)) ((bk aq56 op.arr 50) :: (s.blks xb ++ [])) rfl ?_
      clear F H; intro a v F H
      refine wpList_nil ?_
      refine hK55 _ _ ?_
      clear hK55
      try clear K55
      refine C_seqK (fun K57 hK57 => ?_)
      refine C_seqK (fun K58 hK58 => ?_)
      refine C_region ?_
      refine T_k F H (pt aq56 2) ?_
      clear F; intro a F
      refine T_val F H kr (nu op.now) (R_cell (own := true) (g := aq56) (all := op.arr) (t := 50) (fr := (0, 0)) 0 kr 48 (.tmp 31) rfl 2 kr (nu op.now) kr _ Try.underlying48 rfl) ?_
      clear F; intro a F
      refine T_val F H kr (.bool false) (fun w _ => R_bin (x := (.tmp 32)) (y := (.const (.int .u64 1099511627776))) rfl (k := .u64) (a := ((op.now : Nat) : Int)) (b := ((1099511627776 : Nat) : Int)) kr kr (i_geqd.trans (by rw [decide_eq_false (by omega)])) w) ?_
      clear F; intro a F
      refine wpList_nil ?_
      refine hK58 _ _ ?_
      clear hK58
      try clear K58
      refine C_if F false rfl rfl ?_
      refine wp_skip ?_
      refine hK57 _ _ ?_
      clear hK57
      try clear K57
      refine C_seqK (fun K59 hK59 => ?_)
      refine C_region ?_
      refine T_k F H (pt aq56 0) ?_
      clear F; intro a F
      refine T_val F H kr (.int .i64 op.do_) (R_cell (own := true) (g := aq56) (all := op.arr) (t := 50) (fr := (0, 0)) 0 kr 3 (.tmp 35) rfl 0 kr (.int .i64 op.do_) kr _ Try.underlying3 rfl) ?_
      clear F; intro a F
      refine wpList_nil ?_
      refine hK59 _ _ ?_
      clear hK59
      try clear K59
      refine wp_block ?_
      refine C_seqK (fun K60 hK60 => ?_)
      refine C_seqK (fun K61 hK61 => ?_)
      refine C_region ?_
      refine T_val F H kr (.bool false) (fun w _ => R_bin (x := (.tmp 36)) (y := (.const (.int .i64 1))) rfl (k := .i64) (a := op.do_) (b := 1) kr kr (i_eqI.trans (by rw [decide_eq_false (by omega)])) w) ?_
      clear F; intro a F
      refine T_k F H (.bool false) ?_
      clear F; intro a F
      refine wpList_nil ?_
      refine hK61 _ _ ?_
      clear hK61
      try clear K61
      refine C_if F false rfl rfl ?_
      refine C_region ?_
      refine T_val F H kr (.bool false) (fun w _ => R_bin (x := (.tmp 36)) (y := (.const (.int .i64 5))) rfl (k := .i64) (a := op.do_) (b := 5) kr kr (i_eqI.trans (by rw [decide_eq_false (by omega)])) w) ?_
      clear F; intro a F
      refine T_k F H (.bool false) ?_
      clear F; intro a F
      refine wpList_nil ?_
      refine hK60 _ _ ?_
      clear hK60
      try clear K60
      refine C_if F false rfl rfl ?_
      refine C_seqK (fun K62 hK62 => ?_)
      refine C_region ?_
      refine T_val F H kr (.bool false) (fun w _ => R_bin (x := (.tmp 36)) (y := (.const (.int .i64 2))) rfl (k := .i64) (a := op.do_) (b := 2) kr kr (i_eqI.trans (by rw [decide_eq_false (by omega)])) w) ?_
      clear F; intro a F
      refine T_k F H (.bool false) ?_
      clear F; intro a F
      refine wpList_nil ?_
      refine hK62 _ _ ?_
      clear hK62
      try clear K62
      refine C_if F false rfl rfl ?_
      refine C_seqK (fun K63 hK63 => ?_)
      refine C_region ?_
      refine T_val F H kr (.bool true) (fun w _ => R_bin (x := (.tmp 36)) (y := (.const (.int .i64 3))) rfl (k := .i64) (a := op.do_) (b := 3) kr kr (i_eqI.trans (by rw [decide_eq_true (by omega)])) w) ?_
      clear F; intro a F
      refine T_k F H (.bool true) ?_
      clear F; intro a F
      refine wpList_nil ?_
      refine hK63 _ _ ?_
      clear hK63
      try clear K63
      refine C_if F true rfl rfl ?_
      refine C_region ?_
      refine T_k F H (pt xb 0) ?_
      clear F; intro a F
      refine T_k F H (pt aq56 1) ?_
      clear F; intro a F
      refine T_val F H kr (nw op.ix) (R_cell (own := true) (g := aq56) (all := op.arr) (t := 50) (fr := (0, 0)) 0 kr 29 (.tmp 57) rfl 1 kr (nw op.ix) kr _ Try.underlying29 rfl) ?_
      clear F; intro a F
      replace H : Hp [] w (s.blks xb ++ ((bk aq56 op.arr 50) :: [])) v := H.perm List.perm_middle.symm
      refine T_callX (α := BxS) F H kr 18 #[pt xb 0, nw op.ix] (fun rX => ni (s.D.length - (gotD op.ix s.D).length)) (fun rX => rX.blks xb ++ ((bk aq56 op.arr 50) :: [])) (fun rX => rX.ok ∧ rX.D = gotD op.ix s.D) (fun w => kr) (fun w H => (got_S hs H op.ix).mono fun _ _ ⟨s', q1, q2, q3, q4⟩ => ⟨s', q1, ⟨q2, q3⟩, q4⟩) ?_
      clear F H; intro s64 a v Qs64 F H
      refine wpList_nil ?_
      refine hK54 _ _ ?_
      clear hK54
      try clear K54
      refine C_region ?_
      refine T_k F H (ni k) ?_
      clear F; intro a F
      refine T_val F H kr (ni (k + 1)) (fun w _ => R_bin (x := (.tmp 25)) (y := (.const (.int .i64 1))) rfl (k := .i64) (a := ((k : Nat) : Int)) (b := ((1 : Nat) : Int)) kr kr (i_addn64 (a := k) (b := 1) (by omega)) w) ?_
      clear F; intro a F
      refine T_k F H (ni (k + 1)) ?_
      clear F; intro a F
      refine wpList_nil ?_
      replace F : Fm 109 [] [(5, ni (k + 1)), (0, sc ga oa ops.length c), (3, .bool true), (4, pt xb 0)] a := F.weak _ (subL_of kr)
      exact ⟨m, Nat.lt_succ_self m, k + 1, s64, by omega, ⟨Qs64.1, by rw [Qs64.2]; exact hB.got _⟩, F, s_weak H⟩
    · skip
      refine C_seqK (fun K65 hK65 => ?_)
      refine C_seqK (fun K66 hK66 => ?_)
      refine C_region ?_
      refine T_k F H (ni k) ?_
      clear F; intro a F
      refine T_k F H (sc ga oa ops.length c) ?_
      clear F; intro a F
      refine T_k F H (ni ops.length) ?_
      clear F; intro a F
      refine T_val F H kr (.bool true) (fun w _ => R_bin (x := (.tmp 21)) (y := (.tmp 23)) rfl (k := .i64) (a := ((k : Nat) : Int)) (b := ((ops.length : Nat) : Int)) kr kr (i_lt (by omega)) w) ?_
      clear F; intro a F
      refine wpList_nil ?_
      refine hK66 _ _ ?_
      clear hK66
      try clear K66
      refine C_if F true rfl rfl ?_
      refine wp_skip ?_
      refine hK65 _ _ ?_
      clear hK65
      try clear K65
      refine C_seqK (fun K67 hK67 => ?_)
      refine wp_block ?_
      refine C_seqK (fun K68 hK68 => ?_)
      refine C_region ?_
      refine T_k F H (sc ga oa ops.length c) ?_
      clear F; intro a F
      refine T_k F H (ni k) ?_
      clear F; intro a F
      refine T_val F H kr (pt ga (oa + (k) * 5)) (fun w _ => R_indexS (k := .i64) (g := ga) (off := oa) (len := ops.length) (cap := c) (x := (.tmp 27)) (y := (.tmp 28)) rfl Try.underlying43 kr (k) kr (by omega) (sz := 5) kr w) ?_
      clear F; intro a F
      refine T_valK F H kr (.agg op.arr) (fun w hk hl => R_ldA (y := (.tmp 29)) rfl (g := ga) (off := oa + k * 5) kr op.arr (op_load (hr.kept hk List.not_mem_nil) hop) _ Try.underlying50 rfl kr) ?_
      clear F; intro a F
      refine T_new F H kr (fun ad => pt ad 0) (ce #[.int .i64 0, .int .u32 0, .int .u64 0, .slice none 0 0, .slice none 0 0] 50) (fun w => kr) ?_
      clear F H; intro aq69 a v F H
      refine T_set F H kr rfl 0 rfl op.arr (S_row 0 rfl 50 (.tmp 6) (.tmp 30) rfl kr op.arr kr kr kr (op_ones hlv)) ((bk aq69 op.arr 50) :: (s.blks xb ++ [])) rfl ?_
      clear F H; intro a v F H
      refine wpList_nil ?_
      refine hK68 _ _ ?_
      clear hK68
      try clear K68
      refine C_seqK (fun K70 hK70 => ?_)
      refine C_seqK (fun K71 hK71 => ?_)
      refine C_region ?_
      refine T_k F H (pt aq69 2) ?_
      clear F; intro a F
      refine T_val F H kr (nu op.now) (R_cell (own := true) (g := aq69) (all := op.arr) (t := 50) (fr := (0, 0)) 0 kr 48 (.tmp 31) rfl 2 kr (nu op.now) kr _ Try.underlying48 rfl) ?_
      clear F; intro a F
      refine T_val F H kr (.bool false) (fun w _ => R_bin (x := (.tmp 32)) (y := (.const (.int .u64 1099511627776))) rfl (k := .u64) (a := ((op.now : Nat) : Int)) (b := ((1099511627776 : Nat) : Int)) kr kr (i_geqd.trans (by rw [decide_eq_false (by omega)])) w) ?_
      clear F; intro a F
      refine wpList_nil ?_
      refine hK71 _ _ ?_
      clear hK71
      try clear K71
      refine C_if F false rfl rfl ?_
      refine wp_skip ?_
      refine hK70 _ _ ?_
      clear hK70
      try clear K70
      refine C_seqK (fun K72 hK72 => ?_)
      refine C_region ?_
      refine T_k F H (pt aq69 0) ?_
      clear F; intro a F
      refine T_val F H kr (.int .i64 op.do_) (R_cell (own := true) (g := aq69) (all := op.arr) (t := 50) (fr := (0, 0)) 0 kr 3 (.tmp 35) rfl 0 kr (.int .i64 op.do_) kr _ Try.underlying3 rfl) ?_
      clear F; intro a F
      refine wpList_nil ?_
      refine hK72 _ _ ?_
      clear hK72
      try clear K72
      refine wp_block ?_
      refine C_seqK (fun K73 hK73 => ?_)
      refine C_seqK (fun K74 hK74 => ?_)
      refine C_region ?_
      refine T_val F H kr (.bool false) (fun w _ => R_bin (x := (.tmp 36)) (y := (.const (.int .i64 1))) rfl (k := .i64) (a := op.do_) (b := 1) kr kr (i_eqI.trans (by rw [decide_eq_false (by omega)])) w) ?_
      clear F; intro a F
      refine T_k F H (.bool false) ?_
      clear F; intro a F
      refine wpList_nil ?_
      refine hK74 _ _ ?_
      clear hK74
      try clear K74
      refine C_if F false rfl rfl ?_
      refine C_region ?_
      refine T_val F H kr (.bool false) (fun w _ => R_bin (x := (.tmp 36)) (y := (.const (.int .i64 5))) rfl (k := .i64) (a := op.do_) (b := 5) kr kr (i_eqI.trans (by rw [decide_eq_false (by omega)])) w) ?_
      clear F; intro a F
      refine T_k F H (.bool false) ?_
      clear F; intro a F
      refine wpList_nil ?_
      refine hK73 _ _ ?_
      clear hK73
      try clear K73
      refine C_if F false rfl rfl ?_
      refine C_seqK (fun K75 hK75 => ?_)
      refine C_region ?_
      refine T_val F H kr (.bool false) (fun w _ => R_bin (x := (.tmp 36)) (y := (.const (.int .i64 2))) rfl (k := .i64) (a := op.do_) (b := 2) kr kr (i_eqI.trans (by rw [decide_eq_false (by omega)])) w) ?_
      clear F; intro a F
      refine T_k F H (.bool false) ?_
      clear F; intro a F
      refine wpList_nil ?_
      refine hK75 _ _ ?_
      clear hK75
      try clear K75
      refine C_if F false rfl rfl ?_
      refine C_seqK (fun K76 hK76 => ?_)
      refine C_region ?_
      refine T_val F H kr (.bool false) (fun w _ => R_bin (x := (.tmp 36)) (y := (.const (.int .i64 3))) rfl (k := .i64) (a := op.do_) (b := 3) kr kr (i_eqI.trans (by rw [decide_eq_false (by omega)])) w) ?_
      clear F; intro a F
      refine T_k F H (.bool false) ?_
      clear F; intro a F
      refine wpList_nil ?_
      refine hK76 _ _ ?_
      clear hK76
      try clear K76
      refine C_if F false rfl rfl ?_
      refine wp_skip ?_
      refine hK67 _ _ ?_
      clear hK67
      try clear K67
      refine C_region ?_
      refine T_k F H (ni k) ?_
      clear F; intro a F
      refine T_val F H kr (ni (k + 1)) (fun w _ => R_bin (x := (.tmp 25)) (y := (.const (.int .i64 1))) rfl (k := .i64) (a := ((k : Nat) : Int)) (b := ((1 : Nat) : Int)) kr kr (i_addn64 (a := k) (b := 1) (by omega)) w) ?_
      clear F; intro a F
      refine T_k F H (ni (k + 1)) ?_
      clear F; intro a F
      refine wpList_nil ?_
      replace H : Hp [] w (s.blks xb ++ []) v := Hp.pickT (A := [bk aq69 op.arr 50]) (R := (s.blks xb ++ [])) H [] kr _ rfl
      replace F : Fm 109 [] [(5, ni (k + 1)), (0, sc ga oa ops.length c), (3, .bool true), (4, pt xb 0)] a := F.weak _ (subL_of kr)
      exact ⟨m, Nat.lt_succ_self m, k + 1, s, by omega, ⟨hs, hB⟩, F, H⟩
  refine C_seqK (fun K77 hK77 => ?_)
  refine C_seqK (fun K78 hK78 => ?_)
  refine C_region ?_
  refine T_k F H (ni k) ?_
  clear F; intro a F
  refine T_k F H (.slice la ops.length c) ?_
  clear F; intro a F
  refine T_k F H (ni ops.length) ?_
  clear F; intro a F
  refine T_val F H kr (.bool false) (fun w _ => R_bin (x := (.tmp 21)) (y := (.tmp 23)) rfl (k := .i64) (a := ((k : Nat) : Int)) (b := ((ops.length : Nat) : Int)) kr kr (i_nlt (by omega)) w) ?_
  clear F; intro a F
  refine wpList_nil ?_
  refine hK78 _ _ ?_
  clear hK78
  try clear K78
  refine C_if F false rfl rfl ?_
  refine wp_exit ?_
  refine hK8 _ _ ?_
  clear hK8
  try clear K8
  refine C_seqK (fun K79 hK79 => ?_)
  refine C_region ?_
  refine T_k F H (nu 2199023255552) ?_
  clear F; intro a F
  refine wpList_nil ?_
  refine hK79 _ _ ?_
  clear hK79
  try clear K79
  refine C_seqK (fun K80 hK80 => ?_)
  refine C_region ?_
  refine T_k F H (pt xb 0) ?_
  clear F; intro a F
  refine T_call F H kr 19 #[pt xb 0] (ni s.D.length) (fun w => kr) (len_S H hs) ?_
  clear F H; intro a v F H
  refine T_k F H (ni s.D.length) ?_
  clear F; intro a F
  refine wpList_nil ?_
  refine hK80 _ _ ?_
  clear hK80
  try clear K80
  refine C_seqK (fun K81 hK81 => ?_)
  refine C_region ?_
  refine T_k F H (pt xb 0) ?_
  clear F; intro a F
  refine T_k F H (nu 2199023255552) ?_
  clear F; intro a F
  refine T_callX (α := BxS × Ls) F H kr 17 #[pt xb 0, nu 2199023255552] (fun rX => rX.2.v) (fun rX => rX.1.blks xb ++ (rX.2.blks ++ [])) (fun rX => rX.1.ok ∧ rX.2.ok ∧ rX.1.D = s.D.map (dueDU (2199023255552)) ∧ rX.2.ls = dueL (2199023255552) s.D ∧ rX.2.cs.length ≤ 4) (fun w => kr) (fun w H => due_S hs H (2199023255552) (by omega)) ?_
  clear F H; intro s82 a v Qs82 F H
  obtain ⟨s82, os82⟩ := s82
  dsimp only at Qs82
  obtain ⟨hs82, hos82, hds82, hls82, hcs82⟩ := Qs82
  replace F : Fm 109 [] [(64, (os82.v)), (63, nu 2199023255552), (62, pt xb 0), (8, ni s.D.length), (61, ni s.D.length), (60, pt xb 0), (7, nu 2199023255552), (24, .bool false), (23, ni ops.length), (22, .slice la ops.length c), (21, ni k), (5, ni k), (0, .slice la ops.length c), (3, .bool true), (4, pt xb 0)] a := F.weak _ (subL_of kr)
  replace H : Hp [] w (s82.blks xb ++ (os82.blks ++ [])) v := H
  refine T_k F H ((os82.v)) ?_
  clear F; intro a F
  refine wpList_nil ?_
  refine hK81 _ _ ?_
  clear hK81
  try clear K81
  refine C_seqK (fun K83 hK83 => ?_)
  refine C_region ?_
  refine T_k F H (pt xb 0) ?_
  clear F; intro a F
  refine T_k F H (nu 2199023255552) ?_
  clear F; intro a F
  refine T_k F H (nu 2199023255556) ?_
  clear F; intro a F
  refine T_callX (α := BxS × Ls) F H kr 17 #[pt xb 0, nu 2199023255556] (fun rX => rX.2.v) (fun rX => rX.1.blks xb ++ (rX.2.blks ++ (os82.blks ++ []))) (fun rX => rX.1.ok ∧ rX.2.ok ∧ rX.1.D = s82.D.map (dueDU (2199023255556)) ∧ rX.2.ls = dueL (2199023255556) s82.D ∧ rX.2.cs.length ≤ 4) (fun w => kr) (fun w H => due_S hs82 H (2199023255556) (by omega)) ?_
  clear F H; intro s84 a v Qs84 F H
  obtain ⟨s84, os84⟩ := s84
  dsimp only at Qs84
  obtain ⟨hs84, hos84, hds84, hls84, hcs84⟩ := Qs84
  replace F : Fm 109 [] [(68, (os84.v)), (67, nu 2199023255556), (66, nu 2199023255552), (65, pt xb 0), (9, (os82.v)), (64, (os82.v)), (63, nu 2199023255552), (62, pt xb 0), (8, ni s.D.length), (61, ni s.D.length), (60, pt xb 0), (7, nu 2199023255552), (24, .bool false), (23, ni ops.length), (22, .slice la ops.length c), (21, ni k), (5, ni k), (0, .slice la ops.length c), (3, .bool true), (4, pt xb 0)] a := F.weak _ (subL_of kr)
  replace H : Hp [] w (s84.blks xb ++ (os84.blks ++ (os82.blks ++ []))) v := H
  refine T_k F H ((os84.v)) ?_
  clear F; intro a F
  refine wpList_nil ?_
  refine hK83 _ _ ?_
  clear hK83
  try clear K83
  refine C_seqK (fun K85 hK85 => ?_)
  refine C_region ?_
  refine T_k F H (pt xb 0) ?_
  clear F; intro a F
  refine T_k F H (nu 2199023255552) ?_
  clear F; intro a F
  refine T_k F H (nu 2199023255557) ?_
  clear F; intro a F
  refine T_callX (α := BxS × Ls) F H kr 17 #[pt xb 0, nu 2199023255557] (fun rX => rX.2.v) (fun rX => rX.1.blks xb ++ (rX.2.blks ++ (os84.blks ++ (os82.blks ++ [])))) (fun rX => rX.1.ok ∧ rX.2.ok ∧ rX.1.D = s84.D.map (dueDU (2199023255557)) ∧ rX.2.ls = dueL (2199023255557) s84.D ∧ rX.2.cs.length ≤ 4) (fun w => kr) (fun w H => due_S hs84 H (2199023255557) (by omega)) ?_
  clear F H; intro s86 a v Qs86 F H
  obtain ⟨s86, os86⟩ := s86
  dsimp only at Qs86
  obtain ⟨hs86, hos86, hds86, hls86, hcs86⟩ := Qs86
  replace F : Fm 109 [] [(72, (os86.v)), (71, nu 2199023255557), (70, nu 2199023255552), (69, pt xb 0), (10, (os84.v)), (68, (os84.v)), (67, nu 2199023255556), (66, nu 2199023255552), (65, pt xb 0), (9, (os82.v)), (64, (os82.v)), (63, nu 2199023255552), (62, pt xb 0), (8, ni s.D.length), (61, ni s.D.length), (60, pt xb 0), (7, nu 2199023255552), (24, .bool false), (23, ni ops.length), (22, .slice la ops.length c), (21, ni k), (5, ni k), (0, .slice la ops.length c), (3, .bool true), (4, pt xb 0)] a := F.weak _ (subL_of kr)
  replace H : Hp [] w (s86.blks xb ++ (os86.blks ++ (os84.blks ++ (os82.blks ++ [])))) v := H
  refine T_k F H ((os86.v)) ?_
  clear F; intro a F
  refine wpList_nil ?_
  refine hK85 _ _ ?_
  clear hK85
  try clear K85
  refine C_seqK (fun K87 hK87 => ?_)
  refine C_region ?_
  refine T_k F H (pt xb 0) ?_
  clear F; intro a F
  refine T_callX (α := BxS) F H kr 18 #[pt xb 0, nw 4294967295] (fun rX => ni (s86.D.length - (gotD 4294967295 s86.D).length)) (fun rX => rX.blks xb ++ (os86.blks ++ (os84.blks ++ (os82.blks ++ [])))) (fun rX => rX.ok ∧ rX.D = gotD 4294967295 s86.D) (fun w => kr) (fun w H => (got_S hs86 H 4294967295).mono fun _ _ ⟨s', q1, q2, q3, q4⟩ => ⟨s', q1, ⟨q2, q3⟩, q4⟩) ?_
  clear F H; intro s88 a v Qs88 F H
  refine T_k F H (ni (s86.D.length - (gotD 4294967295 s86.D).length)) ?_
  clear F; intro a F
  refine wpList_nil ?_
  refine hK87 _ _ ?_
  clear hK87
  try clear K87
  refine C_seqK (fun K89 hK89 => ?_)
  refine C_region ?_
  refine T_k F H (pt xb 0) ?_
  clear F; intro a F
  refine T_call F H kr 19 #[pt xb 0] (ni s88.D.length) (fun w => kr) (len_S H Qs88.1) ?_
  clear F H; intro a v F H
  refine T_k F H (ni s88.D.length) ?_
  clear F; intro a F
  refine wpList_nil ?_
  refine hK89 _ _ ?_
  clear hK89
  try clear K89
  refine C_seqK (fun K90 hK90 => ?_)
  have hle : ∀ d ∈ s.D, d.2.1 ≤ 2199023255552 := fun d hd => by have := hB d hd; omega
  have hix1 : ∀ d ∈ s.D, d.1 ≤ 4294967295 := fun d hd => by have := hB d hd; omega
  have a1 : os82.ls = s.D.map (·.2.2) := hls82.trans (due_all hle)
  have a2 : ∀ d ∈ s82.D, d.2.1 = 2199023255557 := by rw [hds82]; exact due_at hle
  have a3 := due_none (D := s82.D) (now := 2199023255556) (fun d hd => by rw [a2 d hd]; omega)
  have b1 : os84.ls = [] := hls84.trans a3.1
  have b2 : s84.D = s82.D := hds84.trans a3.2
  have c1 : os86.ls = s.D.map (·.2.2) := by rw [hls86, b2, due_all (fun d hd => by rw [a2 d hd]; omega), hds82, due_ls]
  have d1 : gotD 4294967295 s86.D = [] := got_all hix1 (by rw [hds86, due_ix, b2, hds82, due_ix])
  have d2 : s86.D.length = s.D.length := by rw [hds86, List.length_map, b2, hds82, List.length_map]
  have l1 : os82.cs.length = s.D.length := by have := congrArg List.length a1; unfold Ls.ls at this; simpa using this
  have l2 : os84.cs.length = 0 := by have := congrArg List.length b1; unfold Ls.ls at this; simpa using this
  have l3 : os86.cs.length = s.D.length := by have := congrArg List.length c1; unfold Ls.ls at this; simpa using this
  have g1 : s86.D.length - (gotD 4294967295 s86.D).length = s.D.length := by rw [d1, d2]; rfl
  have z1 : s88.D.length = 0 := by rw [Qs88.2, d1]; rfl
  refine C_region ?_
  refine T_k F H (.bool true) ?_
  clear F; intro a F
  refine T_k F H (.bool true) ?_
  clear F; intro a F
  refine T_k F H ((os82.v)) ?_
  clear F; intro a F
  refine T_val F H kr (ni os82.cs.length) (fun stepw _ => R_lenLs (x := (.tmp 79)) rfl Try.underlying26 os82 hos82 kr) ?_
  clear F; intro a F
  refine T_k F H (ni s.D.length) ?_
  clear F; intro a F
  refine T_val F H kr (.bool true) (fun w _ => R_bin (x := (.tmp 80)) (y := (.tmp 81)) rfl (k := .i64) (a := ((os82.cs.length : Nat) : Int)) (b := ((s.D.length : Nat) : Int)) kr kr (i_eqd.trans (by rw [decide_eq_true l1])) w) ?_
  clear F; intro a F
  refine T_k F H (.bool true) ?_
  clear F; intro a F
  refine T_k F H (.bool true) ?_
  clear F; intro a F
  refine T_k F H ((os84.v)) ?_
  clear F; intro a F
  refine T_val F H kr (ni os84.cs.length) (fun stepw _ => R_lenLs (x := (.tmp 85)) rfl Try.underlying26 os84 hos84 kr) ?_
  clear F; intro a F
  refine T_val F H kr (.bool true) (fun w _ => R_bin (x := (.tmp 86)) (y := (.const (.int .i64 0))) rfl (k := .i64) (a := ((os84.cs.length : Nat) : Int)) (b := ((0 : Nat) : Int)) kr kr (i_eqd.trans (by rw [decide_eq_true l2])) w) ?_
  clear F; intro a F
  refine T_k F H (.bool true) ?_
  clear F; intro a F
  refine T_k F H (.bool true) ?_
  clear F; intro a F
  refine T_k F H ((os86.v)) ?_
  clear F; intro a F
  refine T_val F H kr (ni os86.cs.length) (fun stepw _ => R_lenLs (x := (.tmp 90)) rfl Try.underlying26 os86 hos86 kr) ?_
  clear F; intro a F
  refine T_k F H (ni s.D.length) ?_
  clear F; intro a F
  refine T_val F H kr (.bool true) (fun w _ => R_bin (x := (.tmp 91)) (y := (.tmp 92)) rfl (k := .i64) (a := ((os86.cs.length : Nat) : Int)) (b := ((s.D.length : Nat) : Int)) kr kr (i_eqd.trans (by rw [decide_eq_true l3])) w) ?_
  clear F; intro a F
  refine T_k F H (.bool true) ?_
  clear F; intro a F
  refine T_k F H (.bool true) ?_
  clear F; intro a F
  refine T_k F H ((os82.v)) ?_
  clear F; intro a F
  refine T_k F H ((os86.v)) ?_
  clear F; intro a F
  refine T_call F H kr 14 #[(os82.v), (os86.v)] (.bool true) (fun w => kr) (lists_true os82.lv os86.lv (Ls.lv_v hos82) (Ls.lv_v hos86) (Ls.rd hos82 (fun p hp => H.held p (by simp only [List.mem_append, List.mem_cons, hp, true_or, or_true])) (by omega)) (Ls.rd hos86 (fun p hp => H.held p (by simp only [List.mem_append, List.mem_cons, hp, true_or, or_true])) (by omega)) (by rw [Ls.lv_ls, Ls.lv_ls, a1, c1])) ?_
  clear F H; intro a v F H
  refine T_k F H (.bool true) ?_
  clear F; intro a F
  refine T_k F H (.bool true) ?_
  clear F; intro a F
  refine T_k F H (ni (s86.D.length - (gotD 4294967295 s86.D).length)) ?_
  clear F; intro a F
  refine T_k F H (ni s.D.length) ?_
  clear F; intro a F
  refine T_val F H kr (.bool true) (fun w _ => R_bin (x := (.tmp 101)) (y := (.tmp 102)) rfl (k := .i64) (a := (((s86.D.length - (gotD 4294967295 s86.D).length) : Nat) : Int)) (b := ((s.D.length : Nat) : Int)) kr kr (i_eqd.trans (by rw [decide_eq_true g1])) w) ?_
  clear F; intro a F
  refine T_k F H (.bool true) ?_
  clear F; intro a F
  refine T_k F H (.bool true) ?_
  clear F; intro a F
  refine T_k F H (ni s88.D.length) ?_
  clear F; intro a F
  refine T_val F H kr (.bool true) (fun w _ => R_bin (x := (.tmp 106)) (y := (.const (.int .i64 0))) rfl (k := .i64) (a := ((s88.D.length : Nat) : Int)) (b := ((0 : Nat) : Int)) kr kr (i_eqd.trans (by rw [decide_eq_true z1])) w) ?_
  clear F; intro a F
  refine T_k F H (.bool true) ?_
  clear F; intro a F
  refine T_k F H (.bool true) ?_
  clear F; intro a F
  refine wpList_nil ?_
  refine hK90 _ _ ?_
  clear hK90
  try clear K90
  refine wp_ret ?_
  exact C_ret F H (rs := [.tmp 2]) rfl (vs := [.bool true]) (.tmp rfl .nil) (.bool true) rfl ⟨rfl, H.kept⟩
end Go.Proofs.Ytlnlppmhiobgjaa
