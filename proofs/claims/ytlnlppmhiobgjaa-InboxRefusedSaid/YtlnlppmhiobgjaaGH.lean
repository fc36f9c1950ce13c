/- Walks: IndexFunc, DeleteFunc over entries. -/
import Derived.Test.YtlnlppmhiobgjaaGG
set_option linter.unusedVariables false
set_option linter.unusedSimpArgs false
namespace Go.Proofs.Ytlnlppmhiobgjaa
open Go Go.RowKit
theorem slice0 {g off h cap sz : Nat} : (Value.slice (if cap = 0 then some ⟨g, off, none⟩ else (some (⟨g, off, none⟩ : Addr)).map (·.add (0 * sz))) (h - 0) (cap - 0)) = .slice (some ⟨g, off, none⟩) h cap := by
  have e : (⟨g, off, none⟩ : Addr).add (0 * sz) = ⟨g, off, none⟩ := by rw [Nat.zero_mul]; unfold Addr.add; split <;> simp_all
  by_cases h : cap = 0
  · rw [if_pos h]; subst h; rfl
  · rw [if_neg h, Option.map_some, e]; rfl

theorem sliceAtN {g off h cap l sz : Nat} (hl : l < cap) : (Value.slice (if cap = l then some ⟨g, off, none⟩ else (some (⟨g, off, none⟩ : Addr)).map (·.add (l * sz))) (h - l) (cap - l)) = .slice (some ⟨g, off + l * sz, none⟩) (h - l) (cap - l) := by
  have e : (⟨g, off, none⟩ : Addr).add (l * sz) = ⟨g, off + l * sz, none⟩ := by unfold Addr.add; split <;> simp_all
  rw [if_neg (by omega), Option.map_some, e]
theorem i_negeq {k : IntKind} {a : Nat} : intRes .eql k ((a : Nat) : Int) (-1) = some (.bool false) := by
  unfold intRes
  refine congrArg (fun q => some (Value.bool q)) (decide_eq_false (by omega))
theorem spl_sl : ∀ (vs cs rest : List Value) (o : Nat), o + vs.length ≤ cs.length → spl (sl cs rest) o vs = sl (cs.take o ++ vs ++ cs.drop (o + vs.length)) rest
  | [], cs, rest, o, _ => by rw [spl, List.append_nil, List.length_nil, Nat.add_zero, List.take_append_drop]
  | v :: vs, cs, rest, o, h => by
    rw [List.length_cons] at h
    rw [spl, sl_set (by omega), spl_sl vs _ _ _ (by rw [List.length_set]; omega), List.length_cons, List.drop_set_of_lt (by omega), List.take_add_one, List.take_set_of_le (Nat.le_refl _), List.getElem?_set_self (by omega)]
    simp only [Option.toList_some, List.append_assoc, List.singleton_append]
    rw [show o + 1 + vs.length = o + (vs.length + 1) by omega]
theorem entC_take : ∀ (E : List Ent) (i : Nat), (entC E).take (i * 3) = entC (E.take i)
  | [], i => by simp [entC]
  | e :: E, 0 => by simp [entC]
  | e :: E, i + 1 => by
    rw [entC_cons, List.take_succ_cons, entC_cons, Nat.add_mul, Nat.add_comm, ← entC_take E i]
    exact List.take_length_add_append (l₁ := e.cells) (i * 3)
theorem entC_drop : ∀ (E : List Ent) (i : Nat), (entC E).drop (i * 3) = entC (E.drop i)
  | [], i => by simp [entC]
  | e :: E, 0 => by simp
  | e :: E, i + 1 => by
    rw [entC_cons, List.drop_succ_cons, Nat.add_mul, Nat.add_comm, ← entC_drop E i]
    exact List.drop_length_add_append (l₁ := e.cells) (i * 3)
theorem set_eq_td {α : Type} : ∀ {l : List α} {i : Nat} (e : α), i < l.length → l.set i e = l.take i ++ [e] ++ l.drop (i + 1)
  | a :: l, 0, e, _ => rfl
  | a :: l, i + 1, e, h => by
    rw [List.set_cons_succ, set_eq_td e (by simpa using h), List.take_succ_cons, List.drop_succ_cons]; rfl
theorem ent_store {F : List Ent} {i : Nat} (e : Ent) {rest : List Value} (h : i < F.length) : spl (sl (entC F) rest) (0 + i * 3) e.cells = sl (entC (F.set i e)) rest := by
  have hl : e.cells.length = 3 := rfl
  rw [Nat.zero_add, spl_sl _ _ _ _ (by rw [entC_len, hl]; omega), hl, show i * 3 + 3 = (i + 1) * 3 by omega, entC_take, entC_drop, set_eq_td e h, entC_app, entC_app]
  congr 3
def e00 : Ent := ⟨0, 0, ⟨true, 0, 0, [], []⟩⟩
theorem zero_ents (n : Nat) : (Builtin.zeroCells #[.int .u32 0, .int .u64 0, .slice none 0 0] n).toList = entC (List.replicate n e00) := by
  refine List.ext_getElem? fun q => ?_
  rcases Nat.lt_or_ge q (n * 3) with h | h
  · have h1 : (List.replicate n e00)[q / 3]? = some e00 := by rw [List.getElem?_replicate]; exact if_pos (by omega)
    have h2 := entC_at (j := q % 3) h1 (Nat.mod_lt _ (by decide))
    rw [show q / 3 * 3 + q % 3 = q by omega] at h2
    rw [h2]
    unfold Builtin.zeroCells
    rw [Array.toList_map, List.getElem?_map, Array.getElem?_toList, Array.getElem?_range, if_pos (by simpa using h)]
    simp only [Option.map_some]
    have h3 : q % 3 < 3 := Nat.mod_lt _ (by decide)
    show some ((#[Value.int .u32 0, .int .u64 0, .slice none 0 0] : Array Value)[q % 3]!) = _
    generalize q % 3 = r at h3
    rcases (by omega : r = 0 ∨ r = 1 ∨ r = 2) with rfl | rfl | rfl <;> rfl
  · rw [List.getElem?_eq_none (by rw [Array.length_toList, size_zeroCells]; exact h), List.getElem?_eq_none (by rw [entC_len, List.length_replicate]; exact h)]
theorem ent_load {E : List Ent} {k : Nat} {e : Ent} {rest : List Value} (h : E[k]? = some e) : ∀ j v, (#[.int .u32 ((e.ix : Nat) : Int), .int .u64 ((e.due : Nat) : Int), e.c.v] : Array Value)[j]? = some v → (sl (entC E) rest)[0 + k * 3 + j]? = some v := fun j v hj => by
  have hj3 : j < 3 := (Array.getElem?_eq_some_iff.1 hj).1
  rw [Nat.zero_add]
  refine sl_get ((entC_at h hj3).trans ?_)
  rw [← hj]
  rcases (by omega : j = 0 ∨ j = 1 ∨ j = 2) with rfl | rfl | rfl <;> rfl
section
variable {P : Program} {ops : Array Oper} {Q : Exit → Act → World → Prop} {rest : List Oper} {o : Oper} {a : Act} {w w0 : World} {n : Nat} {ds : List Deferred} {V : List (Nat × Value)} {X : List Nat} {L : List Blk}
theorem T_stP (F : Fm n ds V a) (H : Hp X w0 L w) (hc0 : opB ops V n o = true) (hd : o.dst = none) (k : Nat) {g : Nat} {ob : Obj} (hl : L[k]? = some ⟨true, g, ob⟩) (ob' : Obj)
    (hr : ∀ w, HeldL L w → w.heap[g]? = some ob → ∃ w', (execOp (evV V) o).run P w = .ok .skip w' ∧ Kept [g] w w' ∧ w'.heap[g]? = some ob') (L' : List Blk) (hL : L.set k ⟨true, g, ob'⟩ = L')
    (h : ∀ a w, Fm n ds V a → Hp X w0 L' w → wpList P ops Q rest a w) : wpList P ops Q (o :: rest) a w := by
  obtain ⟨hg, hk, hd0⟩ := opB_spec hc0
  refine T_core F hg hk fun K hK => ?_
  obtain ⟨w', h1, h2, h3⟩ := hr w ⟨H.held⟩ (H.at_ hl)
  rw [h1, Oper.upon_skip, hd]
  exact hK _ _ (h _ _ F (hL ▸ H.put hl h2 h3))
theorem T_vlP (F : Fm n ds V a) (H : Hp X w0 L w) (hc0 : opB ops V n o = true) (v : Value) (k : Nat) {g : Nat} {ob : Obj} (hl : L[k]? = some ⟨true, g, ob⟩) (ob' : Obj)
    (hr : ∀ w, HeldL L w → w.heap[g]? = some ob → ∃ w', (execOp (evV V) o).run P w = .ok (.value v) w' ∧ Kept [g] w w' ∧ w'.heap[g]? = some ob') (L' : List Blk) (hL : L.set k ⟨true, g, ob'⟩ = L')
    (h : ∀ a w, Fm n ds (upV V o.dst v) a → Hp X w0 L' w → wpList P ops Q rest a w) : wpList P ops Q (o :: rest) a w := by
  obtain ⟨hg, hk, hd0⟩ := opB_spec hc0
  refine T_core F hg hk fun K hK => ?_
  obtain ⟨w', h1, h2, h3⟩ := hr w ⟨H.held⟩ (H.at_ hl)
  rw [h1, Oper.upon_value]
  exact hK _ _ (h _ _ (F.put _ _ hd0) (hL ▸ H.put hl h2 h3))
theorem R_clear {t e : TypeId} {x : Operand} (ho : o.op = .call { callee := .builtin .clear, args := #[x], argTypes := #[t] }) (ht : P.underlying t = some (.slice e)) (z : Value) (hv : ∀ w, (zeroValue e).run P w = .ok z w) {g off m c : Nat} (hx : evV V x = .slice (some ⟨g, off, none⟩) m c) (hm : 0 < m) {old : Array Value} {ty : TypeId} (cs : List Value) (hcs : (Builtin.zeroCells z.cells m).toList = cs) (h1 : ∀ u ∈ cs, u.oneCell' = true) (hlen : off + cs.length ≤ old.size) {R : Obj} (hR : R = .cells (spl old off cs) ty (0, 0)) (hg : w.heap[g]? = some (.cells old ty (0, 0))) :
    ∃ w', (execOp (evV V) o).run P w = .ok (.value (.tuple #[])) w' ∧ Kept [g] w w' ∧ w'.heap[g]? = some R := by
  subst hR
  obtain ⟨k, h⟩ := kept_store g ty cs old off w hg hlen
  refine ⟨w.setCells g off cs, ?_, k, h⟩
  have hst := run_storeCells_cells (P := P) g off cs 0 w (fun j hj => by
    rw [cell_of_row w g _ old ty (0, 0) hg, Array.getElem?_eq_getElem (by simp; omega)]; rfl) (fun j hj => frozen_of_row w g _ old ty hg) h1
  simp only [Nat.add_zero] at hst
  obtain ⟨q, rfl⟩ : ∃ q, m = q + 1 := ⟨m - 1, by omega⟩
  have hrun : ∀ ty', (Builtin.clear_ #[t] ty' #[.slice (some ⟨g, off, none⟩) (q + 1) c]).run P w = .ok (.tuple #[]) (w.setCells g off cs) := fun ty' => by
    simp [Builtin.clear_, run_underlying ht, hv, hcs, hst]
  unfold execOp
  simp only [ho, resolve, invoke, builtin, Sem.run_bind, Sem.run_pure, Result.andThen_ok, List.map_toArray, List.map_cons, List.map_nil, hx, hrun]
end

set_option maxRecDepth 100000 in
set_option maxHeartbeats 4000000 in
theorem gotp_any (e : Ent) (nb nn : Nat) (w : World) (hnb : w.heap[nb]? = some (.cells #[.int .u32 ((nn : Nat) : Int)] 29 (0, 0))) : Calls Try.prog 32 #[.agg #[.int .u32 ((e.ix : Nat) : Int), .int .u64 ((e.due : Nat) : Int), e.c.v], .pointer (some ⟨nb, 0, none⟩)] w fun en w' => en = .returned (.bool (decide (e.ix ≤ nn))) ∧ Kept [] w w' := by
  refine C_enter Try.func32 rfl 8 Try.ntmps32 (Nat.le_of_ble_eq_true rfl) (fun a F => ?_)
  have H := Hp.start1 [] hnb
  replace F : Fm 8 [] [(0, .agg #[nw e.ix, nu e.due, e.c.v]), (1, pt nb 0)] a := F.weak _ (subL_of kr)
  refine C_seqK (fun K1 hK1 => ?_)
  refine C_region ?_
  refine T_new F H kr (fun ad => pt ad 0) (ce #[nw e.ix, nu e.due, e.c.v] 71) (fun w => kr) ?_
  clear F H; intro aq2 a v F H
  refine T_k F H (.bool false) ?_
  clear F; intro a F
  refine wpList_nil ?_
  refine hK1 _ _ ?_
  clear hK1
  try clear K1
  refine C_seqK (fun K3 hK3 => ?_)
  refine C_region ?_
  refine T_k F H (pt aq2 0) ?_
  clear F; intro a F
  refine T_val F H kr (nw e.ix) (R_cell (own := true) (g := aq2) (all := #[nw e.ix, nu e.due, e.c.v]) (t := 71) (fr := (0, 0)) 0 kr 29 (.tmp 4) rfl 0 kr (nw e.ix) rfl _ Try.underlying29 rfl) ?_
  clear F; intro a F
  refine T_val F H kr (nw nn) (R_cell (own := false) (g := nb) (all := #[nw nn]) (t := 29) (fr := (0, 0)) 1 kr 29 (.tmp 1) rfl 0 kr (nw nn) kr _ Try.underlying29 rfl) ?_
  clear F; intro a F
  refine T_val F H kr (.bool (decide (e.ix ≤ nn))) (fun w _ => R_bin (x := (.tmp 5)) (y := (.tmp 6)) rfl (k := .u32) (a := ((e.ix : Nat) : Int)) (b := ((nn : Nat) : Int)) kr kr i_leqd w) ?_
  clear F; intro a F
  refine T_k F H (.bool (decide (e.ix ≤ nn))) ?_
  clear F; intro a F
  refine wpList_nil ?_
  refine hK3 _ _ ?_
  clear hK3
  try clear K3
  refine wp_ret ?_
  exact C_ret F H (rs := [.tmp 3]) rfl (vs := [.bool (decide (e.ix ≤ nn))]) (.tmp rfl .nil) (.bool (decide (e.ix ≤ nn))) rfl ⟨rfl, H.kept⟩

set_option maxRecDepth 100000 in
set_option maxHeartbeats 4000000 in
theorem idx_nil (nb : Nat) (w : World) : Calls Try.prog 38 #[.slice none 0 0, .func (.func 32) #[] #[.pointer (some ⟨nb, 0, none⟩)]] w fun en w' => en = .returned (.int .i64 (-1)) ∧ Kept [] w w' := by
  refine C_enter Try.func38 rfl 19 Try.ntmps38 (Nat.le_of_ble_eq_true rfl) (fun a F => ?_)
  have H := Hp.start [] w
  replace F : Fm 19 [] [(0, .slice none 0 0), (1, .func (.func 32) #[] #[pt nb 0])] a := F.weak _ (subL_of kr)
  refine C_seqK (fun K1 hK1 => ?_)
  refine C_region ?_
  refine T_k F H (ni 0) ?_
  clear F; intro a F
  refine wpList_nil ?_
  refine hK1 _ _ ?_
  clear hK1
  try clear K1
  refine C_seqK (fun K2 hK2 => ?_)
  refine C_seqK (fun K3 hK3 => ?_)
  refine C_region ?_
  refine T_k F H (.slice none 0 0) ?_
  clear F; intro a F
  refine T_k F H (ni 0) ?_
  clear F; intro a F
  refine T_k F H (ni 0) ?_
  clear F; intro a F
  refine wpList_nil ?_
  refine hK3 _ _ ?_
  clear hK3
  try clear K3
  replace F : Fm 19 [] [(8, ni 0), (7, ni 0), (0, .slice none 0 0), (1, .func (.func 32) #[] #[pt nb 0])] a := F.weak _ (subL_of kr)
  refine wp_block ?_
  refine C_loop (fun m a v => Fm 19 [] [(8, ni 0), (7, ni 0), (0, .slice none 0 0), (1, .func (.func 32) #[] #[pt nb 0])] a ∧ Hp [] w [] v) 0 ⟨F, H⟩ ?_
  clear F H
  intro m a v ⟨F, H⟩
  refine C_seqK (fun K4 hK4 => ?_)
  refine C_region ?_
  refine T_k F H (.bool false) ?_
  clear F; intro a F
  refine wpList_nil ?_
  refine hK4 _ _ ?_
  clear hK4
  try clear K4
  refine C_seqK (fun K5 hK5 => ?_)
  refine C_if F false rfl rfl ?_
  refine wp_exit ?_
  refine hK2 _ _ ?_
  clear hK2
  try clear K2
  refine C_seqK (fun K6 hK6 => ?_)
  refine C_region ?_
  refine T_k F H (.int .i64 (-1)) ?_
  clear F; intro a F
  refine wpList_nil ?_
  refine hK6 _ _ ?_
  clear hK6
  try clear K6
  refine wp_ret ?_
  exact C_ret F H (rs := [.tmp 4]) rfl (vs := [.int .i64 (-1)]) (.tmp rfl .nil) (.int .i64 (-1)) rfl ⟨rfl, H.kept⟩

set_option maxRecDepth 100000 in
set_option maxHeartbeats 4000000 in
theorem idx_none (ag nb nn cap : Nat) (E : List Ent) (rest : List Value) (hs : E.length < 1000) (hno : ∀ e ∈ E, nn < e.ix) (w : World) (hag : w.heap[ag]? = some (.cells (sl (entC E) rest) 71 (0, 0))) (hnb : w.heap[nb]? = some (.cells #[.int .u32 ((nn : Nat) : Int)] 29 (0, 0))) (hne : ag ≠ nb) : Calls Try.prog 38 #[.slice (some ⟨ag, 0, none⟩) E.length cap, .func (.func 32) #[] #[.pointer (some ⟨nb, 0, none⟩)]] w fun en w' => en = .returned (.int .i64 (-1)) ∧ Kept [] w w' := by
  refine C_enter Try.func38 rfl 19 Try.ntmps38 (Nat.le_of_ble_eq_true rfl) (fun a F => ?_)
  have H := Hp.start22 hag hnb hne
  replace F : Fm 19 [] [(0, sc ag 0 E.length cap), (1, .func (.func 32) #[] #[pt nb 0])] a := F.weak _ (subL_of kr)
  refine C_seqK (fun K1 hK1 => ?_)
  refine C_region ?_
  refine T_k F H (ni 0) ?_
  clear F; intro a F
  refine wpList_nil ?_
  refine hK1 _ _ ?_
  clear hK1
  try clear K1
  refine C_seqK (fun K2 hK2 => ?_)
  refine C_seqK (fun K3 hK3 => ?_)
  refine C_region ?_
  refine T_k F H (sc ag 0 E.length cap) ?_
  clear F; intro a F
  refine T_k F H (ni E.length) ?_
  clear F; intro a F
  refine T_k F H (ni 0) ?_
  clear F; intro a F
  refine wpList_nil ?_
  replace F : Fm 19 [] [(8, ni 0), (7, ni E.length), (0, sc ag 0 E.length cap), (1, .func (.func 32) #[] #[pt nb 0])] a := F.weak _ (subL_of kr)
  refine hK3 _ _ ?_
  clear hK3
  try clear K3
  refine wp_block ?_
  refine C_loop (fun m a v => ∃ k, k + m = E.length ∧ (∀ (i : Nat) (e : Ent), i < k → E[i]? = some e → nn < e.ix) ∧ Fm 19 [] [(8, ni k), (7, ni E.length), (0, sc ag 0 E.length cap), (1, .func (.func 32) #[] #[pt nb 0])] a ∧ Hp [] w [br ag (sl (entC E) rest) 71, br nb #[nw nn] 29] v) (E.length) ⟨0, Nat.zero_add _, (fun i e h => absurd h (Nat.not_lt_zero _)), F, H⟩ ?_
  clear F H
  intro m a v ⟨k, hk, hall, F, H⟩
  rcases m with _ | m
  rotate_left
  · skip
    obtain ⟨e, he⟩ : ∃ e, E[k]? = some e := ⟨_, List.getElem?_eq_getElem (show k < E.length by omega)⟩
    refine C_seqK (fun K4 hK4 => ?_)
    refine C_region ?_
    refine T_val F H kr (.bool true) (fun w _ => R_bin (x := (.tmp 8)) (y := (.tmp 7)) rfl (k := .i64) (a := ((k : Nat) : Int)) (b := ((E.length : Nat) : Int)) kr kr (i_lt (by omega)) w) ?_
    clear F; intro a F
    refine wpList_nil ?_
    refine hK4 _ _ ?_
    clear hK4
    try clear K4
    refine C_seqK (fun K5 hK5 => ?_)
    refine C_if F true rfl rfl ?_
    refine wp_skip ?_
    refine hK5 _ _ ?_
    clear hK5
    try clear K5
    refine C_seqK (fun K6 hK6 => ?_)
    refine wp_block ?_
    refine C_seqK (fun K7 hK7 => ?_)
    refine C_region ?_
    refine T_k F H (ni k) ?_
    clear F; intro a F
    refine T_k F H (ni k) ?_
    clear F; intro a F
    refine wpList_nil ?_
    refine hK7 _ _ ?_
    clear hK7
    try clear K7
    refine C_seqK (fun K8 hK8 => ?_)
    refine C_region ?_
    refine T_k F H (.func (.func 32) #[] #[pt nb 0]) ?_
    clear F; intro a F
    refine T_k F H (sc ag 0 E.length cap) ?_
    clear F; intro a F
    refine T_k F H (ni k) ?_
    clear F; intro a F
    refine T_val F H kr (pt ag (0 + (k) * 3)) (fun w _ => R_indexS (k := .i64) (g := ag) (off := 0) (len := E.length) (cap := cap) (x := (.tmp 12)) (y := (.tmp 13)) rfl Try.underlying45 kr (k) kr (by omega) (sz := 3) kr w) ?_
    clear F; intro a F
    refine T_val F H kr (.agg #[nw e.ix, nu e.due, e.c.v]) (R_load (own := false) (g := ag) (all := (sl (entC E) rest)) (t := 71) (fr := (0, 0)) 0 kr 71 (.tmp 14) rfl (0 + (k) * 3) kr #[nw e.ix, nu e.due, e.c.v] (ent_load he) _ Try.underlying71 rfl kr) ?_
    clear F; intro a F
    refine T_call F H kr 32 #[.agg #[nw e.ix, nu e.due, e.c.v], pt nb 0] (.bool (decide (e.ix ≤ nn))) (fun w => kr) (gotp_any e nb nn _ (H.at_ (k := 1) rfl)) ?_
    clear F H; intro a v F H
    refine wpList_nil ?_
    refine hK8 _ _ ?_
    clear hK8
    try clear K8
    by_cases hc : e.ix ≤ nn
    · rw [decide_eq_true hc] at F
      refine C_if F true rfl rfl ?_
      refine C_seqK (fun K9 hK9 => ?_)
      refine C_region ?_
      refine T_k F H (ni k) ?_
      clear F; intro a F
      refine T_k F H (ni k) ?_
      clear F; intro a F
      refine wpList_nil ?_
      refine hK9 _ _ ?_
      clear hK9
      try clear K9
      exact absurd hc (Nat.not_le.2 (hno e (List.mem_of_getElem? he)))
    rw [decide_eq_false hc] at F
    refine C_if F false rfl rfl ?_
    refine wp_skip ?_
    refine hK6 _ _ ?_
    clear hK6
    try clear K6
    refine C_region ?_
    refine T_val F H kr (ni (k + 1)) (fun w _ => R_bin (x := (.tmp 8)) (y := (.const (.int .i64 1))) rfl (k := .i64) (a := ((k : Nat) : Int)) (b := ((1 : Nat) : Int)) kr kr (i_addn64 (a := k) (b := 1) (by omega)) w) ?_
    clear F; intro a F
    refine T_k F H (ni (k + 1)) ?_
    clear F; intro a F
    refine wpList_nil ?_
    replace F : Fm 19 [] [(8, ni (k + 1)), (7, ni E.length), (0, sc ag 0 E.length cap), (1, .func (.func 32) #[] #[pt nb 0])] a := F.weak _ (subL_of kr)
    replace H : Hp [] w [br ag (sl (entC E) rest) 71, br nb #[nw nn] 29] v := H
    exact ⟨m, Nat.lt_succ_self m, k + 1, by omega, (fun i e' hi h' => by rcases Nat.lt_or_ge i k with h | h; exact hall i e' h h'; rw [show i = k by omega, he] at h'; injection h' with h'; rw [← h']; exact Nat.lt_of_not_le hc), F, H⟩
  have hkt : k = E.length := by omega
  rw [hkt] at F hall
  clear hk
  refine C_seqK (fun K10 hK10 => ?_)
  refine C_region ?_
  refine T_val F H kr (.bool false) (fun w _ => R_bin (x := (.tmp 8)) (y := (.tmp 7)) rfl (k := .i64) (a := ((E.length : Nat) : Int)) (b := ((E.length : Nat) : Int)) kr kr (i_nlt (by omega)) w) ?_
  clear F; intro a F
  refine wpList_nil ?_
  refine hK10 _ _ ?_
  clear hK10
  try clear K10
  refine C_seqK (fun K11 hK11 => ?_)
  refine C_if F false rfl rfl ?_
  refine wp_exit ?_
  refine hK2 _ _ ?_
  clear hK2
  try clear K2
  refine C_seqK (fun K12 hK12 => ?_)
  refine C_region ?_
  refine T_k F H (.int .i64 (-1)) ?_
  clear F; intro a F
  refine wpList_nil ?_
  refine hK12 _ _ ?_
  clear hK12
  try clear K12
  refine wp_ret ?_
  exact C_ret F H (rs := [.tmp 4]) rfl (vs := [.int .i64 (-1)]) (.tmp rfl .nil) (.int .i64 (-1)) rfl ⟨rfl, H.kept⟩

set_option maxRecDepth 100000 in
set_option maxHeartbeats 4000000 in
theorem idx_some (ag nb nn cap : Nat) (E : List Ent) (rest : List Value) (hs : E.length < 1000) (k0 : Nat) (e0 : Ent) (he0 : E[k0]? = some e0) (hle : e0.ix ≤ nn) (hbef : ∀ (i : Nat) (e : Ent), i < k0 → E[i]? = some e → nn < e.ix) (w : World) (hag : w.heap[ag]? = some (.cells (sl (entC E) rest) 71 (0, 0))) (hnb : w.heap[nb]? = some (.cells #[.int .u32 ((nn : Nat) : Int)] 29 (0, 0))) (hne : ag ≠ nb) : Calls Try.prog 38 #[.slice (some ⟨ag, 0, none⟩) E.length cap, .func (.func 32) #[] #[.pointer (some ⟨nb, 0, none⟩)]] w fun en w' => en = .returned (.int .i64 ((k0 : Nat) : Int)) ∧ Kept [] w w' := by
  refine C_enter Try.func38 rfl 19 Try.ntmps38 (Nat.le_of_ble_eq_true rfl) (fun a F => ?_)
  have H := Hp.start22 hag hnb hne
  replace F : Fm 19 [] [(0, sc ag 0 E.length cap), (1, .func (.func 32) #[] #[pt nb 0])] a := F.weak _ (subL_of kr)
  refine C_seqK (fun K1 hK1 => ?_)
  refine C_region ?_
  refine T_k F H (ni 0) ?_
  clear F; intro a F
  refine wpList_nil ?_
  refine hK1 _ _ ?_
  clear hK1
  try clear K1
  refine C_seqK (fun K2 hK2 => ?_)
  refine C_seqK (fun K3 hK3 => ?_)
  refine C_region ?_
  refine T_k F H (sc ag 0 E.length cap) ?_
  clear F; intro a F
  refine T_k F H (ni E.length) ?_
  clear F; intro a F
  refine T_k F H (ni 0) ?_
  clear F; intro a F
  refine wpList_nil ?_
  replace F : Fm 19 [] [(8, ni 0), (7, ni E.length), (0, sc ag 0 E.length cap), (1, .func (.func 32) #[] #[pt nb 0])] a := F.weak _ (subL_of kr)
  refine hK3 _ _ ?_
  clear hK3
  try clear K3
  refine wp_block ?_
  refine C_loop (fun m a v => ∃ k, k + m = E.length ∧ (∀ (i : Nat) (e : Ent), i < k → E[i]? = some e → nn < e.ix) ∧ Fm 19 [] [(8, ni k), (7, ni E.length), (0, sc ag 0 E.length cap), (1, .func (.func 32) #[] #[pt nb 0])] a ∧ Hp [] w [br ag (sl (entC E) rest) 71, br nb #[nw nn] 29] v) (E.length) ⟨0, Nat.zero_add _, (fun i e h => absurd h (Nat.not_lt_zero _)), F, H⟩ ?_
  clear F H
  intro m a v ⟨k, hk, hall, F, H⟩
  rcases m with _ | m
  rotate_left
  · skip
    obtain ⟨e, he⟩ : ∃ e, E[k]? = some e := ⟨_, List.getElem?_eq_getElem (show k < E.length by omega)⟩
    refine C_seqK (fun K4 hK4 => ?_)
    refine C_region ?_
    refine T_val F H kr (.bool true) (fun w _ => R_bin (x := (.tmp 8)) (y := (.tmp 7)) rfl (k := .i64) (a := ((k : Nat) : Int)) (b := ((E.length : Nat) : Int)) kr kr (i_lt (by omega)) w) ?_
    clear F; intro a F
    refine wpList_nil ?_
    refine hK4 _ _ ?_
    clear hK4
    try clear K4
    refine C_seqK (fun K5 hK5 => ?_)
    refine C_if F true rfl rfl ?_
    refine wp_skip ?_
    refine hK5 _ _ ?_
    clear hK5
    try clear K5
    refine C_seqK (fun K6 hK6 => ?_)
    refine wp_block ?_
    refine C_seqK (fun K7 hK7 => ?_)
    refine C_region ?_
    refine T_k F H (ni k) ?_
    clear F; intro a F
    refine T_k F H (ni k) ?_
    clear F; intro a F
    refine wpList_nil ?_
    refine hK7 _ _ ?_
    clear hK7
    try clear K7
    refine C_seqK (fun K8 hK8 => ?_)
    refine C_region ?_
    refine T_k F H (.func (.func 32) #[] #[pt nb 0]) ?_
    clear F; intro a F
    refine T_k F H (sc ag 0 E.length cap) ?_
    clear F; intro a F
    refine T_k F H (ni k) ?_
    clear F; intro a F
    refine T_val F H kr (pt ag (0 + (k) * 3)) (fun w _ => R_indexS (k := .i64) (g := ag) (off := 0) (len := E.length) (cap := cap) (x := (.tmp 12)) (y := (.tmp 13)) rfl Try.underlying45 kr (k) kr (by omega) (sz := 3) kr w) ?_
    clear F; intro a F
    refine T_val F H kr (.agg #[nw e.ix, nu e.due, e.c.v]) (R_load (own := false) (g := ag) (all := (sl (entC E) rest)) (t := 71) (fr := (0, 0)) 0 kr 71 (.tmp 14) rfl (0 + (k) * 3) kr #[nw e.ix, nu e.due, e.c.v] (ent_load he) _ Try.underlying71 rfl kr) ?_
    clear F; intro a F
    refine T_call F H kr 32 #[.agg #[nw e.ix, nu e.due, e.c.v], pt nb 0] (.bool (decide (e.ix ≤ nn))) (fun w => kr) (gotp_any e nb nn _ (H.at_ (k := 1) rfl)) ?_
    clear F H; intro a v F H
    refine wpList_nil ?_
    refine hK8 _ _ ?_
    clear hK8
    try clear K8
    by_cases hc : e.ix ≤ nn
    · rw [decide_eq_true hc] at F
      refine C_if F true rfl rfl ?_
      refine C_seqK (fun K9 hK9 => ?_)
      refine C_region ?_
      refine T_k F H (ni k) ?_
      clear F; intro a F
      refine T_k F H (ni k) ?_
      clear F; intro a F
      refine wpList_nil ?_
      refine hK9 _ _ ?_
      clear hK9
      try clear K9
      have hkk : k = k0 := by
        rcases Nat.lt_trichotomy k k0 with h | h | h
        · exact absurd hc (Nat.not_le.2 (hbef k e h he))
        · exact h
        · exact absurd hle (Nat.not_le.2 (hall k0 e0 h he0))
      subst hkk
      refine wp_ret ?_
      repeat (first | with_reducible refine then_ret ?_ | with_reducible refine inB_ret ?_)
      exact C_ret F H (rs := [.tmp 4]) rfl (vs := [ni k]) (.tmp rfl .nil) (ni k) rfl ⟨rfl, H.kept⟩
    rw [decide_eq_false hc] at F
    refine C_if F false rfl rfl ?_
    refine wp_skip ?_
    refine hK6 _ _ ?_
    clear hK6
    try clear K6
    refine C_region ?_
    refine T_val F H kr (ni (k + 1)) (fun w _ => R_bin (x := (.tmp 8)) (y := (.const (.int .i64 1))) rfl (k := .i64) (a := ((k : Nat) : Int)) (b := ((1 : Nat) : Int)) kr kr (i_addn64 (a := k) (b := 1) (by omega)) w) ?_
    clear F; intro a F
    refine T_k F H (ni (k + 1)) ?_
    clear F; intro a F
    refine wpList_nil ?_
    replace F : Fm 19 [] [(8, ni (k + 1)), (7, ni E.length), (0, sc ag 0 E.length cap), (1, .func (.func 32) #[] #[pt nb 0])] a := F.weak _ (subL_of kr)
    replace H : Hp [] w [br ag (sl (entC E) rest) 71, br nb #[nw nn] 29] v := H
    exact ⟨m, Nat.lt_succ_self m, k + 1, by omega, (fun i e' hi h' => by rcases Nat.lt_or_ge i k with h | h; exact hall i e' h h'; rw [show i = k by omega, he] at h'; injection h' with h'; rw [← h']; exact Nat.lt_of_not_le hc), F, H⟩
  have hkt : k = E.length := by omega
  rw [hkt] at F hall
  clear hk
  refine C_seqK (fun K10 hK10 => ?_)
  refine C_region ?_
  refine T_val F H kr (.bool false) (fun w _ => R_bin (x := (.tmp 8)) (y := (.tmp 7)) rfl (k := .i64) (a := ((E.length : Nat) : Int)) (b := ((E.length : Nat) : Int)) kr kr (i_nlt (by omega)) w) ?_
  clear F; intro a F
  refine wpList_nil ?_
  refine hK10 _ _ ?_
  clear hK10
  try clear K10
  refine C_seqK (fun K11 hK11 => ?_)
  refine C_if F false rfl rfl ?_
  refine wp_exit ?_
  refine hK2 _ _ ?_
  clear hK2
  try clear K2
  refine C_seqK (fun K12 hK12 => ?_)
  refine C_region ?_
  refine T_k F H (.int .i64 (-1)) ?_
  clear F; intro a F
  refine wpList_nil ?_
  refine hK12 _ _ ?_
  clear hK12
  try clear K12
  exact absurd hle (Nat.not_le.2 (hall k0 e0 (List.getElem?_eq_some_iff.1 he0).1 he0))

theorem ent_ones (e : Ent) : (#[.int .u32 ((e.ix : Nat) : Int), .int .u64 ((e.due : Nat) : Int), e.c.v] : Array Value).all (·.oneCell') = true := by
  obtain ⟨ix, du, ⟨nl, g, cap, rest, l⟩⟩ := e
  cases nl <;> kernel_rfl
theorem sl_app (a b rest : List Value) : sl (a ++ b) rest = sl a (b ++ rest) := by unfold sl; rw [List.append_assoc]
theorem del_start {E : List Ent} {nn k0 : Nat} {e0 : Ent} (he0 : E[k0]? = some e0) (hle : e0.ix ≤ nn) (hbef : ∀ (i : Nat) (e : Ent), i < k0 → E[i]? = some e → nn < e.ix) : E.take k0 = (E.take (k0 + 1)).filter (fun e => decide (nn < e.ix)) := by
  rw [take_filter _ he0, if_neg (by rw [decide_eq_false (Nat.not_lt.2 hle)]; simp), List.append_nil]
  refine (List.filter_eq_self.2 fun e he => ?_).symm
  obtain ⟨i, hi⟩ := List.mem_iff_getElem?.1 he
  rw [List.getElem?_take] at hi
  split at hi
  · exact decide_eq_true (hbef i e ‹_› hi)
  · cases hi
theorem del_drop {E Fl : List Ent} {nn i j : Nat} {e : Ent} (he : E[j]? = some e) (hd : e.ix ≤ nn) (h : Fl.take i = (E.take j).filter (fun e => decide (nn < e.ix))) : Fl.take i = (E.take (j + 1)).filter (fun e => decide (nn < e.ix)) := by
  rw [take_filter _ he, if_neg (by rw [decide_eq_false (Nat.not_lt.2 hd)]; simp), List.append_nil]; exact h
theorem del_keep {E Fl : List Ent} {nn i j : Nat} {e : Ent} (he : E[j]? = some e) (hd : ¬ e.ix ≤ nn) (h : Fl.take i = (E.take j).filter (fun e => decide (nn < e.ix))) (hi : i < Fl.length) : (Fl.set i e).take (i + 1) = (E.take (j + 1)).filter (fun e => decide (nn < e.ix)) := by
  rw [take_filter _ he, if_pos (decide_eq_true (Nat.lt_of_not_le hd)), List.take_add_one, List.take_set_of_le (Nat.le_refl _), List.getElem?_set_self hi, h]; rfl
theorem del_tail {E Fl : List Ent} {j : Nat} (h : Fl.drop j = E.drop j) : Fl.drop (j + 1) = E.drop (j + 1) := by
  rw [← List.drop_drop, h, List.drop_drop]
theorem ent_clear {E Fl : List Ent} {i : Nat} {rest : List Value} (hl : Fl.length = E.length) (hi : i < E.length) : spl (sl (entC Fl) rest) (0 + i * 3) (entC (List.replicate (E.length - i) e00)) = sl (entC (Fl.take i ++ List.replicate (E.length - i) e00)) rest := by
  rw [Nat.zero_add, spl_sl _ _ _ _ (by rw [entC_len, entC_len, List.length_replicate]; omega), entC_take, entC_len, List.length_replicate, entC_app, List.drop_of_length_le (by rw [entC_len]; omega), List.append_nil]
theorem del_own {E Fl : List Ent} {rest : List Value} {cap i : Nat} (h : Own (entC E) rest E.length cap 3) (hl : Fl.length = E.length) (hi : i < E.length) : Own (entC (Fl.take i)) (entC (List.replicate (E.length - i) e00) ++ rest) i cap 3 := by
  have h1 := h.len; have h2 := h.tot; have h3 := h.le
  refine ⟨by rw [entC_len, List.length_take]; omega, ?_, by omega, h.max⟩
  rw [entC_len, List.length_take, List.length_append, entC_len, List.length_replicate]
  rw [entC_len] at h2
  omega
theorem Hp.startWR {w : World} {x y : Nat} {p q : Obj} (hx : w.heap[x]? = some p) (hy : w.heap[y]? = some q) (hne : x ≠ y) : Hp [x] w [⟨true, x, p⟩, ⟨false, y, q⟩] w := by
  refine ⟨Kept.refl _ _, fun b hb => ?_, fun b hb ho => ?_, List.pairwise_cons.2 ⟨fun b hb => ?_, List.pairwise_singleton _ _⟩⟩
  · simp only [List.mem_cons, List.not_mem_nil, or_false] at hb
    rcases hb with rfl | rfl
    · exact hx
    · exact hy
  · simp only [List.mem_cons, List.not_mem_nil, or_false] at hb
    rcases hb with rfl | rfl
    · simp
    · cases ho
  · rw [List.mem_singleton.1 hb]; exact hne

set_option maxRecDepth 100000 in
set_option maxHeartbeats 4000000 in
theorem del_nil (nb : Nat) (w : World) : Calls Try.prog 31 #[.slice none 0 0, .func (.func 32) #[] #[.pointer (some ⟨nb, 0, none⟩)]] w fun en w' => en = .returned (.slice none 0 0) ∧ Kept [] w w' := by
  refine C_enter Try.func31 rfl 42 Try.ntmps31 (Nat.le_of_ble_eq_true rfl) (fun a F => ?_)
  have H := Hp.start [] w
  replace F : Fm 42 [] [(0, .slice none 0 0), (1, .func (.func 32) #[] #[pt nb 0])] a := F.weak _ (subL_of kr)
  refine C_seqK (fun K1 hK1 => ?_)
  refine C_region ?_
  refine T_k F H (.slice none 0 0) ?_
  clear F; intro a F
  refine wpList_nil ?_
  refine hK1 _ _ ?_
  clear hK1
  try clear K1
  refine C_seqK (fun K2 hK2 => ?_)
  refine C_region ?_
  refine T_k F H (.slice none 0 0) ?_
  clear F; intro a F
  refine T_k F H (.func (.func 32) #[] #[pt nb 0]) ?_
  clear F; intro a F
  refine T_call F H kr 38 #[.slice none 0 0, .func (.func 32) #[] #[pt nb 0]] (.int .i64 (-1)) (fun w => kr) (idx_nil nb _) ?_
  clear F H; intro a v F H
  refine T_k F H (.int .i64 (-1)) ?_
  clear F; intro a F
  refine wpList_nil ?_
  refine hK2 _ _ ?_
  clear hK2
  try clear K2
  refine C_seqK (fun K3 hK3 => ?_)
  refine C_seqK (fun K4 hK4 => ?_)
  refine C_region ?_
  refine T_k F H (.int .i64 (-1)) ?_
  clear F; intro a F
  refine T_k F H (.bool true) ?_
  clear F; intro a F
  refine wpList_nil ?_
  refine hK4 _ _ ?_
  clear hK4
  try clear K4
  refine C_if F true rfl rfl ?_
  refine C_seqK (fun K5 hK5 => ?_)
  refine C_region ?_
  refine T_k F H (.slice none 0 0) ?_
  clear F; intro a F
  refine T_k F H (.slice none 0 0) ?_
  clear F; intro a F
  refine wpList_nil ?_
  refine hK5 _ _ ?_
  clear hK5
  try clear K5
  refine wp_ret ?_
  repeat (first | with_reducible refine then_ret ?_ | with_reducible refine inB_ret ?_)
  exact C_ret F H (rs := [.tmp 4]) rfl (vs := [.slice none 0 0]) (.tmp rfl .nil) (.slice none 0 0) rfl ⟨rfl, H.kept⟩

set_option maxRecDepth 100000 in
set_option maxHeartbeats 4000000 in
theorem del_none (ag nb nn cap : Nat) (E : List Ent) (rest : List Value) (hs : E.length < 1000) (hno : ∀ e ∈ E, nn < e.ix) (w : World) (hag : w.heap[ag]? = some (.cells (sl (entC E) rest) 71 (0, 0))) (hnb : w.heap[nb]? = some (.cells #[.int .u32 ((nn : Nat) : Int)] 29 (0, 0))) (hne : ag ≠ nb) : Calls Try.prog 31 #[.slice (some ⟨ag, 0, none⟩) E.length cap, .func (.func 32) #[] #[.pointer (some ⟨nb, 0, none⟩)]] w fun en w' => en = .returned (.slice (some ⟨ag, 0, none⟩) E.length cap) ∧ Kept [] w w' := by
  refine C_enter Try.func31 rfl 42 Try.ntmps31 (Nat.le_of_ble_eq_true rfl) (fun a F => ?_)
  have H := Hp.start22 hag hnb hne
  replace F : Fm 42 [] [(0, sc ag 0 E.length cap), (1, .func (.func 32) #[] #[pt nb 0])] a := F.weak _ (subL_of kr)
  refine C_seqK (fun K1 hK1 => ?_)
  refine C_region ?_
  refine T_k F H (.slice none 0 0) ?_
  clear F; intro a F
  refine wpList_nil ?_
  refine hK1 _ _ ?_
  clear hK1
  try clear K1
  refine C_seqK (fun K2 hK2 => ?_)
  refine C_region ?_
  refine T_k F H (sc ag 0 E.length cap) ?_
  clear F; intro a F
  refine T_k F H (.func (.func 32) #[] #[pt nb 0]) ?_
  clear F; intro a F
  refine T_call F H kr 38 #[sc ag 0 E.length cap, .func (.func 32) #[] #[pt nb 0]] (.int .i64 (-1)) (fun w => kr) (idx_none ag nb nn cap E rest hs hno _ (H.at_ (k := 0) rfl) (H.at_ (k := 1) rfl) hne) ?_
  clear F H; intro a v F H
  refine T_k F H (.int .i64 (-1)) ?_
  clear F; intro a F
  refine wpList_nil ?_
  refine hK2 _ _ ?_
  clear hK2
  try clear K2
  refine C_seqK (fun K3 hK3 => ?_)
  refine C_seqK (fun K4 hK4 => ?_)
  refine C_region ?_
  refine T_k F H (.int .i64 (-1)) ?_
  clear F; intro a F
  refine T_k F H (.bool true) ?_
  clear F; intro a F
  refine wpList_nil ?_
  refine hK4 _ _ ?_
  clear hK4
  try clear K4
  refine C_if F true rfl rfl ?_
  refine C_seqK (fun K5 hK5 => ?_)
  refine C_region ?_
  refine T_k F H (sc ag 0 E.length cap) ?_
  clear F; intro a F
  refine T_k F H (sc ag 0 E.length cap) ?_
  clear F; intro a F
  refine wpList_nil ?_
  refine hK5 _ _ ?_
  clear hK5
  try clear K5
  refine wp_ret ?_
  repeat (first | with_reducible refine then_ret ?_ | with_reducible refine inB_ret ?_)
  exact C_ret F H (rs := [.tmp 4]) rfl (vs := [sc ag 0 E.length cap]) (.tmp rfl .nil) (sc ag 0 E.length cap) rfl ⟨rfl, H.kept⟩

set_option maxRecDepth 100000 in
set_option maxHeartbeats 4000000 in
theorem del_some (ag nb nn cap : Nat) (E : List Ent) (rest : List Value) (hs : E.length < 1000) (k0 : Nat) (e0 : Ent) (he0 : E[k0]? = some e0) (hle : e0.ix ≤ nn) (hbef : ∀ (i : Nat) (e : Ent), i < k0 → E[i]? = some e → nn < e.ix) (hcap : E.length ≤ cap) (hO : Own (entC E) rest E.length cap 3) (w : World) (hag : w.heap[ag]? = some (.cells (sl (entC E) rest) 71 (0, 0))) (hnb : w.heap[nb]? = some (.cells #[.int .u32 ((nn : Nat) : Int)] 29 (0, 0))) (hne : ag ≠ nb) : Calls Try.prog 31 #[.slice (some ⟨ag, 0, none⟩) E.length cap, .func (.func 32) #[] #[.pointer (some ⟨nb, 0, none⟩)]] w fun en w' => ∃ rest' : List Value, en = .returned (.slice (some ⟨ag, 0, none⟩) (E.filter (fun e => decide (nn < e.ix))).length cap) ∧ Own (entC (E.filter (fun e => decide (nn < e.ix)))) rest' (E.filter (fun e => decide (nn < e.ix))).length cap 3 ∧ Hp [ag] w [⟨true, ag, .cells (sl (entC (E.filter (fun e => decide (nn < e.ix)))) rest') 71 (0, 0)⟩] w' := by
  have hk0 := (List.getElem?_eq_some_iff.1 he0).1
  refine C_enter Try.func31 rfl 42 Try.ntmps31 (Nat.le_of_ble_eq_true rfl) (fun a F => ?_)
  have H : Hp [ag] w [bk ag (sl (entC E) rest) 71, br nb #[nw nn] 29] w := Hp.startWR hag hnb hne
  replace F : Fm 42 [] [(0, sc ag 0 E.length cap), (1, .func (.func 32) #[] #[pt nb 0])] a := F.weak _ (subL_of kr)
  refine C_seqK (fun K1 hK1 => ?_)
  refine C_region ?_
  refine T_k F H (.slice none 0 0) ?_
  clear F; intro a F
  refine wpList_nil ?_
  refine hK1 _ _ ?_
  clear hK1
  try clear K1
  refine C_seqK (fun K2 hK2 => ?_)
  refine C_region ?_
  refine T_k F H (sc ag 0 E.length cap) ?_
  clear F; intro a F
  refine T_k F H (.func (.func 32) #[] #[pt nb 0]) ?_
  clear F; intro a F
  refine T_call F H kr 38 #[sc ag 0 E.length cap, .func (.func 32) #[] #[pt nb 0]] (ni k0) (fun w => kr) (idx_some ag nb nn cap E rest hs k0 e0 he0 hle hbef _ (H.at_ (k := 0) rfl) (H.at_ (k := 1) rfl) hne) ?_
  clear F H; intro a v F H
  refine T_k F H (ni k0) ?_
  clear F; intro a F
  refine wpList_nil ?_
  refine hK2 _ _ ?_
  clear hK2
  try clear K2
  refine C_seqK (fun K3 hK3 => ?_)
  refine C_seqK (fun K4 hK4 => ?_)
  refine C_region ?_
  refine T_k F H (ni k0) ?_
  clear F; intro a F
  refine T_val F H kr (.bool false) (fun w _ => R_bin (x := .tmp 11) (y := .const (.int .i64 (-1))) rfl (k := .i64) (a := ((k0 : Nat) : Int)) (b := -1) kr kr i_negeq w) ?_
  clear F; intro a F
  refine wpList_nil ?_
  refine hK4 _ _ ?_
  clear hK4
  try clear K4
  refine C_if F false rfl rfl ?_
  refine wp_skip ?_
  refine hK3 _ _ ?_
  clear hK3
  try clear K3
  refine C_seqK (fun K5 hK5 => ?_)
  refine C_seqK (fun K6 hK6 => ?_)
  refine C_region ?_
  refine T_k F H (ni k0) ?_
  clear F; intro a F
  refine T_val F H kr (ni (k0 + 1)) (fun w _ => R_bin (x := (.tmp 14)) (y := (.const (.int .i64 1))) rfl (k := .i64) (a := ((k0 : Nat) : Int)) (b := ((1 : Nat) : Int)) kr kr (i_addn64 (a := k0) (b := 1) (by omega)) w) ?_
  clear F; intro a F
  refine T_k F H (ni (k0 + 1)) ?_
  clear F; intro a F
  refine wpList_nil ?_
  refine hK6 _ _ ?_
  clear hK6
  try clear K6
  replace F : Fm 42 [] [(5, ni k0), (6, ni (k0 + 1)), (0, sc ag 0 E.length cap), (1, .func (.func 32) #[] #[pt nb 0])] a := F.weak _ (subL_of kr)
  refine wp_block ?_
  refine C_loop (fun m a v => ∃ (j i : Nat) (Fl : List Ent), j + m = E.length ∧ (i < j ∧ Fl.length = E.length ∧ Fl.take i = (E.take j).filter (fun e => decide (nn < e.ix)) ∧ Fl.drop j = E.drop j) ∧ Fm 42 [] [(5, ni i), (6, ni j), (0, sc ag 0 E.length cap), (1, .func (.func 32) #[] #[pt nb 0])] a ∧ Hp [ag] w [bk ag (sl (entC Fl) rest) 71, br nb #[nw nn] 29] v) (E.length - (k0 + 1)) ⟨k0 + 1, k0, E, by omega, ⟨Nat.lt_succ_self _, rfl, del_start he0 hle hbef, rfl⟩, F, H⟩ ?_
  clear F H
  intro m a v ⟨j, i, Fl, hj, ⟨hij, hFl, hFt, hFd⟩, F, H⟩
  rcases m with _ | m
  rotate_left
  · obtain ⟨e, he⟩ : ∃ e, E[j]? = some e := ⟨_, List.getElem?_eq_getElem (show j < E.length by omega)⟩
    have heF : Fl[j]? = some e := by
      have h := congrArg (fun q => q[0]?) hFd
      simp only [List.getElem?_drop, Nat.add_zero] at h
      rw [h]; exact he
    by_cases hd : e.ix ≤ nn
    · skip
      refine C_seqK (fun K7 hK7 => ?_)
      refine C_seqK (fun K8 hK8 => ?_)
      refine C_region ?_
      refine T_k F H (ni j) ?_
      clear F; intro a F
      refine T_k F H (sc ag 0 E.length cap) ?_
      clear F; intro a F
      refine T_k F H (ni E.length) ?_
      clear F; intro a F
      refine T_val F H kr (.bool true) (fun w _ => R_bin (x := (.tmp 16)) (y := (.tmp 18)) rfl (k := .i64) (a := ((j : Nat) : Int)) (b := ((E.length : Nat) : Int)) kr kr (i_lt (by omega)) w) ?_
      clear F; intro a F
      refine wpList_nil ?_
      refine hK8 _ _ ?_
      clear hK8
      try clear K8
      refine C_if F true rfl rfl ?_
      refine wp_skip ?_
      refine hK7 _ _ ?_
      clear hK7
      try clear K7
      refine C_seqK (fun K9 hK9 => ?_)
      refine wp_block ?_
      refine C_seqK (fun K10 hK10 => ?_)
      refine C_region ?_
      refine T_k F H (sc ag 0 E.length cap) ?_
      clear F; intro a F
      refine T_k F H (ni j) ?_
      clear F; intro a F
      refine T_val F H kr (pt ag (0 + (j) * 3)) (fun w _ => R_indexS (k := .i64) (g := ag) (off := 0) (len := E.length) (cap := cap) (x := (.tmp 22)) (y := (.tmp 23)) rfl Try.underlying45 kr (j) kr (by omega) (sz := 3) kr w) ?_
      clear F; intro a F
      refine T_val F H kr (.agg #[nw e.ix, nu e.due, e.c.v]) (R_load (own := true) (g := ag) (all := (sl (entC Fl) rest)) (t := 71) (fr := (0, 0)) 0 kr 71 (.tmp 24) rfl (0 + (j) * 3) kr #[nw e.ix, nu e.due, e.c.v] (ent_load heF) _ Try.underlying71 rfl kr) ?_
      clear F; intro a F
      refine T_new F H kr (fun ad => pt ad 0) (ce #[.int .u32 0, .int .u64 0, .slice none 0 0] 71) (fun w => kr) ?_
      clear F H; intro aq11 a v F H
      refine T_set F H kr rfl 0 rfl #[nw e.ix, nu e.due, e.c.v] (S_row 0 rfl 71 (.tmp 7) (.tmp 25) rfl kr #[nw e.ix, nu e.due, e.c.v] kr kr kr (ent_ones e)) [bk aq11 #[nw e.ix, nu e.due, e.c.v] 71, bk ag (sl (entC Fl) rest) 71, br nb #[nw nn] 29] rfl ?_
      clear F H; intro a v F H
      refine wpList_nil ?_
      refine hK10 _ _ ?_
      clear hK10
      try clear K10
      refine C_seqK (fun K12 hK12 => ?_)
      refine C_region ?_
      refine T_k F H (.func (.func 32) #[] #[pt nb 0]) ?_
      clear F; intro a F
      refine T_val F H kr (.agg #[nw e.ix, nu e.due, e.c.v]) (R_load (own := true) (g := aq11) (all := #[nw e.ix, nu e.due, e.c.v]) (t := 71) (fr := (0, 0)) 0 kr 71 (.tmp 7) rfl 0 kr #[nw e.ix, nu e.due, e.c.v] (part_all _) _ Try.underlying71 rfl kr) ?_
      clear F; intro a F
      refine T_call F H kr 32 #[.agg #[nw e.ix, nu e.due, e.c.v], pt nb 0] (.bool (decide (e.ix ≤ nn))) (fun w => kr) (gotp_any e nb nn _ (H.at_ (k := 2) rfl)) ?_
      clear F H; intro a v F H
      refine T_val F H kr (.bool false) (fun w _ => (R_notd (x := .tmp 28) rfl (p := e.ix ≤ nn) kr w).trans (by rw [decide_eq_false (fun h => h hd)])) ?_
      clear F; intro a F
      refine wpList_nil ?_
      refine hK12 _ _ ?_
      clear hK12
      try clear K12
      refine C_if F false rfl rfl ?_
      refine wp_skip ?_
      refine hK9 _ _ ?_
      clear hK9
      try clear K9
      refine C_region ?_
      refine T_k F H (ni j) ?_
      clear F; intro a F
      refine T_val F H kr (ni (j + 1)) (fun w _ => R_bin (x := (.tmp 20)) (y := (.const (.int .i64 1))) rfl (k := .i64) (a := ((j : Nat) : Int)) (b := ((1 : Nat) : Int)) kr kr (i_addn64 (a := j) (b := 1) (by omega)) w) ?_
      clear F; intro a F
      refine T_k F H (ni (j + 1)) ?_
      clear F; intro a F
      refine wpList_nil ?_
      replace H : Hp [ag] w [bk ag (sl (entC Fl) rest) 71, br nb #[nw nn] 29] v := H.pick [1, 2] kr _ rfl
      replace F : Fm 42 [] [(5, ni i), (6, ni (j + 1)), (0, sc ag 0 E.length cap), (1, .func (.func 32) #[] #[pt nb 0])] a := F.weak _ (subL_of kr)
      exact ⟨m, Nat.lt_succ_self m, j + 1, i, Fl, by omega, ⟨by omega, hFl, del_drop he hd hFt, del_tail hFd⟩, F, H⟩
    · skip
      refine C_seqK (fun K13 hK13 => ?_)
      refine C_seqK (fun K14 hK14 => ?_)
      refine C_region ?_
      refine T_k F H (ni j) ?_
      clear F; intro a F
      refine T_k F H (sc ag 0 E.length cap) ?_
      clear F; intro a F
      refine T_k F H (ni E.length) ?_
      clear F; intro a F
      refine T_val F H kr (.bool true) (fun w _ => R_bin (x := (.tmp 16)) (y := (.tmp 18)) rfl (k := .i64) (a := ((j : Nat) : Int)) (b := ((E.length : Nat) : Int)) kr kr (i_lt (by omega)) w) ?_
      clear F; intro a F
      refine wpList_nil ?_
      refine hK14 _ _ ?_
      clear hK14
      try clear K14
      refine C_if F true rfl rfl ?_
      refine wp_skip ?_
      refine hK13 _ _ ?_
      clear hK13
      try clear K13
      refine C_seqK (fun K15 hK15 => ?_)
      refine wp_block ?_
      refine C_seqK (fun K16 hK16 => ?_)
      refine C_region ?_
      refine T_k F H (sc ag 0 E.length cap) ?_
      clear F; intro a F
      refine T_k F H (ni j) ?_
      clear F; intro a F
      refine T_val F H kr (pt ag (0 + (j) * 3)) (fun w _ => R_indexS (k := .i64) (g := ag) (off := 0) (len := E.length) (cap := cap) (x := (.tmp 22)) (y := (.tmp 23)) rfl Try.underlying45 kr (j) kr (by omega) (sz := 3) kr w) ?_
      clear F; intro a F
      refine T_val F H kr (.agg #[nw e.ix, nu e.due, e.c.v]) (R_load (own := true) (g := ag) (all := (sl (entC Fl) rest)) (t := 71) (fr := (0, 0)) 0 kr 71 (.tmp 24) rfl (0 + (j) * 3) kr #[nw e.ix, nu e.due, e.c.v] (ent_load heF) _ Try.underlying71 rfl kr) ?_
      clear F; intro a F
      refine T_new F H kr (fun ad => pt ad 0) (ce #[.int .u32 0, .int .u64 0, .slice none 0 0] 71) (fun w => kr) ?_
      clear F H; intro aq17 a v F H
      refine T_set F H kr rfl 0 rfl #[nw e.ix, nu e.due, e.c.v] (S_row 0 rfl 71 (.tmp 7) (.tmp 25) rfl kr #[nw e.ix, nu e.due, e.c.v] kr kr kr (ent_ones e)) [bk aq17 #[nw e.ix, nu e.due, e.c.v] 71, bk ag (sl (entC Fl) rest) 71, br nb #[nw nn] 29] rfl ?_
      clear F H; intro a v F H
      refine wpList_nil ?_
      refine hK16 _ _ ?_
      clear hK16
      try clear K16
      refine C_seqK (fun K18 hK18 => ?_)
      refine C_region ?_
      refine T_k F H (.func (.func 32) #[] #[pt nb 0]) ?_
      clear F; intro a F
      refine T_val F H kr (.agg #[nw e.ix, nu e.due, e.c.v]) (R_load (own := true) (g := aq17) (all := #[nw e.ix, nu e.due, e.c.v]) (t := 71) (fr := (0, 0)) 0 kr 71 (.tmp 7) rfl 0 kr #[nw e.ix, nu e.due, e.c.v] (part_all _) _ Try.underlying71 rfl kr) ?_
      clear F; intro a F
      refine T_call F H kr 32 #[.agg #[nw e.ix, nu e.due, e.c.v], pt nb 0] (.bool (decide (e.ix ≤ nn))) (fun w => kr) (gotp_any e nb nn _ (H.at_ (k := 2) rfl)) ?_
      clear F H; intro a v F H
      refine T_val F H kr (.bool true) (fun w _ => (R_notd (x := .tmp 28) rfl (p := e.ix ≤ nn) kr w).trans (by rw [decide_eq_true hd])) ?_
      clear F; intro a F
      refine wpList_nil ?_
      refine hK18 _ _ ?_
      clear hK18
      try clear K18
      refine C_if F true rfl rfl ?_
      refine C_seqK (fun K19 hK19 => ?_)
      refine C_region ?_
      refine T_k F H (sc ag 0 E.length cap) ?_
      clear F; intro a F
      refine T_k F H (ni i) ?_
      clear F; intro a F
      refine T_val F H kr (.agg #[nw e.ix, nu e.due, e.c.v]) (R_load (own := true) (g := aq17) (all := #[nw e.ix, nu e.due, e.c.v]) (t := 71) (fr := (0, 0)) 0 kr 71 (.tmp 7) rfl 0 kr #[nw e.ix, nu e.due, e.c.v] (part_all _) _ Try.underlying71 rfl kr) ?_
      clear F; intro a F
      refine T_val F H kr (pt ag (0 + (i) * 3)) (fun w _ => R_indexS (k := .i64) (g := ag) (off := 0) (len := E.length) (cap := cap) (x := (.tmp 30)) (y := (.tmp 31)) rfl Try.underlying45 kr (i) kr (by omega) (sz := 3) kr w) ?_
      clear F; intro a F
      refine T_stP F H kr rfl 1 rfl (ce (sl (entC (Fl.set i e)) rest) 71) (fun w _ hg => P_part (off := 0 + (i) * 3) (cs := #[nw e.ix, nu e.due, e.c.v]) (old := (sl (entC Fl) rest)) rfl (by rw [← ent_store e (show i < Fl.length by omega)]; rfl) (ty := 71) (x := (.tmp 33)) (y := (.tmp 32)) rfl kr kr kr (by rw [sl_size, entC_len]; show 0 + i * 3 + 3 ≤ _; omega) (ent_ones e) hg) [bk aq17 #[nw e.ix, nu e.due, e.c.v] 71, bk ag (sl (entC (Fl.set i e)) rest) 71, br nb #[nw nn] 29] rfl ?_
      clear F H; intro a v F H
      refine wpList_nil ?_
      refine hK19 _ _ ?_
      clear hK19
      try clear K19
      refine C_region ?_
      refine T_k F H (ni i) ?_
      clear F; intro a F
      refine T_val F H kr (ni (i + 1)) (fun w _ => R_bin (x := (.tmp 34)) (y := (.const (.int .i64 1))) rfl (k := .i64) (a := ((i : Nat) : Int)) (b := ((1 : Nat) : Int)) kr kr (i_addn64 (a := i) (b := 1) (by omega)) w) ?_
      clear F; intro a F
      refine T_k F H (ni (i + 1)) ?_
      clear F; intro a F
      refine wpList_nil ?_
      refine hK15 _ _ ?_
      clear hK15
      try clear K15
      refine C_region ?_
      refine T_k F H (ni j) ?_
      clear F; intro a F
      refine T_val F H kr (ni (j + 1)) (fun w _ => R_bin (x := (.tmp 20)) (y := (.const (.int .i64 1))) rfl (k := .i64) (a := ((j : Nat) : Int)) (b := ((1 : Nat) : Int)) kr kr (i_addn64 (a := j) (b := 1) (by omega)) w) ?_
      clear F; intro a F
      refine T_k F H (ni (j + 1)) ?_
      clear F; intro a F
      refine wpList_nil ?_
      replace H : Hp [ag] w [bk ag (sl (entC (Fl.set i e)) rest) 71, br nb #[nw nn] 29] v := H.pick [1, 2] kr _ rfl
      replace F : Fm 42 [] [(5, ni (i + 1)), (6, ni (j + 1)), (0, sc ag 0 E.length cap), (1, .func (.func 32) #[] #[pt nb 0])] a := F.weak _ (subL_of kr)
      exact ⟨m, Nat.lt_succ_self m, j + 1, i + 1, Fl.set i e, by omega, ⟨by omega, by rw [List.length_set]; exact hFl, del_keep he hd hFt (by omega), by rw [List.drop_set_of_lt (by omega)]; exact del_tail hFd⟩, F, H⟩
  have hjt : j = E.length := by omega
  subst hjt
  rw [List.take_length] at hFt
  refine C_seqK (fun K20 hK20 => ?_)
  refine C_seqK (fun K21 hK21 => ?_)
  refine C_region ?_
  refine T_k F H (ni E.length) ?_
  clear F; intro a F
  refine T_k F H (sc ag 0 E.length cap) ?_
  clear F; intro a F
  refine T_k F H (ni E.length) ?_
  clear F; intro a F
  refine T_val F H kr (.bool false) (fun w _ => R_bin (x := (.tmp 16)) (y := (.tmp 18)) rfl (k := .i64) (a := ((E.length : Nat) : Int)) (b := ((E.length : Nat) : Int)) kr kr (i_nlt (by omega)) w) ?_
  clear F; intro a F
  refine wpList_nil ?_
  refine hK21 _ _ ?_
  clear hK21
  try clear K21
  refine C_if F false rfl rfl ?_
  refine wp_exit ?_
  refine hK5 _ _ ?_
  clear hK5
  try clear K5
  refine C_seqK (fun K22 hK22 => ?_)
  refine C_region ?_
  refine T_k F H (sc ag 0 E.length cap) ?_
  clear F; intro a F
  refine T_k F H (ni i) ?_
  clear F; intro a F
  refine T_val F H kr (sc ag (0 + (i) * 3) (E.length - i) (cap - i)) (fun w _ => R_slice (x := (.tmp 36)) (lo := (some (.tmp 37))) (hi := none) rfl Try.underlying45 (ad := some ⟨ag, 0, none⟩) (len := E.length) (cap := cap) kr (i) (E.length) ⟨.i64, kr⟩ rfl (by omega) hcap (sz := 3) kr _ (sliceAtN (by omega)) w) ?_
  clear F; intro a F
  refine T_vlP F H kr (.tuple #[]) 0 rfl (ce (sl (entC (Fl.take i ++ List.replicate (E.length - i) e00)) rest) 71) (fun w _ hg => R_clear (x := (.tmp 38)) rfl Try.underlying45 (.agg #[.int .u32 0, .int .u64 0, .slice none 0 0]) (fun w => kr) (g := ag) (off := 0 + (i) * 3) (m := E.length - i) (c := cap - i) kr (by omega) (entC (List.replicate (E.length - i) e00)) (zero_ents _) (entC_one _) (by rw [sl_size, entC_len, entC_len, List.length_replicate]; omega) (by rw [ent_clear hFl (by omega)]) hg) [bk ag (sl (entC (Fl.take i ++ List.replicate (E.length - i) e00)) rest) 71, br nb #[nw nn] 29] rfl ?_
  clear F H; intro a v F H
  refine wpList_nil ?_
  refine hK22 _ _ ?_
  clear hK22
  try clear K22
  refine C_seqK (fun K23 hK23 => ?_)
  refine C_region ?_
  refine T_k F H (sc ag 0 E.length cap) ?_
  clear F; intro a F
  refine T_k F H (ni i) ?_
  clear F; intro a F
  refine T_val F H kr (sc ag 0 i cap) (fun w _ => R_slice (x := (.tmp 39)) (lo := none) (hi := (some (.tmp 40))) rfl Try.underlying45 (ad := some ⟨ag, 0, none⟩) (len := E.length) (cap := cap) kr (0) (i) rfl ⟨.i64, kr⟩ (Nat.zero_le _) (by omega) (sz := 3) kr _ slice0 w) ?_
  clear F; intro a F
  refine T_k F H (sc ag 0 i cap) ?_
  clear F; intro a F
  refine wpList_nil ?_
  refine hK23 _ _ ?_
  clear hK23
  try clear K23
  have hle2 : Fl.take i = E.filter (fun e => decide (nn < e.ix)) := hFt
  have hil : i = (E.filter (fun e => decide (nn < e.ix))).length := by rw [← hFt, List.length_take]; omega
  refine wp_ret ?_
  exact C_ret F H (rs := [.tmp 4]) rfl (vs := [sc ag 0 i cap]) (.tmp rfl .nil) (sc ag 0 i cap) rfl ⟨entC (List.replicate (E.length - i) e00) ++ rest, by rw [← hil], by rw [← hil, ← hFt]; exact del_own hO hFl (by omega), by rw [← hFt]; rw [entC_app, sl_app] at H; exact H.pick [0] kr _ rfl⟩
end Go.Proofs.Ytlnlppmhiobgjaa
