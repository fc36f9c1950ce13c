/- Maps of few frames: rules; inbox.Hold, Turn. -/
import Derived.Test.YtlnlppmhiobgjaaGM
import Derived.Maps.RangeRun
set_option linter.unusedVariables false
set_option linter.unusedSimpArgs false
namespace Go.Proofs.Ytlnlppmhiobgjaa
open Go Go.RowKit
structure MEn where
  k : Nat
  c : Cl
  born : Nat
def MEn.e (m : MEn) : MapEntry := ⟨.int .u32 ((m.k : Nat) : Int), m.c.v, m.born⟩
def mpO (M : List MEn) (clock : Nat) : Obj := .map (M.map MEn.e).toArray clock
def mfi (k : Nat) : List MEn → Nat → Option (Nat × Value)
  | [], _ => none
  | m :: M, i => if k = m.k then some (i, m.c.v) else mfi k M (i + 1)
theorem findNow_M (k : Nat) : ∀ (M : List MEn) (i : Nat), Instr.findNow (.int .u32) (.int .u32 ((k : Nat) : Int)) (M.map MEn.e) i = some (mfi k M i)
  | [], _ => rfl
  | m :: M, i => by
    have hs : Instr.sameNow (.int .u32) (.int .u32 ((k : Nat) : Int)) (MEn.e m).key = some (decide (k = m.k)) := by
      show (if IntKind.u32 = IntKind.u32 then some (((k : Nat) : Int) == ((m.k : Nat) : Int)) else none) = _
      rw [if_pos rfl]
      congr 1
      by_cases h : k = m.k
      · rw [h]; simp
      · have h2 : ¬ ((k : Nat) : Int) = ((m.k : Nat) : Int) := by omega
        simp [h, h2]
    rw [List.map_cons, Instr.findNow, hs, mfi]
    by_cases h : k = m.k
    · rw [decide_eq_true h, if_pos h]; rfl
    · rw [decide_eq_false h, if_neg h]; exact findNow_M k M (i + 1)
section
variable {P : Program} {o : Oper} {V : List (Nat × Value)} {w : World}
theorem run_findM (w : World) {kt : TypeId} (hk : P.underlying kt = some (.int .u32)) (k : Nat) (M : List MEn) : (Instr.findKey kt (.int .u32 ((k : Nat) : Int)) (M.map MEn.e)).run P w = .ok (mfi k M 0) w := by
  unfold Instr.findKey
  rw [Sem.run_bind, run_underlying hk]
  simp only [Result.andThen_ok, findNow_M]
  rfl
theorem run_checkU (w : World) (b : Bool) {kt : TypeId} (hk : P.underlying kt = some (.int .u32)) (k : Int) : (Instr.checkKey b 10000 kt (.int .u32 k)).run P w = .ok () w := by
  unfold Instr.checkKey
  rw [Sem.run_bind, run_underlying hk]
  rfl
theorem run_getMap {mb : Nat} {es : Array MapEntry} {clock : Nat} (hb : w.heap[mb]? = some (.map es clock)) : (getObj mb).run P w = .ok (.map es clock) w := by
  simp [getObj, Sem.run, hb]
theorem R_lookup {t kt et : TypeId} {x y : Operand} (ho : o.op = .lookup t x y true) (ht : P.underlying t = some (.map kt et)) (hk : P.underlying kt = some (.int .u32)) (hz : ∀ w, (zeroValue et).run P w = .ok (.slice none 0 0) w) {mb clock k : Nat} {M : List MEn} (hx : evV V x = .map (some mb)) (hy : evV V y = .int .u32 ((k : Nat) : Int)) (hb : w.heap[mb]? = some (mpO M clock)) :
    (execOp (evV V) o).run P w = .ok (.value (.tuple #[match mfi k M 0 with | some p => p.2 | none => .slice none 0 0, .bool (mfi k M 0).isSome])) w := by
  have h : (Instr.lookup t (.map (some mb)) (.int .u32 ((k : Nat) : Int)) true).run P w = .ok (.tuple #[match mfi k M 0 with | some p => p.2 | none => .slice none 0 0, .bool (mfi k M 0).isSome]) w := by
    unfold Instr.lookup
    rw [Sem.run_bind, run_underlying ht]
    simp only [Result.andThen_ok, Sem.run_bind, run_getMap hb, Sem.run_pure, run_checkU w _ hk, run_findM w hk, List.toList_toArray]
    cases mfi k M 0 with
    | none => simp only [Sem.run_bind, hz, Result.andThen_ok, Sem.run_pure]; rfl
    | some p => rfl
  unfold execOp
  simp only [ho, hx, hy, Sem.run_bind, h, Result.andThen_ok, Sem.run_pure]
theorem R_lookupN {t kt et : TypeId} {x y : Operand} (ho : o.op = .lookup t x y true) (ht : P.underlying t = some (.map kt et)) (hk : P.underlying kt = some (.int .u32)) (hz : ∀ w, (zeroValue et).run P w = .ok (.slice none 0 0) w) {k : Nat} (hx : evV V x = .map none) (hy : evV V y = .int .u32 ((k : Nat) : Int)) (w : World) :
    (execOp (evV V) o).run P w = .ok (.value (.tuple #[.slice none 0 0, .bool false])) w := by
  have h : (Instr.lookup t (.map none) (.int .u32 ((k : Nat) : Int)) true).run P w = .ok (.tuple #[.slice none 0 0, .bool false]) w := by
    unfold Instr.lookup
    rw [Sem.run_bind, run_underlying ht]
    have hf := run_findM (P := P) w hk k []
    simp only [Result.andThen_ok, Sem.run_bind, Sem.run_pure, run_checkU w _ hk]
    have hf2 : (Instr.findKey kt (.int .u32 ((k : Nat) : Int)) []).run P w = .ok none w := hf
    simp only [hf2, Result.andThen_ok, Sem.run_bind, hz, Sem.run_pure]
    rfl
  unfold execOp
  simp only [ho, hx, hy, Sem.run_bind, h, Result.andThen_ok, Sem.run_pure]
def mset (k : Nat) (c : Cl) (b : Nat) : List MEn → List MEn
  | [] => [⟨k, c, b⟩]
  | m :: M => if k = m.k then ⟨k, c, m.born⟩ :: M else m :: mset k c b M
theorem mfi_shift (k : Nat) : ∀ (M : List MEn) (i : Nat), mfi k M (i + 1) = (mfi k M i).map fun p => (p.1 + 1, p.2)
  | [], _ => rfl
  | m :: M, i => by
    unfold mfi
    split
    · rfl
    · exact mfi_shift k M (i + 1)
theorem mset_none (k : Nat) (c : Cl) (b : Nat) : ∀ {M : List MEn}, mfi k M 0 = none → mset k c b M = M ++ [⟨k, c, b⟩]
  | [], _ => rfl
  | m :: M, h => by
    unfold mfi at h
    split at h
    · cases h
    · rename_i hne
      rw [Nat.zero_add, mfi_shift] at h
      rw [mset, if_neg hne, mset_none k c b (by cases hq : mfi k M 0 with | none => rfl | some p => rw [hq] at h; cases h)]
      rfl
theorem mset_some (k : Nat) (c : Cl) (b : Nat) : ∀ {M : List MEn} {i : Nat} {v : Value}, mfi k M 0 = some (i, v) → ∃ m, M[i]? = some m ∧ m.k = k ∧ m.c.v = v ∧ mset k c b M = M.set i ⟨k, c, m.born⟩
  | [], _, _, h => by cases h
  | m :: M, i, v, h => by
    unfold mfi at h
    split at h
    · rename_i he
      simp only [Option.some.injEq, Prod.mk.injEq] at h
      obtain ⟨rfl, rfl⟩ := h
      exact ⟨m, rfl, he.symm, rfl, by rw [mset, if_pos he]; rfl⟩
    · rename_i hne
      rw [mfi_shift] at h
      cases hq : mfi k M 0 with
      | none => rw [hq] at h; cases h
      | some p =>
        rw [hq] at h
        simp only [Option.map_some, Option.some.injEq, Prod.mk.injEq] at h
        obtain ⟨rfl, rfl⟩ := h
        obtain ⟨m', h1, h2, h3, h4⟩ := mset_some k c b hq
        exact ⟨m', by rw [List.getElem?_cons_succ]; exact h1, h2, h3, by rw [mset, if_neg hne, h4]; rfl⟩
theorem run_setMap {mb : Nat} {es : Array MapEntry} {clock : Nat} (hb : w.heap[mb]? = some (.map es clock)) (ob : Obj) : (setObj mb ob).run P w = .ok () (ChangeMaps.setBlock w mb ob) := by
  simp [setObj, Sem.run, hb, ChangeMaps.setBlock]
theorem keptM {mb : Nat} {ob : Obj} {es : Array MapEntry} {clock : Nat} (hb : w.heap[mb]? = some (.map es clock)) : Kept [mb] w (ChangeMaps.setBlock w mb ob) ∧ (ChangeMaps.setBlock w mb ob).heap[mb]? = some ob := by
  refine ⟨⟨rfl, rfl, rfl, by simp [ChangeMaps.setBlock], fun k _ hx => ?_⟩, ChangeMaps.heap_setBlock_same hb ob⟩
  exact ChangeMaps.heap_setBlock_other hb ob (by simpa using hx)
theorem keys_stay (w : World) (a b : Int) (h : a = b) : (Instr.keyThatStays (.int .u32 a) (.int .u32 b)).run P w = .ok (.int .u32 b) w := by
  subst h
  unfold Instr.keyThatStays
  have : Instr.sameBits 10000 (.int .u32 a) (.int .u32 a) = true := by simp [Instr.sameBits]
  rw [if_pos this]; rfl
theorem P_update {t kt et : TypeId} {x y z : Operand} (ho : o.op = .mapUpdate t x y z) (ht : P.underlying t = some (.map kt et)) (hk : P.underlying kt = some (.int .u32)) {mb clock k : Nat} {M : List MEn} (c : Cl) (hx : evV V x = .map (some mb)) (hy : evV V y = .int .u32 ((k : Nat) : Int)) (hz : evV V z = c.v) (hb : w.heap[mb]? = some (mpO M clock)) :
    ∃ w', (execOp (evV V) o).run P w = .ok .skip w' ∧ Kept [mb] w w' ∧ w'.heap[mb]? = some (mpO (mset k c clock M) (if (mfi k M 0).isSome then clock else clock + 1)) := by
  have hfin : ∀ es' cl', (Instr.mapUpdate t (.map (some mb)) (.int .u32 ((k : Nat) : Int)) c.v).run P w = .ok () (ChangeMaps.setBlock w mb (.map es' cl')) → (.map es' cl' : Obj) = mpO (mset k c clock M) (if (mfi k M 0).isSome then clock else clock + 1) → ∃ w', (execOp (evV V) o).run P w = .ok .skip w' ∧ Kept [mb] w w' ∧ w'.heap[mb]? = some (mpO (mset k c clock M) (if (mfi k M 0).isSome then clock else clock + 1)) := by
    intro es' cl' h he
    obtain ⟨k1, k2⟩ := keptM (ob := .map es' cl') hb
    refine ⟨_, ?_, k1, by rw [k2, he]⟩
    unfold execOp
    simp only [ho, hx, hy, hz, Sem.run_bind, h, Result.andThen_ok, Sem.run_pure]
  rcases Option.eq_none_or_eq_some (mfi k M 0) with hq | ⟨⟨i, v⟩, hq⟩
  · refine hfin ((M.map MEn.e).toArray.push { key := .int .u32 ((k : Nat) : Int), val := c.v, born := clock }) (clock + 1) ?_ ?_
    · unfold Instr.mapUpdate
      rw [Sem.run_bind, run_underlying ht]
      simp only [Result.andThen_ok, Sem.run_bind, run_getMap hb, run_checkU w _ hk, run_findM w hk, List.toList_toArray, hq]
      exact run_setMap hb _
    · rw [mset_none k c clock hq, hq]
      simp [mpO, MEn.e]
  · obtain ⟨m, h1, h2, h3, h4⟩ := mset_some k c clock hq
    refine hfin ((M.map MEn.e).toArray.modify i fun e => { e with key := .int .u32 ((k : Nat) : Int), val := c.v }) clock ?_ ?_
    · have he : ((M.map MEn.e).toArray[i]?).map (·.key) = some (.int .u32 ((m.k : Nat) : Int)) := by
        rw [List.getElem?_toArray, List.getElem?_map, h1]; rfl
      unfold Instr.mapUpdate
      rw [Sem.run_bind, run_underlying ht]
      simp only [Result.andThen_ok, Sem.run_bind, run_getMap hb, run_checkU w _ hk, run_findM w hk, List.toList_toArray, hq, he, Option.getD_some, keys_stay w _ _ (show ((m.k : Nat) : Int) = ((k : Nat) : Int) by rw [h2])]
      exact run_setMap hb _
    · rw [h4, hq]
      unfold mpO
      congr 1
      refine Array.ext_getElem? fun j => ?_
      rw [Array.getElem?_modify, List.getElem?_toArray, List.getElem?_toArray, List.getElem?_map, List.getElem?_map, List.getElem?_set]
      have hi := (List.getElem?_eq_some_iff.1 h1).1
      by_cases hj : i = j
      · subst hj
        have hm := (List.getElem?_eq_some_iff.1 h1).2
        simp [hi, MEn.e, hm]
      · simp [hj]
def mdel (k : Nat) : List MEn → List MEn
  | [] => []
  | m :: M => if k = m.k then M else m :: mdel k M
theorem mdel_none (k : Nat) : ∀ {M : List MEn}, mfi k M 0 = none → mdel k M = M
  | [], _ => rfl
  | m :: M, h => by
    unfold mfi at h
    split at h
    · cases h
    · rename_i hne
      rw [Nat.zero_add, mfi_shift] at h
      rw [mdel, if_neg hne, mdel_none k (by cases hq : mfi k M 0 with | none => rfl | some p => rw [hq] at h; cases h)]
theorem mdel_some (k : Nat) : ∀ {M : List MEn} {i : Nat} {v : Value}, mfi k M 0 = some (i, v) → mdel k M = M.eraseIdx i ∧ i < M.length
  | [], _, _, h => by cases h
  | m :: M, i, v, h => by
    unfold mfi at h
    split at h
    · rename_i he
      simp only [Option.some.injEq, Prod.mk.injEq] at h
      obtain ⟨rfl, rfl⟩ := h
      exact ⟨by rw [mdel, if_pos he]; rfl, Nat.succ_pos _⟩
    · rename_i hne
      rw [mfi_shift] at h
      cases hq : mfi k M 0 with
      | none => rw [hq] at h; cases h
      | some p =>
        rw [hq] at h
        simp only [Option.map_some, Option.some.injEq, Prod.mk.injEq] at h
        obtain ⟨rfl, rfl⟩ := h
        obtain ⟨h4, h5⟩ := mdel_some k hq
        exact ⟨by rw [mdel, if_neg hne, h4]; rfl, Nat.succ_lt_succ h5⟩
theorem map_erase : ∀ (M : List MEn) (i : Nat), (M.map MEn.e).eraseIdx i = (M.eraseIdx i).map MEn.e
  | [], i => by cases i <;> rfl
  | m :: M, 0 => rfl
  | m :: M, i + 1 => by rw [List.map_cons, List.eraseIdx_cons_succ, map_erase M i, List.eraseIdx_cons_succ, List.map_cons]
theorem P_delete {t kt et t2 : TypeId} {x y : Operand} (ho : o.op = .call { callee := .builtin .delete, args := #[x, y], argTypes := #[t, t2] }) (ht : P.underlying t = some (.map kt et)) (hk : P.underlying kt = some (.int .u32)) {mb clock k : Nat} {M : List MEn} (hx : evV V x = .map (some mb)) (hy : evV V y = .int .u32 ((k : Nat) : Int)) (hb : w.heap[mb]? = some (mpO M clock)) :
    ∃ w', (execOp (evV V) o).run P w = .ok (.value (.tuple #[])) w' ∧ Kept [mb] w w' ∧ w'.heap[mb]? = some (mpO (mdel k M) clock) := by
  have hfin : ∀ es', (∀ ty, (Builtin.delete_ #[t, t2] ty #[.map (some mb), .int .u32 ((k : Nat) : Int)]).run P w = .ok (.tuple #[]) (ChangeMaps.setBlock w mb (.map es' clock))) → (.map es' clock : Obj) = mpO (mdel k M) clock → ∃ w', (execOp (evV V) o).run P w = .ok (.value (.tuple #[])) w' ∧ Kept [mb] w w' ∧ w'.heap[mb]? = some (mpO (mdel k M) clock) := by
    intro es' h he
    obtain ⟨k1, k2⟩ := keptM (ob := .map es' clock) hb
    refine ⟨_, ?_, k1, by rw [k2, he]⟩
    unfold execOp
    simp only [ho, resolve, invoke, builtin, Sem.run_bind, Sem.run_pure, Result.andThen_ok, List.map_toArray, List.map_cons, List.map_nil, hx, hy, h]
  rcases Option.eq_none_or_eq_some (mfi k M 0) with hq | ⟨⟨i, v⟩, hq⟩
  · refine hfin (M.map MEn.e).toArray (fun ty => ?_) (by rw [mdel_none k hq]; rfl)
    simp [Builtin.delete_, run_underlying ht, Sem.run_bind, run_getMap hb, run_checkU w _ hk, run_findM w hk, hq, run_setMap hb]
  · obtain ⟨h4, h5⟩ := mdel_some k hq
    refine hfin ((M.map MEn.e).toArray.eraseIdxIfInBounds i) (fun ty => ?_) ?_
    · simp [Builtin.delete_, run_underlying ht, Sem.run_bind, run_getMap hb, run_checkU w _ hk, run_findM w hk, hq, run_setMap hb]
    · rw [h4]
      unfold mpO
      congr 1
      rw [Array.eraseIdxIfInBounds, dif_pos (by simpa using h5)]
      apply Array.ext'
      simp
      exact map_erase M i
theorem R_deleteN {t kt et t2 : TypeId} {x y : Operand} (ho : o.op = .call { callee := .builtin .delete, args := #[x, y], argTypes := #[t, t2] }) (ht : P.underlying t = some (.map kt et)) (hk : P.underlying kt = some (.int .u32)) {k : Nat} (hx : evV V x = .map none) (hy : evV V y = .int .u32 ((k : Nat) : Int)) (w : World) :
    (execOp (evV V) o).run P w = .ok (.value (.tuple #[])) w := by
  have h : ∀ ty, (Builtin.delete_ #[t, t2] ty #[.map none, .int .u32 ((k : Nat) : Int)]).run P w = .ok (.tuple #[]) w := fun ty => by
    simp [Builtin.delete_, run_underlying ht, Sem.run_bind, run_checkU w _ hk]
  unfold execOp
  simp only [ho, resolve, invoke, builtin, Sem.run_bind, Sem.run_pure, Result.andThen_ok, List.map_toArray, List.map_cons, List.map_nil, hx, hy, h]
theorem R_range {t kt et : TypeId} {x : Operand} (ho : o.op = .range t x) (ht : P.underlying t = some (.map kt et)) {mb clock : Nat} {es : Array MapEntry} (hx : evV V x = .map (some mb)) (hb : w.heap[mb]? = some (.map es clock)) :
    (execOp (evV V) o).run P w = .ok (.value (.pointer (some ⟨w.heap.size, 0, none⟩))) (w.alloc (.mapIter (some mb) clock #[] clock)) := by
  have h : (Instr.range t (.map (some mb))).run P w = .ok (.pointer (some ⟨w.heap.size, 0, none⟩)) (w.alloc (.mapIter (some mb) clock #[] clock)) := by
    unfold Instr.range
    simp [Sem.run_bind, run_underlying ht, run_getMap hb, newObj, Sem.run]
  unfold execOp
  simp only [ho, hx, Sem.run_bind, h, Result.andThen_ok, Sem.run_pure]
theorem R_rangeN {t kt et : TypeId} {x : Operand} (ho : o.op = .range t x) (ht : P.underlying t = some (.map kt et)) (hx : evV V x = .map none) (w : World) :
    (execOp (evV V) o).run P w = .ok (.value (.pointer (some ⟨w.heap.size, 0, none⟩))) (w.alloc (.mapIter none 0 #[] 0)) := by
  have h : (Instr.range t (.map none)).run P w = .ok (.pointer (some ⟨w.heap.size, 0, none⟩)) (w.alloc (.mapIter none 0 #[] 0)) := by
    unfold Instr.range
    simp [Sem.run_bind, run_underlying ht, newObj, Sem.run]
  unfold execOp
  simp only [ho, hx, Sem.run_bind, h, Result.andThen_ok, Sem.run_pure]
theorem R_nextN {x : Operand} (ho : o.op = .next x false) {r : Nat} (hx : evV V x = .pointer (some ⟨r, 0, none⟩)) (hb : w.heap[r]? = some (.mapIter none 0 #[] 0)) : (execOp (evV V) o).run P w = .ok (.value (.tuple #[.bool false])) w := by
  have h : ∀ ty, (Instr.next (.pointer (some ⟨r, 0, none⟩)) false ty).run P w = .ok (.tuple #[.bool false]) w := fun ty => by
    simp [Instr.next, Sem.run_bind, getObj, Sem.run, hb, Result.andThen]
  unfold execOp
  simp only [ho, hx, Sem.run_bind, h, Result.andThen_ok, Sem.run_pure]
theorem R_entry {x : Operand} (ho : o.op = .entry x) {r mb since clock : Nat} {seen : Array Nat} {es : Array MapEntry} {e : MapEntry} (hx : evV V x = .pointer (some ⟨r, 0, none⟩)) (hr : w.heap[r]? = some (.mapIter (some mb) since (seen.push e.born) clock)) (hb : w.heap[mb]? = some (.map es clock)) (he : e ∈ es.toList) (hn : (es.toList.map (·.born)).Nodup) :
    (execOp (evV V) o).run P w = .ok (.value (.tuple #[e.key, e.val])) w := by
  have h := run_entry_at (P := P) w r mb since seen es clock e hr hb he hn
  unfold execOp
  simp only [ho, hx, Sem.run_bind, h, Result.andThen_ok, Sem.run_pure]
end
section
variable {P : Program} {ops : Array Oper} {Q : Exit → Act → World → Prop} {rest : List Oper} {o : Oper} {a : Act} {w w0 : World} {n : Nat} {ds : List Deferred} {V : List (Nat × Value)} {X : List Nat} {L : List Blk}
theorem T_newH (F : Fm n ds V a) (H : Hp X w0 L w) (hc0 : opB ops V n o = true) (vf : Nat → Value) (ob : Obj)
    (hr : ∀ w, HeldL L w → (execOp (evV V) o).run P w = .ok (.value (vf w.heap.size)) (w.alloc ob))
    (h : ∀ ad a w, Fm n ds (upV V o.dst (vf ad)) a → Hp X w0 (⟨true, ad, ob⟩ :: L) w → wpList P ops Q rest a w) : wpList P ops Q (o :: rest) a w := by
  obtain ⟨hg, hk, hd0⟩ := opB_spec hc0
  refine T_core F hg hk fun K hK => ?_
  rw [hr w ⟨H.held⟩, Oper.upon_value]
  exact hK _ _ (h _ _ _ (F.put _ _ hd0) (H.alloc ob))
theorem T_next (F : Fm n ds V a) (H : Hp X w0 L w) (hc0 : opB ops V n o = true) {it : Operand} (ho : o.op = .next it false) {ki km r mb since c0 clock : Nat} {seen : Array Nat} {es : Array MapEntry} {own : Bool} (hit : L[ki]? = some ⟨true, r, .mapIter (some mb) since seen c0⟩) (hm : L[km]? = some ⟨own, mb, .map es clock⟩) (hx : evV V it = .pointer (some ⟨r, 0, none⟩)) (hold : ∀ x ∈ es.toList, x.born < since) (hsc : since ≤ c0)
    (h0 : (leftOf es seen).size = 0 → ∀ a, Fm n ds (upV V o.dst (.tuple #[.bool false])) a → wpList P ops Q rest a w)
    (h1 : ∀ e ∈ (leftOf es seen).toList, ∀ a w', Fm n ds (upV V o.dst (.tuple #[.bool true, e.key, e.val])) a → Hp X w0 (L.set ki ⟨true, r, .mapIter (some mb) since (seen.push e.born) clock⟩) w' → wpList P ops Q rest a w') : wpList P ops Q (o :: rest) a w := by
  obtain ⟨hg, hk, hd0⟩ := opB_spec hc0
  refine T_core F hg hk fun K hK => ?_
  rcases run_next_at (P := P) w o.type r mb since c0 seen es clock (H.at_ hit) (H.at_ hm) hold hsc with ⟨h2, h3⟩ | ⟨e, he, w1, hw1, h3⟩
  · have hrun : (execOp (evV V) o).run P w = .ok (.value (.tuple #[.bool false])) w := by
      unfold execOp
      simp only [ho, hx, Sem.run_bind, h3, Result.andThen_ok, Sem.run_pure]
    rw [hrun, Oper.upon_value]
    exact hK _ _ (h0 h2 _ (F.put _ _ hd0))
  · have hrun : (execOp (evV V) o).run P w = .ok (.value (.tuple #[.bool true, e.key, e.val])) (ChangeMaps.setBlock w1 r (.mapIter (some mb) since (seen.push e.born) clock)) := by
      unfold execOp
      simp only [ho, hx, Sem.run_bind, h3, Result.andThen_ok, Sem.run_pure]
    rw [hrun, Oper.upon_value]
    have H1 : Hp X w0 L w1 := by
      rcases hw1 with rfl | rfl
      · exact H
      · exact H.call (Kept.drew w)
    have hr1 := H1.at_ hit
    have hlt := heap_in hr1
    refine hK _ _ (h1 e he _ _ (F.put _ _ hd0) (H1.put hit ⟨rfl, rfl, rfl, by simp [ChangeMaps.setBlock], fun k _ hx => ?_⟩ ?_))
    · show (w1.heap.setIfInBounds r _)[k]? = w1.heap[k]?
      rw [Array.getElem?_setIfInBounds, if_neg (by intro e; exact hx (by rw [e]; simp))]
    · show (w1.heap.setIfInBounds r _)[r]? = _
      rw [Array.getElem?_setIfInBounds, if_pos rfl, if_pos hlt]
end

theorem i_subu32 {a b : Nat} (h : b ≤ a) (ha : a < 4294967296) : intRes .sub .u32 (a : Int) (b : Int) = some (.int .u32 ((a - b : Nat) : Int)) := by
  unfold intRes
  refine congrArg (fun q => some (Value.int .u32 q)) ?_
  rw [IntKind.wrap_u32]; omega
structure MOK (M : List MEn) (clock : Nat) : Prop where
  keys : (M.map (·.k)).Nodup
  births : (M.map (·.born)).Nodup
  old : ∀ m ∈ M, m.born < clock
  each : ∀ m ∈ M, m.c.ok
theorem mdel_filter (k : Nat) : ∀ {M : List MEn}, (M.map (·.k)).Nodup → mdel k M = M.filter fun m => decide (k ≠ m.k)
  | [], _ => rfl
  | m :: M, h => by
    rw [List.map_cons, List.nodup_cons] at h
    rw [mdel, List.filter_cons]
    by_cases hk : k = m.k
    · rw [if_pos hk, if_neg (by simp [hk])]
      refine (List.filter_eq_self.2 fun e he => ?_).symm
      have : k ≠ e.k := fun e2 => h.1 (by rw [← hk, e2]; exact List.mem_map_of_mem he)
      simpa using this
    · rw [if_neg hk, if_pos (by simpa using hk), mdel_filter k h.2]
def tlv (nx : Nat) (M : List MEn) (seen : Array Nat) : List MEn := M.filter fun m => !(decide (m.k < nx) && seen.contains m.born)
theorem tlv_nil (nx : Nat) (M : List MEn) : tlv nx M #[] = M := List.filter_eq_self.2 fun m _ => by simp
theorem nodup_inj {α : Type} (f : α → Nat) : ∀ {l : List α}, (l.map f).Nodup → ∀ {a b : α}, a ∈ l → b ∈ l → f a = f b → a = b
  | x :: l, h, a, b, ha, hb, e => by
    rw [List.map_cons, List.nodup_cons] at h
    rcases List.mem_cons.1 ha with rfl | ha' <;> rcases List.mem_cons.1 hb with rfl | hb'
    · rfl
    · exact absurd (by rw [e]; exact List.mem_map_of_mem hb') h.1
    · exact absurd (by rw [← e]; exact List.mem_map_of_mem ha') h.1
    · exact nodup_inj f h.2 ha' hb' e
theorem keys_inj {M : List MEn} (h : (M.map (·.k)).Nodup) {m e : MEn} (hm : m ∈ M) (he : e ∈ M) (hk : m.k = e.k) : m = e := nodup_inj _ h hm he hk
theorem born_inj {M : List MEn} (h : (M.map (·.born)).Nodup) {m e : MEn} (hm : m ∈ M) (he : e ∈ M) (hk : m.born = e.born) : m = e := nodup_inj _ h hm he hk
theorem tlv_mem {nx : Nat} {M : List MEn} {seen : Array Nat} {m : MEn} (h : m ∈ tlv nx M seen) : m ∈ M := (List.mem_filter.1 h).1
theorem tlv_del {nx clock : Nat} {M : List MEn} {seen : Array Nat} {m : MEn} (hM : MOK M clock) (hm : m ∈ M) (hk : m.k < nx) : mdel m.k (tlv nx M seen) = tlv nx M (seen.push m.born) := by
  unfold tlv
  rw [mdel_filter _ ((List.Sublist.map _ List.filter_sublist).nodup hM.keys), List.filter_filter]
  refine List.filter_congr fun e he => ?_
  rw [Array.contains_push]
  by_cases h1 : m.k = e.k
  · have := keys_inj hM.keys hm he h1
    subst this
    simp [hk]
  · have h2 : ¬ e.born = m.born := fun h => h1 (congrArg (·.k) (born_inj hM.births hm he h.symm))
    have h3 : (e.born == m.born) = false := by simpa using h2
    simp [h1, h3]
theorem tlv_keep {nx clock : Nat} {M : List MEn} {seen : Array Nat} {m : MEn} (hM : MOK M clock) (hm : m ∈ M) (hk : ¬ m.k < nx) : tlv nx M seen = tlv nx M (seen.push m.born) := by
  unfold tlv
  refine List.filter_congr fun e he => ?_
  rw [Array.contains_push]
  by_cases h2 : e.born = m.born
  · have := born_inj hM.births he hm h2
    subst this
    simp [hk]
  · have h3 : (e.born == m.born) = false := by simpa using h2
    simp [h3]
def cntv (M : List MEn) (seen : Array Nat) : Nat := (M.filter fun m => !seen.contains m.born).length
theorem cntv_dec {clock : Nat} {M : List MEn} {seen : Array Nat} {m : MEn} (hM : MOK M clock) (hm : m ∈ M) (hs : seen.contains m.born = false) : cntv M (seen.push m.born) < cntv M seen := by
  have e : (M.filter fun e => !(seen.push m.born).contains e.born) = (M.filter fun e => !seen.contains e.born).filter fun e => decide (e.born ≠ m.born) := by
    rw [List.filter_filter]
    refine List.filter_congr fun e _ => ?_
    rw [Array.contains_push]
    by_cases h : e.born = m.born <;> simp [h]
  unfold cntv
  rw [e]
  refine Nat.lt_of_le_of_ne (List.length_filter_le _ _) fun h => ?_
  have h2 := List.length_filter_eq_length_iff.1 h m (List.mem_filter.2 ⟨hm, by rw [hs]; rfl⟩)
  simp at h2
theorem left_mem {L : List MEn} {seen : Array Nat} {e : MapEntry} (h : e ∈ (leftOf (L.map MEn.e).toArray seen).toList) : ∃ m ∈ L, e = m.e ∧ seen.contains m.born = false := by
  unfold leftOf at h
  have h1 := Array.mem_toList_iff.1 h
  obtain ⟨h2, h3⟩ := Array.mem_filter.1 h1
  simp only [List.mem_toArray, List.mem_map] at h2
  obtain ⟨m, hm, rfl⟩ := h2
  exact ⟨m, hm, rfl, by simpa [MEn.e] using h3⟩
theorem left_none {nx clock : Nat} {M : List MEn} {seen : Array Nat} (hM : MOK M clock) (h : (leftOf ((tlv nx M seen).map MEn.e).toArray seen).size = 0) : tlv nx M seen = M.filter fun m => !decide (m.k < nx) := by
  have hall : ∀ m ∈ tlv nx M seen, seen.contains m.born = true := fun m hm => by
    cases hs : seen.contains m.born with
    | true => rfl
    | false =>
      exfalso
      have : m.e ∈ leftOf ((tlv nx M seen).map MEn.e).toArray seen := by
        unfold leftOf
        refine Array.mem_filter.2 ⟨by simpa using ⟨m, hm, rfl⟩, ?_⟩
        show (!seen.contains m.born) = true
        rw [hs]; rfl
      rw [Array.eq_empty_of_size_eq_zero h] at this
      simp at this
  unfold tlv at hall ⊢
  refine List.filter_congr fun m hm => ?_
  by_cases hk : m.k < nx
  · cases hs : seen.contains m.born with
    | true => simp [hk]
    | false =>
      have := hall m (List.mem_filter.2 ⟨hm, by rw [hs]; simp⟩)
      rw [hs] at this; cases this
  · simp [hk]
theorem ent_nodup {nx clock : Nat} {M : List MEn} {seen : Array Nat} (hM : MOK M clock) : (((((tlv nx M seen).map MEn.e).toArray).toList).map (·.born)).Nodup := by
  show (((tlv nx M seen).map MEn.e).map (·.born)).Nodup
  rw [List.map_map]
  exact (List.Sublist.map MEn.born List.filter_sublist).nodup hM.births
theorem mfi_none {k : Nat} : ∀ {M : List MEn} {i : Nat}, (∀ m ∈ M, m.k ≠ k) → mfi k M i = none
  | [], _, _ => rfl
  | m :: M, i, h => by rw [mfi, if_neg (fun e => h m (List.mem_cons_self ..) e.symm)]; exact mfi_none fun m' h' => h m' (List.mem_cons_of_mem _ h')
theorem mfi_at {k : Nat} : ∀ {M : List MEn} (i : Nat), (M.map (·.k)).Nodup → ∀ {m : MEn}, m ∈ M → m.k = k → ∃ j, mfi k M i = some (j, m.c.v)
  | m0 :: M, i, h, m, hm, hk => by
    rw [List.map_cons, List.nodup_cons] at h
    rcases List.mem_cons.1 hm with rfl | hm'
    · exact ⟨i, by rw [mfi, if_pos hk.symm]⟩
    · have : ¬ k = m0.k := fun e => h.1 (by rw [← e, ← hk]; exact List.mem_map_of_mem hm')
      obtain ⟨j, hj⟩ := mfi_at (i + 1) h.2 hm' hk
      exact ⟨j, by rw [mfi, if_neg this]; exact hj⟩
theorem turn_left {nx : Nat} {M : List MEn} {clock : Nat} (hM : MOK M clock) : mdel nx (M.filter fun m => !decide (m.k < nx)) = M.filter fun m => decide (nx < m.k) := by
  rw [mdel_filter _ ((List.Sublist.map _ List.filter_sublist).nodup hM.keys), List.filter_filter]
  refine List.filter_congr fun m _ => ?_
  by_cases h1 : nx < m.k
  · have h2 : ¬ m.k < nx := by omega
    have h3 : ¬ nx = m.k := by omega
    simp [h1, h2, h3]
  · by_cases h2 : nx = m.k
    · simp [h1, h2]
    · have h3 : m.k < nx := by omega
      simp [h1, h3]

set_option maxRecDepth 100000 in
set_option maxHeartbeats 4000000 in
theorem hold_stale (xb nx ix : Nat) (bV : Value) (h : ix ≤ nx) (w : World) : Calls Try.prog 20 #[.pointer (some ⟨xb, 0, none⟩), .int .u32 ((nx : Nat) : Int), .int .u32 ((ix : Nat) : Int), bV] w fun e w' => e = .returned (.int .i64 84) ∧ Kept [] w w' := by
  refine C_enter Try.func20 rfl 52 Try.ntmps20 (Nat.le_of_ble_eq_true rfl) (fun a F => ?_)
  have H := Hp.start [] w
  replace F : Fm 52 [] [(0, pt xb 0), (1, nw nx), (2, nw ix), (3, bV)] a := F.weak _ (subL_of kr)
  refine C_seqK (fun K1 hK1 => ?_)
  refine C_region ?_
  refine T_k F H (ni 0) ?_
  clear F; intro a F
  refine wpList_nil ?_
  refine hK1 _ _ ?_
  clear hK1
  try clear K1
  refine C_seqK (fun K2 hK2 => ?_)
  refine wp_block ?_
  refine C_seqK (fun K3 hK3 => ?_)
  refine C_region ?_
  refine T_k F H (nw ix) ?_
  clear F; intro a F
  refine T_k F H (nw nx) ?_
  clear F; intro a F
  refine T_val F H kr (.bool true) (fun w _ => R_bin (x := (.tmp 12)) (y := (.tmp 13)) rfl (k := .u32) (a := ((ix : Nat) : Int)) (b := ((nx : Nat) : Int)) kr kr (i_leqd.trans (by rw [decide_eq_true (by omega)])) w) ?_
  clear F; intro a F
  refine T_k F H (.bool true) ?_
  clear F; intro a F
  refine wpList_nil ?_
  refine hK3 _ _ ?_
  clear hK3
  try clear K3
  refine C_if F true rfl rfl ?_
  refine C_seqK (fun K4 hK4 => ?_)
  refine C_region ?_
  refine T_k F H (ni 84) ?_
  clear F; intro a F
  refine wpList_nil ?_
  refine hK4 _ _ ?_
  clear hK4
  try clear K4
  refine wp_ret ?_
  repeat (first | with_reducible refine then_ret ?_ | with_reducible refine inB_ret ?_)
  exact C_ret F H (rs := [.tmp 8]) rfl (vs := [ni 84]) (.tmp rfl .nil) (ni 84) rfl ⟨rfl, H.kept⟩

set_option maxRecDepth 100000 in
set_option maxHeartbeats 4000000 in
theorem hold_ahead (xb nx ix : Nat) (bV : Value) (h : nx < ix) (h4 : 4 ≤ ix - nx) (hix : ix < 4294967296) (w : World) : Calls Try.prog 20 #[.pointer (some ⟨xb, 0, none⟩), .int .u32 ((nx : Nat) : Int), .int .u32 ((ix : Nat) : Int), bV] w fun e w' => e = .returned (.int .i64 85) ∧ Kept [] w w' := by
  refine C_enter Try.func20 rfl 52 Try.ntmps20 (Nat.le_of_ble_eq_true rfl) (fun a F => ?_)
  have H := Hp.start [] w
  replace F : Fm 52 [] [(0, pt xb 0), (1, nw nx), (2, nw ix), (3, bV)] a := F.weak _ (subL_of kr)
  refine C_seqK (fun K1 hK1 => ?_)
  refine C_region ?_
  refine T_k F H (ni 0) ?_
  clear F; intro a F
  refine wpList_nil ?_
  refine hK1 _ _ ?_
  clear hK1
  try clear K1
  refine C_seqK (fun K2 hK2 => ?_)
  refine wp_block ?_
  refine C_seqK (fun K3 hK3 => ?_)
  refine C_region ?_
  refine T_k F H (nw ix) ?_
  clear F; intro a F
  refine T_k F H (nw nx) ?_
  clear F; intro a F
  refine T_val F H kr (.bool false) (fun w _ => R_bin (x := (.tmp 12)) (y := (.tmp 13)) rfl (k := .u32) (a := ((ix : Nat) : Int)) (b := ((nx : Nat) : Int)) kr kr (i_leqd.trans (by rw [decide_eq_false (by omega)])) w) ?_
  clear F; intro a F
  refine T_k F H (.bool false) ?_
  clear F; intro a F
  refine wpList_nil ?_
  refine hK3 _ _ ?_
  clear hK3
  try clear K3
  refine C_if F false rfl rfl ?_
  refine C_seqK (fun K4 hK4 => ?_)
  refine C_region ?_
  refine T_k F H (nw ix) ?_
  clear F; intro a F
  refine T_k F H (nw nx) ?_
  clear F; intro a F
  refine T_val F H kr (nw (ix - nx)) (fun w _ => R_bin (x := (.tmp 16)) (y := (.tmp 17)) rfl (k := .u32) (a := ((ix : Nat) : Int)) (b := ((nx : Nat) : Int)) kr kr (i_subu32 (a := ix) (b := nx) (by omega) (by omega)) w) ?_
  clear F; intro a F
  refine T_val F H kr (.bool true) (fun w _ => R_bin (x := (.tmp 18)) (y := (.const (.int .u32 4))) rfl (k := .u32) (a := (((ix - nx) : Nat) : Int)) (b := ((4 : Nat) : Int)) kr kr (i_geqd.trans (by rw [decide_eq_true (by omega)])) w) ?_
  clear F; intro a F
  refine T_k F H (.bool true) ?_
  clear F; intro a F
  refine wpList_nil ?_
  refine hK4 _ _ ?_
  clear hK4
  try clear K4
  refine C_if F true rfl rfl ?_
  refine C_seqK (fun K5 hK5 => ?_)
  refine C_region ?_
  refine T_k F H (ni 85) ?_
  clear F; intro a F
  refine wpList_nil ?_
  refine hK5 _ _ ?_
  clear hK5
  try clear K5
  refine wp_ret ?_
  repeat (first | with_reducible refine then_ret ?_ | with_reducible refine inB_ret ?_)
  exact C_ret F H (rs := [.tmp 8]) rfl (vs := [ni 85]) (.tmp rfl .nil) (ni 85) rfl ⟨rfl, H.kept⟩

set_option maxRecDepth 100000 in
set_option maxHeartbeats 4000000 in
theorem hold_new_nil (xb nx ix : Nat) (uv : Value) (h : nx < ix) (h4 : ix - nx < 4) (hix : ix < 4294967296) (w : World) (hx : w.heap[xb]? = some (.cells #[.map none, uv] 28 (0, 0))) : Calls Try.prog 20 #[.pointer (some ⟨xb, 0, none⟩), .int .u32 ((nx : Nat) : Int), .int .u32 ((ix : Nat) : Int), .slice none 0 0] w fun e w' => ∃ (mb : Nat) (c : Cl), e = .returned (.int .i64 0) ∧ c.l = [] ∧ c.ok ∧ Hp [xb] w (⟨true, xb, .cells #[.map (some mb), uv] 28 (0, 0)⟩ :: ⟨true, mb, mpO [⟨ix, c, 0⟩] 1⟩ :: c.blks) w' := by
  refine C_enter Try.func20 rfl 52 Try.ntmps20 (Nat.le_of_ble_eq_true rfl) (fun a F => ?_)
  have H : Hp [xb] w [bk xb #[.map none, uv] 28] w := Hp.startX1 hx
  replace F : Fm 52 [] [(0, pt xb 0), (1, nw nx), (2, nw ix), (3, .slice none 0 0)] a := F.weak _ (subL_of kr)
  refine C_seqK (fun K1 hK1 => ?_)
  refine C_region ?_
  refine T_k F H (ni 0) ?_
  clear F; intro a F
  refine wpList_nil ?_
  refine hK1 _ _ ?_
  clear hK1
  try clear K1
  refine C_seqK (fun K2 hK2 => ?_)
  refine wp_block ?_
  refine C_seqK (fun K3 hK3 => ?_)
  refine C_region ?_
  refine T_k F H (nw ix) ?_
  clear F; intro a F
  refine T_k F H (nw nx) ?_
  clear F; intro a F
  refine T_val F H kr (.bool false) (fun w _ => R_bin (x := (.tmp 12)) (y := (.tmp 13)) rfl (k := .u32) (a := ((ix : Nat) : Int)) (b := ((nx : Nat) : Int)) kr kr (i_leqd.trans (by rw [decide_eq_false (by omega)])) w) ?_
  clear F; intro a F
  refine T_k F H (.bool false) ?_
  clear F; intro a F
  refine wpList_nil ?_
  refine hK3 _ _ ?_
  clear hK3
  try clear K3
  refine C_if F false rfl rfl ?_
  refine C_seqK (fun K4 hK4 => ?_)
  refine C_region ?_
  refine T_k F H (nw ix) ?_
  clear F; intro a F
  refine T_k F H (nw nx) ?_
  clear F; intro a F
  refine T_val F H kr (nw (ix - nx)) (fun w _ => R_bin (x := (.tmp 16)) (y := (.tmp 17)) rfl (k := .u32) (a := ((ix : Nat) : Int)) (b := ((nx : Nat) : Int)) kr kr (i_subu32 (a := ix) (b := nx) (by omega) (by omega)) w) ?_
  clear F; intro a F
  refine T_val F H kr (.bool false) (fun w _ => R_bin (x := (.tmp 18)) (y := (.const (.int .u32 4))) rfl (k := .u32) (a := (((ix - nx) : Nat) : Int)) (b := ((4 : Nat) : Int)) kr kr (i_geqd.trans (by rw [decide_eq_false (by omega)])) w) ?_
  clear F; intro a F
  refine T_k F H (.bool false) ?_
  clear F; intro a F
  refine wpList_nil ?_
  refine hK4 _ _ ?_
  clear hK4
  try clear K4
  refine C_if F false rfl rfl ?_
  refine wp_skip ?_
  refine hK2 _ _ ?_
  clear hK2
  try clear K2
  refine C_seqK (fun K5 hK5 => ?_)
  refine C_seqK (fun K6 hK6 => ?_)
  refine C_region ?_
  refine T_k F H (pt xb 0) ?_
  clear F; intro a F
  refine T_k F H (pt xb 0) ?_
  clear F; intro a F
  refine T_k F H (pt xb 0) ?_
  clear F; intro a F
  refine T_val F H kr (.map none) (R_cell (own := true) (g := xb) (all := #[.map none, uv]) (t := 28) (fr := (0, 0)) 0 kr 25 (.tmp 23) rfl 0 kr (.map none) kr _ Try.underlying25 rfl) ?_
  clear F; intro a F
  refine T_k F H (nw ix) ?_
  clear F; intro a F
  refine T_val F H kr (.tuple #[.slice none 0 0, .bool false]) (fun w _ => R_lookupN (x := (.tmp 24)) (y := (.tmp 25)) rfl Try.underlying25 Try.underlying29 (fun w => kr) (k := ix) kr kr w) ?_
  clear F; intro a F
  refine T_k F H (.tuple #[.slice none 0 0, .bool false]) ?_
  clear F; intro a F
  refine T_k F H (.slice none 0 0) ?_
  clear F; intro a F
  refine T_k F H (.bool false) ?_
  clear F; intro a F
  refine T_k F H (.slice none 0 0) ?_
  clear F; intro a F
  refine T_k F H (.bool false) ?_
  clear F; intro a F
  refine wpList_nil ?_
  refine hK6 _ _ ?_
  clear hK6
  try clear K6
  refine C_seqK (fun K7 hK7 => ?_)
  refine C_region ?_
  refine T_k F H (.bool false) ?_
  clear F; intro a F
  refine T_k F H (.bool false) ?_
  clear F; intro a F
  refine T_skip F kr kr ?_
  clear F; intro a F
  refine T_skip F kr kr ?_
  clear F; intro a F
  refine T_skip F kr kr ?_
  clear F; intro a F
  refine T_skip F kr kr ?_
  clear F; intro a F
  refine T_k F H (.bool false) ?_
  clear F; intro a F
  refine wpList_nil ?_
  refine hK7 _ _ ?_
  clear hK7
  try clear K7
  refine C_if F false rfl rfl ?_
  refine wp_skip ?_
  refine hK5 _ _ ?_
  clear hK5
  try clear K5
  refine C_seqK (fun K8 hK8 => ?_)
  refine C_seqK (fun K9 hK9 => ?_)
  refine C_region ?_
  refine T_k F H (pt xb 0) ?_
  clear F; intro a F
  refine T_k F H (pt xb 0) ?_
  clear F; intro a F
  refine T_k F H (pt xb 0) ?_
  clear F; intro a F
  refine T_val F H kr (.map none) (R_cell (own := true) (g := xb) (all := #[.map none, uv]) (t := 28) (fr := (0, 0)) 0 kr 25 (.tmp 38) rfl 0 kr (.map none) kr _ Try.underlying25 rfl) ?_
  clear F; intro a F
  refine T_k F H (.bool true) ?_
  clear F; intro a F
  refine wpList_nil ?_
  refine hK9 _ _ ?_
  clear hK9
  try clear K9
  refine C_if F true rfl rfl ?_
  refine C_region ?_
  refine T_k F H (pt xb 0) ?_
  clear F; intro a F
  refine T_new F H kr (fun ad => .map (some ad)) (mpO [] 0) (fun w => kr) ?_
  clear F H; intro mq10 a v F H
  refine T_k F H (pt xb 0) ?_
  clear F; intro a F
  refine T_k F H (pt xb 0) ?_
  clear F; intro a F
  refine T_set F H kr rfl 1 rfl _ (S_cell 1 rfl 25 (.tmp 44) (.tmp 42) rfl 0 kr (.map (some mq10)) kr rfl (Nat.le_of_ble_eq_true rfl) _ Try.underlying25 rfl kr) [⟨true, mq10, mpO [] 0⟩, bk xb #[.map (some mq10), uv] 28] rfl ?_
  clear F H; intro a v F H
  refine wpList_nil ?_
  refine hK8 _ _ ?_
  clear hK8
  try clear K8
  refine C_seqK (fun K11 hK11 => ?_)
  refine E_region F H (fun β => [(45, pt xb 0), (46, pt xb 0), (47, pt xb 0), (48, .map (some mq10)), (49, nw ix), (50, .slice none 0 0), (51, .slice none 0 0)]) [45, 46, 47, 48, 49, 50, 51] [⟨none, none, mq10, [], fun q_ => mpO [] 0, gT, [⟨7, [], fun q_ => mpO (mset ix (⟨true, 0, 0, [], []⟩ : Cl) 0 []) (if (mfi ix [] 0).isSome then 0 else 0 + 1), gT⟩]⟩] [bk xb #[.map (some mq10), uv] 28] [0, 1] 2 [] kr kr kr (fun β => rfl) ⟨fun _ _ => trivial, trivial⟩ ⟨?_, ?_, ?_, ?_, ?_, ?_, ?_, ?_, trivial⟩ ?_
  · exact E_k 52 (fun β => pt xb 0) 45 2
  · exact E_k 52 (fun β => pt xb 0) 46 2
  · exact E_k 52 (fun β => pt xb 0) 47 2
  · exact E_v 52 (fun β => .map (some mq10)) 48 2 [] (fun β w hk hl hq => R_cellH hl (own := true) (g := xb) (all := #[.map (some mq10), uv]) (t := 28) (fr := (0, 0)) 0 kr 25 (.tmp 47) rfl 0 kr (.map (some mq10)) kr _ Try.underlying25 rfl)
  · exact E_k 52 (fun β => nw ix) 49 2
  · exact E_k 52 (fun β => .slice none 0 0) 50 2
  · exact E_call 52 kq (fun β => .slice none 0 0) 51 rfl kq 29 (fun β => #[.slice none 0 0]) (fun β w => kr) 2 [] kr rfl (fun β w hk hl hq => clone_nil _)
  · exact E_store 52 kq rfl 2 [] 0 0 _ _ rfl rfl kr rfl (fun _ => trivial) (fun β w hk hl hq hm => let ⟨w', h1, h2, h3⟩ := P_update (x := (.tmp 48)) (y := (.tmp 49)) (z := (.tmp 51)) rfl Try.underlying25 Try.underlying29 (k := ix) (M := []) (clock := 0) (⟨true, 0, 0, [], []⟩ : Cl) kr kr kr hm; ⟨w', h1, h2, h3⟩)
  clear F H; intro β a v Q F H
  replace H : Hp [xb] w [⟨true, mq10, mpO (mset ix (⟨true, 0, 0, [], []⟩ : Cl) 0 []) (if (mfi ix [] 0).isSome then 0 else 0 + 1)⟩, bk xb #[.map (some mq10), uv] 28] v := H
  replace F : Fm 52 [] [(51, .slice none 0 0), (50, .slice none 0 0), (49, nw ix), (48, .map (some mq10)), (47, pt xb 0), (46, pt xb 0), (45, pt xb 0), (44, pt xb 0), (43, pt xb 0), (42, .map (some mq10)), (41, pt xb 0), (40, .bool true), (39, .map none), (38, pt xb 0), (37, pt xb 0), (36, pt xb 0), (35, .bool false), (34, undef), (33, undef), (32, undef), (31, undef), (30, .bool false), (29, .bool false), (10, .bool false), (9, .slice none 0 0), (28, .bool false), (27, .slice none 0 0), (20, .tuple #[.slice none 0 0, .bool false]), (26, .tuple #[.slice none 0 0, .bool false]), (25, nw ix), (24, .map none), (23, pt xb 0), (22, pt xb 0), (21, pt xb 0), (15, .bool false), (19, .bool false), (18, nw (ix - nx)), (17, nw nx), (16, nw ix), (11, .bool false), (14, .bool false), (13, nw nx), (12, nw ix), (8, ni 0), (0, pt xb 0), (1, nw nx), (2, nw ix), (3, .slice none 0 0)] a := F.weak _ (subL_of kr)
  clear Q
  refine ?_
  refine hK11 _ _ ?_
  clear hK11
  try clear K11
  refine C_seqK (fun K12 hK12 => ?_)
  refine C_region ?_
  refine T_k F H (ni 0) ?_
  clear F; intro a F
  refine wpList_nil ?_
  refine hK12 _ _ ?_
  clear hK12
  try clear K12
  refine wp_ret ?_
  exact C_ret F H (rs := [.tmp 8]) rfl (vs := [ni 0]) (.tmp rfl .nil) (ni 0) rfl ⟨mq10, ⟨true, 0, 0, [], []⟩, rfl, rfl, ⟨Nat.zero_le _, fun _ => rfl, fun e => by cases e⟩, H.pick [1, 0] kr _ rfl⟩

set_option maxRecDepth 100000 in
set_option maxHeartbeats 4000000 in
theorem hold_new_some (xb nx ix : Nat) (uv : Value) (h : nx < ix) (h4 : ix - nx < 4) (hix : ix < 4294967296) (bq : Addr) (bc : Nat) (l : List Nat) (hbig : l.length ≤ 140737488355328) (w : World) (hx : w.heap[xb]? = some (.cells #[.map none, uv] 28 (0, 0))) (hb : Sv.RdK [xb] w ⟨some bq, bc, l⟩) : Calls Try.prog 20 #[.pointer (some ⟨xb, 0, none⟩), .int .u32 ((nx : Nat) : Int), .int .u32 ((ix : Nat) : Int), .slice (some bq) l.length bc] w fun e w' => ∃ (mb : Nat) (c : Cl), e = .returned (.int .i64 0) ∧ c.l = l ∧ c.ok ∧ Hp [xb] w (⟨true, xb, .cells #[.map (some mb), uv] 28 (0, 0)⟩ :: ⟨true, mb, mpO [⟨ix, c, 0⟩] 1⟩ :: c.blks) w' := by
  refine C_enter Try.func20 rfl 52 Try.ntmps20 (Nat.le_of_ble_eq_true rfl) (fun a F => ?_)
  have H : Hp [xb] w [bk xb #[.map none, uv] 28] w := Hp.startX1 hx
  replace F : Fm 52 [] [(0, pt xb 0), (1, nw nx), (2, nw ix), (3, .slice (some bq) l.length bc)] a := F.weak _ (subL_of kr)
  refine C_seqK (fun K1 hK1 => ?_)
  refine C_region ?_
  refine T_k F H (ni 0) ?_
  clear F; intro a F
  refine wpList_nil ?_
  refine hK1 _ _ ?_
  clear hK1
  try clear K1
  refine C_seqK (fun K2 hK2 => ?_)
  refine wp_block ?_
  refine C_seqK (fun K3 hK3 => ?_)
  refine C_region ?_
  refine T_k F H (nw ix) ?_
  clear F; intro a F
  refine T_k F H (nw nx) ?_
  clear F; intro a F
  refine T_val F H kr (.bool false) (fun w _ => R_bin (x := (.tmp 12)) (y := (.tmp 13)) rfl (k := .u32) (a := ((ix : Nat) : Int)) (b := ((nx : Nat) : Int)) kr kr (i_leqd.trans (by rw [decide_eq_false (by omega)])) w) ?_
  clear F; intro a F
  refine T_k F H (.bool false) ?_
  clear F; intro a F
  refine wpList_nil ?_
  refine hK3 _ _ ?_
  clear hK3
  try clear K3
  refine C_if F false rfl rfl ?_
  refine C_seqK (fun K4 hK4 => ?_)
  refine C_region ?_
  refine T_k F H (nw ix) ?_
  clear F; intro a F
  refine T_k F H (nw nx) ?_
  clear F; intro a F
  refine T_val F H kr (nw (ix - nx)) (fun w _ => R_bin (x := (.tmp 16)) (y := (.tmp 17)) rfl (k := .u32) (a := ((ix : Nat) : Int)) (b := ((nx : Nat) : Int)) kr kr (i_subu32 (a := ix) (b := nx) (by omega) (by omega)) w) ?_
  clear F; intro a F
  refine T_val F H kr (.bool false) (fun w _ => R_bin (x := (.tmp 18)) (y := (.const (.int .u32 4))) rfl (k := .u32) (a := (((ix - nx) : Nat) : Int)) (b := ((4 : Nat) : Int)) kr kr (i_geqd.trans (by rw [decide_eq_false (by omega)])) w) ?_
  clear F; intro a F
  refine T_k F H (.bool false) ?_
  clear F; intro a F
  refine wpList_nil ?_
  refine hK4 _ _ ?_
  clear hK4
  try clear K4
  refine C_if F false rfl rfl ?_
  refine wp_skip ?_
  refine hK2 _ _ ?_
  clear hK2
  try clear K2
  refine C_seqK (fun K5 hK5 => ?_)
  refine C_seqK (fun K6 hK6 => ?_)
  refine C_region ?_
  refine T_k F H (pt xb 0) ?_
  clear F; intro a F
  refine T_k F H (pt xb 0) ?_
  clear F; intro a F
  refine T_k F H (pt xb 0) ?_
  clear F; intro a F
  refine T_val F H kr (.map none) (R_cell (own := true) (g := xb) (all := #[.map none, uv]) (t := 28) (fr := (0, 0)) 0 kr 25 (.tmp 23) rfl 0 kr (.map none) kr _ Try.underlying25 rfl) ?_
  clear F; intro a F
  refine T_k F H (nw ix) ?_
  clear F; intro a F
  refine T_val F H kr (.tuple #[.slice none 0 0, .bool false]) (fun w _ => R_lookupN (x := (.tmp 24)) (y := (.tmp 25)) rfl Try.underlying25 Try.underlying29 (fun w => kr) (k := ix) kr kr w) ?_
  clear F; intro a F
  refine T_k F H (.tuple #[.slice none 0 0, .bool false]) ?_
  clear F; intro a F
  refine T_k F H (.slice none 0 0) ?_
  clear F; intro a F
  refine T_k F H (.bool false) ?_
  clear F; intro a F
  refine T_k F H (.slice none 0 0) ?_
  clear F; intro a F
  refine T_k F H (.bool false) ?_
  clear F; intro a F
  refine wpList_nil ?_
  refine hK6 _ _ ?_
  clear hK6
  try clear K6
  refine C_seqK (fun K7 hK7 => ?_)
  refine C_region ?_
  refine T_k F H (.bool false) ?_
  clear F; intro a F
  refine T_k F H (.bool false) ?_
  clear F; intro a F
  refine T_skip F kr kr ?_
  clear F; intro a F
  refine T_skip F kr kr ?_
  clear F; intro a F
  refine T_skip F kr kr ?_
  clear F; intro a F
  refine T_skip F kr kr ?_
  clear F; intro a F
  refine T_k F H (.bool false) ?_
  clear F; intro a F
  refine wpList_nil ?_
  refine hK7 _ _ ?_
  clear hK7
  try clear K7
  refine C_if F false rfl rfl ?_
  refine wp_skip ?_
  refine hK5 _ _ ?_
  clear hK5
  try clear K5
  refine C_seqK (fun K8 hK8 => ?_)
  refine C_seqK (fun K9 hK9 => ?_)
  refine C_region ?_
  refine T_k F H (pt xb 0) ?_
  clear F; intro a F
  refine T_k F H (pt xb 0) ?_
  clear F; intro a F
  refine T_k F H (pt xb 0) ?_
  clear F; intro a F
  refine T_val F H kr (.map none) (R_cell (own := true) (g := xb) (all := #[.map none, uv]) (t := 28) (fr := (0, 0)) 0 kr 25 (.tmp 38) rfl 0 kr (.map none) kr _ Try.underlying25 rfl) ?_
  clear F; intro a F
  refine T_k F H (.bool true) ?_
  clear F; intro a F
  refine wpList_nil ?_
  refine hK9 _ _ ?_
  clear hK9
  try clear K9
  refine C_if F true rfl rfl ?_
  refine C_region ?_
  refine T_k F H (pt xb 0) ?_
  clear F; intro a F
  refine T_new F H kr (fun ad => .map (some ad)) (mpO [] 0) (fun w => kr) ?_
  clear F H; intro mq10 a v F H
  refine T_k F H (pt xb 0) ?_
  clear F; intro a F
  refine T_k F H (pt xb 0) ?_
  clear F; intro a F
  refine T_set F H kr rfl 1 rfl _ (S_cell 1 rfl 25 (.tmp 44) (.tmp 42) rfl 0 kr (.map (some mq10)) kr rfl (Nat.le_of_ble_eq_true rfl) _ Try.underlying25 rfl kr) [⟨true, mq10, mpO [] 0⟩, bk xb #[.map (some mq10), uv] 28] rfl ?_
  clear F H; intro a v F H
  refine wpList_nil ?_
  refine hK8 _ _ ?_
  clear hK8
  try clear K8
  refine C_seqK (fun K11 hK11 => ?_)
  refine E_region F H (fun β => [(45, pt xb 0), (46, pt xb 0), (47, pt xb 0), (48, .map (some mq10)), (49, nw ix), (50, .slice (some bq) l.length bc), (51, sc ((β 6).g) 0 l.length (β 6).cap)]) [45, 46, 47, 48, 49, 50, 51] [⟨some 6, none, 0, [6], fun q_ => ce (sl (oct (l)) (gh q_ 0).rest) 5, fun q_ => Own (oct (l)) (gh q_ 0).rest (l.length) (gh q_ 0).cap 1, []⟩,
    ⟨none, none, mq10, [], fun q_ => mpO [] 0, gT, [⟨7, [6], fun q_ => mpO (mset ix (⟨false, (gh q_ 0).g, (gh q_ 0).cap, (gh q_ 0).rest, l⟩ : Cl) 0 []) (if (mfi ix [] 0).isSome then 0 else 0 + 1), gT⟩]⟩] [bk xb #[.map (some mq10), uv] 28] [0, 1] 2 [] kr kr kr (fun β => rfl) ⟨fun h _ => Bool.noConfusion h, ⟨fun _ _ => trivial, trivial⟩⟩ ⟨?_, ?_, ?_, ?_, ?_, ?_, ?_, ?_, trivial⟩ ?_
  · exact E_k 52 (fun β => pt xb 0) 45 2
  · exact E_k 52 (fun β => pt xb 0) 46 2
  · exact E_k 52 (fun β => pt xb 0) 47 2
  · exact E_v 52 (fun β => .map (some mq10)) 48 2 [] (fun β w hk hl hq => R_cellH hl (own := true) (g := xb) (all := #[.map (some mq10), uv]) (t := 28) (fr := (0, 0)) 0 kr 25 (.tmp 47) rfl 0 kr (.map (some mq10)) kr _ Try.underlying25 rfl)
  · exact E_k 52 (fun β => nw ix) 49 2
  · exact E_k 52 (fun β => .slice (some bq) l.length bc) 50 2
  · exact E_callS 52 kq (fun β => sc ((β 6).g) 0 l.length (β 6).cap) 51 rfl kq 2 (fun β r => offAt2_of kr kr) 29 (fun β => #[.slice (some bq) l.length bc]) (fun β w => kr) 2 [] 0 _ rfl kr kr rfl (fun β w hk hl hq => clone_some bq l.length bc l rfl hbig _ ((hb _ hk).rds rfl))
  · exact E_store 52 kq rfl 2 [] 1 0 _ _ rfl rfl kr rfl (fun _ => trivial) (fun β w hk hl hq hm => let ⟨w', h1, h2, h3⟩ := P_update (x := (.tmp 48)) (y := (.tmp 49)) (z := (.tmp 51)) rfl Try.underlying25 Try.underlying29 (k := ix) (M := []) (clock := 0) (⟨false, (β 6).g, (β 6).cap, (β 6).rest, l⟩ : Cl) kr kr kr hm; ⟨w', h1, h2, h3⟩)
  clear F H; intro β a v Q F H
  replace H : Hp [xb] w [bk ((β 6).g) (sl (oct (l)) (β 6).rest) 5, ⟨true, mq10, mpO (mset ix (⟨false, (β 6).g, (β 6).cap, (β 6).rest, l⟩ : Cl) 0 []) (if (mfi ix [] 0).isSome then 0 else 0 + 1)⟩, bk xb #[.map (some mq10), uv] 28] v := H
  replace F : Fm 52 [] [(51, sc ((β 6).g) 0 l.length (β 6).cap), (50, .slice (some bq) l.length bc), (49, nw ix), (48, .map (some mq10)), (47, pt xb 0), (46, pt xb 0), (45, pt xb 0), (44, pt xb 0), (43, pt xb 0), (42, .map (some mq10)), (41, pt xb 0), (40, .bool true), (39, .map none), (38, pt xb 0), (37, pt xb 0), (36, pt xb 0), (35, .bool false), (34, undef), (33, undef), (32, undef), (31, undef), (30, .bool false), (29, .bool false), (10, .bool false), (9, .slice none 0 0), (28, .bool false), (27, .slice none 0 0), (20, .tuple #[.slice none 0 0, .bool false]), (26, .tuple #[.slice none 0 0, .bool false]), (25, nw ix), (24, .map none), (23, pt xb 0), (22, pt xb 0), (21, pt xb 0), (15, .bool false), (19, .bool false), (18, nw (ix - nx)), (17, nw nx), (16, nw ix), (11, .bool false), (14, .bool false), (13, nw nx), (12, nw ix), (8, ni 0), (0, pt xb 0), (1, nw nx), (2, nw ix), (3, .slice (some bq) l.length bc)] a := F.weak _ (subL_of kr)
  have Qh12_0 : Own (oct (l)) (β 6).rest (l.length) (β 6).cap 1 := Q.1
  clear Q
  generalize β 6 = rq12 at F H Qh12_0
  skip
  refine ?_
  refine hK11 _ _ ?_
  clear hK11
  try clear K11
  refine C_seqK (fun K13 hK13 => ?_)
  refine C_region ?_
  refine T_k F H (ni 0) ?_
  clear F; intro a F
  refine wpList_nil ?_
  refine hK13 _ _ ?_
  clear hK13
  try clear K13
  refine wp_ret ?_
  exact C_ret F H (rs := [.tmp 8]) rfl (vs := [ni 0]) (.tmp rfl .nil) (ni 0) rfl ⟨mq10, ⟨false, rq12.g, rq12.cap, rq12.rest, l⟩, rfl, rfl, ⟨hbig, (fun e => by cases e), fun _ => Qh12_0⟩, H.pick [2, 1, 0] kr _ rfl⟩

set_option maxRecDepth 100000 in
set_option maxHeartbeats 4000000 in
theorem hold_add_nil (xb nx ix mb clock : Nat) (M : List MEn) (uv : Value) (h : nx < ix) (h4 : ix - nx < 4) (hix : ix < 4294967296) (hq : mfi ix M 0 = none) (w : World) (hx : w.heap[xb]? = some (.cells #[.map (some mb), uv] 28 (0, 0))) (hm0 : w.heap[mb]? = some (mpO M clock)) (hne : mb ≠ xb) : Calls Try.prog 20 #[.pointer (some ⟨xb, 0, none⟩), .int .u32 ((nx : Nat) : Int), .int .u32 ((ix : Nat) : Int), .slice none 0 0] w fun e w' => ∃ c : Cl, e = .returned (.int .i64 0) ∧ c.l = [] ∧ c.ok ∧ Hp [mb] w (⟨true, mb, mpO (mset ix c clock M) (clock + 1)⟩ :: c.blks) w' := by
  refine C_enter Try.func20 rfl 52 Try.ntmps20 (Nat.le_of_ble_eq_true rfl) (fun a F => ?_)
  have H : Hp [mb] w [⟨true, mb, mpO M clock⟩, br xb #[.map (some mb), uv] 28] w := Hp.startWR hm0 hx hne
  replace F : Fm 52 [] [(0, pt xb 0), (1, nw nx), (2, nw ix), (3, .slice none 0 0)] a := F.weak _ (subL_of kr)
  refine C_seqK (fun K1 hK1 => ?_)
  refine C_region ?_
  refine T_k F H (ni 0) ?_
  clear F; intro a F
  refine wpList_nil ?_
  refine hK1 _ _ ?_
  clear hK1
  try clear K1
  refine C_seqK (fun K2 hK2 => ?_)
  refine wp_block ?_
  refine C_seqK (fun K3 hK3 => ?_)
  refine C_region ?_
  refine T_k F H (nw ix) ?_
  clear F; intro a F
  refine T_k F H (nw nx) ?_
  clear F; intro a F
  refine T_val F H kr (.bool false) (fun w _ => R_bin (x := (.tmp 12)) (y := (.tmp 13)) rfl (k := .u32) (a := ((ix : Nat) : Int)) (b := ((nx : Nat) : Int)) kr kr (i_leqd.trans (by rw [decide_eq_false (by omega)])) w) ?_
  clear F; intro a F
  refine T_k F H (.bool false) ?_
  clear F; intro a F
  refine wpList_nil ?_
  refine hK3 _ _ ?_
  clear hK3
  try clear K3
  refine C_if F false rfl rfl ?_
  refine C_seqK (fun K4 hK4 => ?_)
  refine C_region ?_
  refine T_k F H (nw ix) ?_
  clear F; intro a F
  refine T_k F H (nw nx) ?_
  clear F; intro a F
  refine T_val F H kr (nw (ix - nx)) (fun w _ => R_bin (x := (.tmp 16)) (y := (.tmp 17)) rfl (k := .u32) (a := ((ix : Nat) : Int)) (b := ((nx : Nat) : Int)) kr kr (i_subu32 (a := ix) (b := nx) (by omega) (by omega)) w) ?_
  clear F; intro a F
  refine T_val F H kr (.bool false) (fun w _ => R_bin (x := (.tmp 18)) (y := (.const (.int .u32 4))) rfl (k := .u32) (a := (((ix - nx) : Nat) : Int)) (b := ((4 : Nat) : Int)) kr kr (i_geqd.trans (by rw [decide_eq_false (by omega)])) w) ?_
  clear F; intro a F
  refine T_k F H (.bool false) ?_
  clear F; intro a F
  refine wpList_nil ?_
  refine hK4 _ _ ?_
  clear hK4
  try clear K4
  refine C_if F false rfl rfl ?_
  refine wp_skip ?_
  refine hK2 _ _ ?_
  clear hK2
  try clear K2
  refine C_seqK (fun K5 hK5 => ?_)
  refine C_seqK (fun K6 hK6 => ?_)
  refine C_region ?_
  refine T_k F H (pt xb 0) ?_
  clear F; intro a F
  refine T_k F H (pt xb 0) ?_
  clear F; intro a F
  refine T_k F H (pt xb 0) ?_
  clear F; intro a F
  refine T_val F H kr (.map (some mb)) (R_cell (own := false) (g := xb) (all := #[.map (some mb), uv]) (t := 28) (fr := (0, 0)) 1 kr 25 (.tmp 23) rfl 0 kr (.map (some mb)) kr _ Try.underlying25 rfl) ?_
  clear F; intro a F
  refine T_k F H (nw ix) ?_
  clear F; intro a F
  refine T_val F H kr (.tuple #[.slice none 0 0, .bool false]) (fun w hl => (R_lookup (x := (.tmp 24)) (y := (.tmp 25)) rfl Try.underlying25 Try.underlying29 (fun w => kr) (k := ix) kr kr (hl.at_ (k := 0) rfl)).trans (by rw [hq]; rfl)) ?_
  clear F; intro a F
  refine T_k F H (.tuple #[.slice none 0 0, .bool false]) ?_
  clear F; intro a F
  refine T_k F H (.slice none 0 0) ?_
  clear F; intro a F
  refine T_k F H (.bool false) ?_
  clear F; intro a F
  refine T_k F H (.slice none 0 0) ?_
  clear F; intro a F
  refine T_k F H (.bool false) ?_
  clear F; intro a F
  refine wpList_nil ?_
  refine hK6 _ _ ?_
  clear hK6
  try clear K6
  refine C_seqK (fun K7 hK7 => ?_)
  refine C_region ?_
  refine T_k F H (.bool false) ?_
  clear F; intro a F
  refine T_k F H (.bool false) ?_
  clear F; intro a F
  refine T_skip F kr kr ?_
  clear F; intro a F
  refine T_skip F kr kr ?_
  clear F; intro a F
  refine T_skip F kr kr ?_
  clear F; intro a F
  refine T_skip F kr kr ?_
  clear F; intro a F
  refine T_k F H (.bool false) ?_
  clear F; intro a F
  refine wpList_nil ?_
  refine hK7 _ _ ?_
  clear hK7
  try clear K7
  refine C_if F false rfl rfl ?_
  refine wp_skip ?_
  refine hK5 _ _ ?_
  clear hK5
  try clear K5
  refine C_seqK (fun K8 hK8 => ?_)
  refine C_seqK (fun K9 hK9 => ?_)
  refine C_region ?_
  refine T_k F H (pt xb 0) ?_
  clear F; intro a F
  refine T_k F H (pt xb 0) ?_
  clear F; intro a F
  refine T_k F H (pt xb 0) ?_
  clear F; intro a F
  refine T_val F H kr (.map (some mb)) (R_cell (own := false) (g := xb) (all := #[.map (some mb), uv]) (t := 28) (fr := (0, 0)) 1 kr 25 (.tmp 38) rfl 0 kr (.map (some mb)) kr _ Try.underlying25 rfl) ?_
  clear F; intro a F
  refine T_k F H (.bool false) ?_
  clear F; intro a F
  refine wpList_nil ?_
  refine hK9 _ _ ?_
  clear hK9
  try clear K9
  refine C_if F false rfl rfl ?_
  refine wp_skip ?_
  refine hK8 _ _ ?_
  clear hK8
  try clear K8
  refine C_seqK (fun K10 hK10 => ?_)
  refine E_region F H (fun β => [(45, pt xb 0), (46, pt xb 0), (47, pt xb 0), (48, .map (some mb)), (49, nw ix), (50, .slice none 0 0), (51, .slice none 0 0)]) [45, 46, 47, 48, 49, 50, 51] [⟨none, none, mb, [], fun q_ => mpO M clock, gT, [⟨7, [], fun q_ => mpO (mset ix (⟨true, 0, 0, [], []⟩ : Cl) clock M) (if (mfi ix M 0).isSome then clock else clock + 1), gT⟩]⟩] [br xb #[.map (some mb), uv] 28] [0, 1] 2 [] kr kr kr (fun β => rfl) ⟨fun _ _ => trivial, trivial⟩ ⟨?_, ?_, ?_, ?_, ?_, ?_, ?_, ?_, trivial⟩ ?_
  · exact E_k 52 (fun β => pt xb 0) 45 2
  · exact E_k 52 (fun β => pt xb 0) 46 2
  · exact E_k 52 (fun β => pt xb 0) 47 2
  · exact E_v 52 (fun β => .map (some mb)) 48 2 [] (fun β w hk hl hq => R_cellH hl (own := false) (g := xb) (all := #[.map (some mb), uv]) (t := 28) (fr := (0, 0)) 0 kr 25 (.tmp 47) rfl 0 kr (.map (some mb)) kr _ Try.underlying25 rfl)
  · exact E_k 52 (fun β => nw ix) 49 2
  · exact E_k 52 (fun β => .slice none 0 0) 50 2
  · exact E_call 52 kq (fun β => .slice none 0 0) 51 rfl kq 29 (fun β => #[.slice none 0 0]) (fun β w => kr) 2 [] kr rfl (fun β w hk hl hq => clone_nil _)
  · exact E_store 52 kq rfl 2 [] 0 0 _ _ rfl rfl kr rfl (fun _ => trivial) (fun β w hk hl hq hm => let ⟨w', h1, h2, h3⟩ := P_update (x := (.tmp 48)) (y := (.tmp 49)) (z := (.tmp 51)) rfl Try.underlying25 Try.underlying29 (k := ix) (M := M) (clock := clock) (⟨true, 0, 0, [], []⟩ : Cl) kr kr kr hm; ⟨w', h1, h2, h3⟩)
  clear F H; intro β a v Q F H
  replace H : Hp [mb] w [⟨true, mb, mpO (mset ix (⟨true, 0, 0, [], []⟩ : Cl) clock M) (if (mfi ix M 0).isSome then clock else clock + 1)⟩, br xb #[.map (some mb), uv] 28] v := H
  replace F : Fm 52 [] [(51, .slice none 0 0), (50, .slice none 0 0), (49, nw ix), (48, .map (some mb)), (47, pt xb 0), (46, pt xb 0), (45, pt xb 0), (40, .bool false), (39, .map (some mb)), (38, pt xb 0), (37, pt xb 0), (36, pt xb 0), (35, .bool false), (34, undef), (33, undef), (32, undef), (31, undef), (30, .bool false), (29, .bool false), (10, .bool false), (9, .slice none 0 0), (28, .bool false), (27, .slice none 0 0), (20, .tuple #[.slice none 0 0, .bool false]), (26, .tuple #[.slice none 0 0, .bool false]), (25, nw ix), (24, .map (some mb)), (23, pt xb 0), (22, pt xb 0), (21, pt xb 0), (15, .bool false), (19, .bool false), (18, nw (ix - nx)), (17, nw nx), (16, nw ix), (11, .bool false), (14, .bool false), (13, nw nx), (12, nw ix), (8, ni 0), (0, pt xb 0), (1, nw nx), (2, nw ix), (3, .slice none 0 0)] a := F.weak _ (subL_of kr)
  clear Q
  refine ?_
  refine hK10 _ _ ?_
  clear hK10
  try clear K10
  refine C_seqK (fun K11 hK11 => ?_)
  refine C_region ?_
  refine T_k F H (ni 0) ?_
  clear F; intro a F
  refine wpList_nil ?_
  refine hK11 _ _ ?_
  clear hK11
  try clear K11
  refine wp_ret ?_
  exact C_ret F H (rs := [.tmp 8]) rfl (vs := [ni 0]) (.tmp rfl .nil) (ni 0) rfl ⟨⟨true, 0, 0, [], []⟩, rfl, rfl, ⟨Nat.zero_le _, fun _ => rfl, fun e => by cases e⟩, by rw [hq] at H; exact H.pick [0] kr _ rfl⟩

set_option maxRecDepth 100000 in
set_option maxHeartbeats 4000000 in
theorem hold_add_some (xb nx ix mb clock : Nat) (M : List MEn) (uv : Value) (h : nx < ix) (h4 : ix - nx < 4) (hix : ix < 4294967296) (hq : mfi ix M 0 = none) (bq : Addr) (bc : Nat) (l : List Nat) (hbig : l.length ≤ 140737488355328) (w : World) (hx : w.heap[xb]? = some (.cells #[.map (some mb), uv] 28 (0, 0))) (hm0 : w.heap[mb]? = some (mpO M clock)) (hne : mb ≠ xb) (hb : Sv.RdK [mb] w ⟨some bq, bc, l⟩) : Calls Try.prog 20 #[.pointer (some ⟨xb, 0, none⟩), .int .u32 ((nx : Nat) : Int), .int .u32 ((ix : Nat) : Int), .slice (some bq) l.length bc] w fun e w' => ∃ c : Cl, e = .returned (.int .i64 0) ∧ c.l = l ∧ c.ok ∧ Hp [mb] w (⟨true, mb, mpO (mset ix c clock M) (clock + 1)⟩ :: c.blks) w' := by
  refine C_enter Try.func20 rfl 52 Try.ntmps20 (Nat.le_of_ble_eq_true rfl) (fun a F => ?_)
  have H : Hp [mb] w [⟨true, mb, mpO M clock⟩, br xb #[.map (some mb), uv] 28] w := Hp.startWR hm0 hx hne
  replace F : Fm 52 [] [(0, pt xb 0), (1, nw nx), (2, nw ix), (3, .slice (some bq) l.length bc)] a := F.weak _ (subL_of kr)
  refine C_seqK (fun K1 hK1 => ?_)
  refine C_region ?_
  refine T_k F H (ni 0) ?_
  clear F; intro a F
  refine wpList_nil ?_
  refine hK1 _ _ ?_
  clear hK1
  try clear K1
  refine C_seqK (fun K2 hK2 => ?_)
  refine wp_block ?_
  refine C_seqK (fun K3 hK3 => ?_)
  refine C_region ?_
  refine T_k F H (nw ix) ?_
  clear F; intro a F
  refine T_k F H (nw nx) ?_
  clear F; intro a F
  refine T_val F H kr (.bool false) (fun w _ => R_bin (x := (.tmp 12)) (y := (.tmp 13)) rfl (k := .u32) (a := ((ix : Nat) : Int)) (b := ((nx : Nat) : Int)) kr kr (i_leqd.trans (by rw [decide_eq_false (by omega)])) w) ?_
  clear F; intro a F
  refine T_k F H (.bool false) ?_
  clear F; intro a F
  refine wpList_nil ?_
  refine hK3 _ _ ?_
  clear hK3
  try clear K3
  refine C_if F false rfl rfl ?_
  refine C_seqK (fun K4 hK4 => ?_)
  refine C_region ?_
  refine T_k F H (nw ix) ?_
  clear F; intro a F
  refine T_k F H (nw nx) ?_
  clear F; intro a F
  refine T_val F H kr (nw (ix - nx)) (fun w _ => R_bin (x := (.tmp 16)) (y := (.tmp 17)) rfl (k := .u32) (a := ((ix : Nat) : Int)) (b := ((nx : Nat) : Int)) kr kr (i_subu32 (a := ix) (b := nx) (by omega) (by omega)) w) ?_
  clear F; intro a F
  refine T_val F H kr (.bool false) (fun w _ => R_bin (x := (.tmp 18)) (y := (.const (.int .u32 4))) rfl (k := .u32) (a := (((ix - nx) : Nat) : Int)) (b := ((4 : Nat) : Int)) kr kr (i_geqd.trans (by rw [decide_eq_false (by omega)])) w) ?_
  clear F; intro a F
  refine T_k F H (.bool false) ?_
  clear F; intro a F
  refine wpList_nil ?_
  refine hK4 _ _ ?_
  clear hK4
  try clear K4
  refine C_if F false rfl rfl ?_
  refine wp_skip ?_
  refine hK2 _ _ ?_
  clear hK2
  try clear K2
  refine C_seqK (fun K5 hK5 => ?_)
  refine C_seqK (fun K6 hK6 => ?_)
  refine C_region ?_
  refine T_k F H (pt xb 0) ?_
  clear F; intro a F
  refine T_k F H (pt xb 0) ?_
  clear F; intro a F
  refine T_k F H (pt xb 0) ?_
  clear F; intro a F
  refine T_val F H kr (.map (some mb)) (R_cell (own := false) (g := xb) (all := #[.map (some mb), uv]) (t := 28) (fr := (0, 0)) 1 kr 25 (.tmp 23) rfl 0 kr (.map (some mb)) kr _ Try.underlying25 rfl) ?_
  clear F; intro a F
  refine T_k F H (nw ix) ?_
  clear F; intro a F
  refine T_val F H kr (.tuple #[.slice none 0 0, .bool false]) (fun w hl => (R_lookup (x := (.tmp 24)) (y := (.tmp 25)) rfl Try.underlying25 Try.underlying29 (fun w => kr) (k := ix) kr kr (hl.at_ (k := 0) rfl)).trans (by rw [hq]; rfl)) ?_
  clear F; intro a F
  refine T_k F H (.tuple #[.slice none 0 0, .bool false]) ?_
  clear F; intro a F
  refine T_k F H (.slice none 0 0) ?_
  clear F; intro a F
  refine T_k F H (.bool false) ?_
  clear F; intro a F
  refine T_k F H (.slice none 0 0) ?_
  clear F; intro a F
  refine T_k F H (.bool false) ?_
  clear F; intro a F
  refine wpList_nil ?_
  refine hK6 _ _ ?_
  clear hK6
  try clear K6
  refine C_seqK (fun K7 hK7 => ?_)
  refine C_region ?_
  refine T_k F H (.bool false) ?_
  clear F; intro a F
  refine T_k F H (.bool false) ?_
  clear F; intro a F
  refine T_skip F kr kr ?_
  clear F; intro a F
  refine T_skip F kr kr ?_
  clear F; intro a F
  refine T_skip F kr kr ?_
  clear F; intro a F
  refine T_skip F kr kr ?_
  clear F; intro a F
  refine T_k F H (.bool false) ?_
  clear F; intro a F
  refine wpList_nil ?_
  refine hK7 _ _ ?_
  clear hK7
  try clear K7
  refine C_if F false rfl rfl ?_
  refine wp_skip ?_
  refine hK5 _ _ ?_
  clear hK5
  try clear K5
  refine C_seqK (fun K8 hK8 => ?_)
  refine C_seqK (fun K9 hK9 => ?_)
  refine C_region ?_
  refine T_k F H (pt xb 0) ?_
  clear F; intro a F
  refine T_k F H (pt xb 0) ?_
  clear F; intro a F
  refine T_k F H (pt xb 0) ?_
  clear F; intro a F
  refine T_val F H kr (.map (some mb)) (R_cell (own := false) (g := xb) (all := #[.map (some mb), uv]) (t := 28) (fr := (0, 0)) 1 kr 25 (.tmp 38) rfl 0 kr (.map (some mb)) kr _ Try.underlying25 rfl) ?_
  clear F; intro a F
  refine T_k F H (.bool false) ?_
  clear F; intro a F
  refine wpList_nil ?_
  refine hK9 _ _ ?_
  clear hK9
  try clear K9
  refine C_if F false rfl rfl ?_
  refine wp_skip ?_
  refine hK8 _ _ ?_
  clear hK8
  try clear K8
  refine C_seqK (fun K10 hK10 => ?_)
  refine E_region F H (fun β => [(45, pt xb 0), (46, pt xb 0), (47, pt xb 0), (48, .map (some mb)), (49, nw ix), (50, .slice (some bq) l.length bc), (51, sc ((β 6).g) 0 l.length (β 6).cap)]) [45, 46, 47, 48, 49, 50, 51] [⟨some 6, none, 0, [6], fun q_ => ce (sl (oct (l)) (gh q_ 0).rest) 5, fun q_ => Own (oct (l)) (gh q_ 0).rest (l.length) (gh q_ 0).cap 1, []⟩,
    ⟨none, none, mb, [], fun q_ => mpO M clock, gT, [⟨7, [6], fun q_ => mpO (mset ix (⟨false, (gh q_ 0).g, (gh q_ 0).cap, (gh q_ 0).rest, l⟩ : Cl) clock M) (if (mfi ix M 0).isSome then clock else clock + 1), gT⟩]⟩] [br xb #[.map (some mb), uv] 28] [0, 1] 2 [] kr kr kr (fun β => rfl) ⟨fun h _ => Bool.noConfusion h, ⟨fun _ _ => trivial, trivial⟩⟩ ⟨?_, ?_, ?_, ?_, ?_, ?_, ?_, ?_, trivial⟩ ?_
  · exact E_k 52 (fun β => pt xb 0) 45 2
  · exact E_k 52 (fun β => pt xb 0) 46 2
  · exact E_k 52 (fun β => pt xb 0) 47 2
  · exact E_v 52 (fun β => .map (some mb)) 48 2 [] (fun β w hk hl hq => R_cellH hl (own := false) (g := xb) (all := #[.map (some mb), uv]) (t := 28) (fr := (0, 0)) 0 kr 25 (.tmp 47) rfl 0 kr (.map (some mb)) kr _ Try.underlying25 rfl)
  · exact E_k 52 (fun β => nw ix) 49 2
  · exact E_k 52 (fun β => .slice (some bq) l.length bc) 50 2
  · exact E_callS 52 kq (fun β => sc ((β 6).g) 0 l.length (β 6).cap) 51 rfl kq 2 (fun β r => offAt2_of kr kr) 29 (fun β => #[.slice (some bq) l.length bc]) (fun β w => kr) 2 [] 0 _ rfl kr kr rfl (fun β w hk hl hq => clone_some bq l.length bc l rfl hbig _ ((hb _ hk).rds rfl))
  · exact E_store 52 kq rfl 2 [] 1 0 _ _ rfl rfl kr rfl (fun _ => trivial) (fun β w hk hl hq hm => let ⟨w', h1, h2, h3⟩ := P_update (x := (.tmp 48)) (y := (.tmp 49)) (z := (.tmp 51)) rfl Try.underlying25 Try.underlying29 (k := ix) (M := M) (clock := clock) (⟨false, (β 6).g, (β 6).cap, (β 6).rest, l⟩ : Cl) kr kr kr hm; ⟨w', h1, h2, h3⟩)
  clear F H; intro β a v Q F H
  replace H : Hp [mb] w [bk ((β 6).g) (sl (oct (l)) (β 6).rest) 5, ⟨true, mb, mpO (mset ix (⟨false, (β 6).g, (β 6).cap, (β 6).rest, l⟩ : Cl) clock M) (if (mfi ix M 0).isSome then clock else clock + 1)⟩, br xb #[.map (some mb), uv] 28] v := H
  replace F : Fm 52 [] [(51, sc ((β 6).g) 0 l.length (β 6).cap), (50, .slice (some bq) l.length bc), (49, nw ix), (48, .map (some mb)), (47, pt xb 0), (46, pt xb 0), (45, pt xb 0), (40, .bool false), (39, .map (some mb)), (38, pt xb 0), (37, pt xb 0), (36, pt xb 0), (35, .bool false), (34, undef), (33, undef), (32, undef), (31, undef), (30, .bool false), (29, .bool false), (10, .bool false), (9, .slice none 0 0), (28, .bool false), (27, .slice none 0 0), (20, .tuple #[.slice none 0 0, .bool false]), (26, .tuple #[.slice none 0 0, .bool false]), (25, nw ix), (24, .map (some mb)), (23, pt xb 0), (22, pt xb 0), (21, pt xb 0), (15, .bool false), (19, .bool false), (18, nw (ix - nx)), (17, nw nx), (16, nw ix), (11, .bool false), (14, .bool false), (13, nw nx), (12, nw ix), (8, ni 0), (0, pt xb 0), (1, nw nx), (2, nw ix), (3, .slice (some bq) l.length bc)] a := F.weak _ (subL_of kr)
  have Qh11_0 : Own (oct (l)) (β 6).rest (l.length) (β 6).cap 1 := Q.1
  clear Q
  generalize β 6 = rq11 at F H Qh11_0
  skip
  refine ?_
  refine hK10 _ _ ?_
  clear hK10
  try clear K10
  refine C_seqK (fun K12 hK12 => ?_)
  refine C_region ?_
  refine T_k F H (ni 0) ?_
  clear F; intro a F
  refine wpList_nil ?_
  refine hK12 _ _ ?_
  clear hK12
  try clear K12
  refine wp_ret ?_
  exact C_ret F H (rs := [.tmp 8]) rfl (vs := [ni 0]) (.tmp rfl .nil) (ni 0) rfl ⟨⟨false, rq11.g, rq11.cap, rq11.rest, l⟩, rfl, rfl, ⟨hbig, (fun e => by cases e), fun _ => Qh11_0⟩, by rw [hq] at H; exact H.pick [1, 0] kr _ rfl⟩

set_option maxRecDepth 100000 in
set_option maxHeartbeats 4000000 in
theorem turn_nil (xb nx : Nat) (uv : Value) (w : World) (hx : w.heap[xb]? = some (.cells #[.map none, uv] 28 (0, 0))) : Calls Try.prog 21 #[.pointer (some ⟨xb, 0, none⟩), .int .u32 ((nx : Nat) : Int)] w fun e w' => e = .returned (.tuple #[.slice none 0 0, .bool false]) ∧ Kept [] w w' := by
  refine C_enter Try.func21 rfl 42 Try.ntmps21 (Nat.le_of_ble_eq_true rfl) (fun a F => ?_)
  have H := Hp.start1 [] hx
  replace F : Fm 42 [] [(0, pt xb 0), (1, nw nx)] a := F.weak _ (subL_of kr)
  refine C_seqK (fun K1 hK1 => ?_)
  refine C_region ?_
  refine T_k F H (.slice none 0 0) ?_
  clear F; intro a F
  refine T_k F H (.bool false) ?_
  clear F; intro a F
  refine wpList_nil ?_
  refine hK1 _ _ ?_
  clear hK1
  try clear K1
  refine C_seqK (fun K2 hK2 => ?_)
  refine C_seqK (fun K3 hK3 => ?_)
  refine C_region ?_
  refine T_k F H (pt xb 0) ?_
  clear F; intro a F
  refine T_k F H (pt xb 0) ?_
  clear F; intro a F
  refine T_k F H (pt xb 0) ?_
  clear F; intro a F
  refine T_val F H kr (.map none) (R_cell  0 rfl 25 (.tmp 11) rfl 0 kr (.map none) kr _ Try.underlying25 rfl) ?_
  clear F; intro a F
  refine T_new F H kr (fun ad => pt ad 0) (.mapIter none 0 #[] 0) (fun w => R_rangeN (x := (.tmp 12)) rfl Try.underlying25 kr w) ?_
  clear F H; intro it4 a v F H
  generalize it4 = it at F H
  refine wpList_nil ?_
  refine hK3 _ _ ?_
  clear hK3
  try clear K3
  replace F : Fm 42 [] [(13, pt it 0), (0, pt xb 0), (1, nw nx)] a := F.weak _ (subL_of kr)
  refine wp_block ?_
  refine C_loop (fun m a v => Fm 42 [] [(13, pt it 0), (0, pt xb 0), (1, nw nx)] a ∧ Hp [] w [⟨true, it, .mapIter none 0 #[] 0⟩, br xb #[.map none, uv] 28] v) 0 ⟨F, H⟩ ?_
  clear F H
  intro m a v ⟨F, H⟩
  refine C_seqK (fun K5 hK5 => ?_)
  refine C_region ?_
  refine T_val F H kr (.tuple #[.bool false]) (fun w hl => R_nextN (x := (.tmp 13)) rfl kr (hl.at_ (k := 0) rfl)) ?_
  clear F; intro a F
  refine T_k F H (.bool false) ?_
  clear F; intro a F
  refine wpList_nil ?_
  refine hK5 _ _ ?_
  clear hK5
  try clear K5
  refine C_seqK (fun K6 hK6 => ?_)
  refine C_if F false rfl rfl ?_
  refine wp_exit ?_
  refine hK2 _ _ ?_
  clear hK2
  try clear K2
  refine C_seqK (fun K7 hK7 => ?_)
  refine C_region ?_
  refine T_k F H (pt xb 0) ?_
  clear F; intro a F
  refine T_k F H (pt xb 0) ?_
  clear F; intro a F
  refine T_k F H (pt xb 0) ?_
  clear F; intro a F
  refine T_val F H kr (.map none) (R_cell  1 rfl 25 (.tmp 29) rfl 0 kr (.map none) kr _ Try.underlying25 rfl) ?_
  clear F; intro a F
  refine T_k F H (nw nx) ?_
  clear F; intro a F
  refine T_val F H kr (.tuple #[.slice none 0 0, .bool false]) (fun w _ => R_lookupN (x := (.tmp 30)) (y := (.tmp 31)) rfl Try.underlying25 Try.underlying29 (fun w => kr) (k := nx) kr kr w) ?_
  clear F; intro a F
  refine T_k F H (.tuple #[.slice none 0 0, .bool false]) ?_
  clear F; intro a F
  refine T_k F H (.slice none 0 0) ?_
  clear F; intro a F
  refine T_k F H (.bool false) ?_
  clear F; intro a F
  refine T_k F H (.slice none 0 0) ?_
  clear F; intro a F
  refine T_k F H (.bool false) ?_
  clear F; intro a F
  refine wpList_nil ?_
  refine hK7 _ _ ?_
  clear hK7
  try clear K7
  refine C_seqK (fun K8 hK8 => ?_)
  refine C_region ?_
  refine T_k F H (pt xb 0) ?_
  clear F; intro a F
  refine T_k F H (pt xb 0) ?_
  clear F; intro a F
  refine T_k F H (pt xb 0) ?_
  clear F; intro a F
  refine T_val F H kr (.map none) (R_cell  1 rfl 25 (.tmp 37) rfl 0 kr (.map none) kr _ Try.underlying25 rfl) ?_
  clear F; intro a F
  refine T_k F H (nw nx) ?_
  clear F; intro a F
  refine T_val F H kr (.tuple #[]) (fun w _ => R_deleteN (x := (.tmp 38)) (y := (.tmp 39)) rfl Try.underlying25 Try.underlying29 (k := nx) kr kr w) ?_
  clear F; intro a F
  refine wpList_nil ?_
  refine hK8 _ _ ?_
  clear hK8
  try clear K8
  refine C_seqK (fun K9 hK9 => ?_)
  refine C_region ?_
  refine T_k F H (.slice none 0 0) ?_
  clear F; intro a F
  refine T_k F H (.bool false) ?_
  clear F; intro a F
  refine T_k F H (.slice none 0 0) ?_
  clear F; intro a F
  refine T_k F H (.bool false) ?_
  clear F; intro a F
  refine wpList_nil ?_
  refine hK9 _ _ ?_
  clear hK9
  try clear K9
  refine wp_ret ?_
  exact C_ret F H (rs := [.tmp 4, .tmp 5]) rfl (vs := [.slice none 0 0, .bool false]) (.tmp rfl (.tmp rfl .nil)) (.tuple #[.slice none 0 0, .bool false]) rfl ⟨rfl, H.kept⟩

set_option maxRecDepth 100000 in
set_option maxHeartbeats 4000000 in
theorem turn_none (xb nx mb clock : Nat) (M : List MEn) (uv : Value) (hM : MOK M clock) (hq : mfi nx (M.filter fun m => !decide (m.k < nx)) 0 = none) (w : World) (hx : w.heap[xb]? = some (.cells #[.map (some mb), uv] 28 (0, 0))) (hm0 : w.heap[mb]? = some (mpO M clock)) (hne : mb ≠ xb) : Calls Try.prog 21 #[.pointer (some ⟨xb, 0, none⟩), .int .u32 ((nx : Nat) : Int)] w fun e w' => e = .returned (.tuple #[.slice none 0 0, .bool false]) ∧ Hp [mb] w [⟨true, mb, mpO (M.filter fun m => decide (nx < m.k)) clock⟩] w' := by
  refine C_enter Try.func21 rfl 42 Try.ntmps21 (Nat.le_of_ble_eq_true rfl) (fun a F => ?_)
  have H : Hp [mb] w [⟨true, mb, mpO M clock⟩, br xb #[.map (some mb), uv] 28] w := Hp.startWR hm0 hx hne
  replace F : Fm 42 [] [(0, pt xb 0), (1, nw nx)] a := F.weak _ (subL_of kr)
  refine C_seqK (fun K1 hK1 => ?_)
  refine C_region ?_
  refine T_k F H (.slice none 0 0) ?_
  clear F; intro a F
  refine T_k F H (.bool false) ?_
  clear F; intro a F
  refine wpList_nil ?_
  refine hK1 _ _ ?_
  clear hK1
  try clear K1
  refine C_seqK (fun K2 hK2 => ?_)
  refine C_seqK (fun K3 hK3 => ?_)
  refine C_region ?_
  refine T_k F H (pt xb 0) ?_
  clear F; intro a F
  refine T_k F H (pt xb 0) ?_
  clear F; intro a F
  refine T_k F H (pt xb 0) ?_
  clear F; intro a F
  refine T_val F H kr (.map (some mb)) (R_cell (own := false) (g := xb) (all := #[.map (some mb), uv]) (t := 28) (fr := (0, 0)) 1 kr 25 (.tmp 11) rfl 0 kr (.map (some mb)) kr _ Try.underlying25 rfl) ?_
  clear F; intro a F
  refine T_newH F H kr (fun ad => pt ad 0) (.mapIter (some mb) clock #[] clock) (fun w hl => R_range (x := (.tmp 12)) rfl Try.underlying25 kr (hl.at_ (k := 0) rfl)) ?_
  clear F H; intro it4 a v F H
  generalize it4 = it at F H
  refine wpList_nil ?_
  refine hK3 _ _ ?_
  clear hK3
  try clear K3
  replace F : Fm 42 [] [(13, pt it 0), (0, pt xb 0), (1, nw nx)] a := F.weak _ (subL_of kr)
  refine wp_block ?_
  refine C_loop (fun m a v => ∃ seen : Array Nat, cntv M seen = m ∧ Fm 42 [] [(13, pt it 0), (0, pt xb 0), (1, nw nx)] a ∧ Hp [mb] w [⟨true, it, .mapIter (some mb) clock seen clock⟩, ⟨true, mb, mpO (tlv nx M seen) clock⟩, br xb #[.map (some mb), uv] 28] v) (cntv M #[]) ⟨#[], rfl, F, by rw [tlv_nil]; exact H⟩ ?_
  clear F H
  intro m a v ⟨seen, hcnt, F, H⟩
  refine C_seqK (fun K hK => ?_)
  refine C_region ?_
  refine T_next F H kr (it := (.tmp 13)) rfl (ki := 0) (km := 1) rfl rfl kr (fun x hx => by simp only [List.mem_map] at hx; obtain ⟨m, hm, rfl⟩ := hx; exact hM.old m (tlv_mem hm)) (Nat.le_refl _) (fun hz a F => ?_) (fun e he a v H0 H1 => ?_)
  rotate_left
  · clear F H
    obtain ⟨m0, hm0, rfl, hs0⟩ := left_mem he
    have hmM := tlv_mem hm0
    replace H0 : Fm 42 [] [(14, .tuple #[.bool true, nw m0.k, m0.c.v]), (13, pt it 0), (0, pt xb 0), (1, nw nx)] a := H0.weak _ (subL_of kr)
    have F := H0
    have H : Hp [mb] w [⟨true, it, .mapIter (some mb) clock (seen.push m0.born) clock⟩, ⟨true, mb, mpO (tlv nx M seen) clock⟩, br xb #[.map (some mb), uv] 28] v := H1
    clear H0 H1
    refine T_k F H (.bool true) ?_
    clear F; intro a F
    refine wpList_nil ?_
    refine hK _ _ ?_
    clear hK
    try clear K
    by_cases hk : m0.k < nx
    · skip
      refine C_seqK (fun K5 hK5 => ?_)
      refine C_if F true rfl rfl ?_
      refine wp_skip ?_
      refine hK5 _ _ ?_
      clear hK5
      try clear K5
      refine wp_block ?_
      refine C_seqK (fun K6 hK6 => ?_)
      refine C_region ?_
      refine T_val F H kr (.tuple #[nw m0.k, m0.c.v]) (fun w hl => R_entry (x := (.tmp 13)) rfl (e := m0.e) kr (hl.at_ (k := 0) rfl) (hl.at_ (k := 1) rfl) (by simpa using ⟨m0, hm0, rfl⟩) (ent_nodup hM)) ?_
      clear F; intro a F
      refine T_k F H (nw m0.k) ?_
      clear F; intro a F
      refine T_k F H (nw m0.k) ?_
      clear F; intro a F
      refine wpList_nil ?_
      refine hK6 _ _ ?_
      clear hK6
      try clear K6
      refine C_seqK (fun K7 hK7 => ?_)
      refine C_region ?_
      refine T_k F H (nw m0.k) ?_
      clear F; intro a F
      refine T_k F H (nw nx) ?_
      clear F; intro a F
      refine T_val F H kr (.bool true) (fun w _ => R_bin (x := (.tmp 18)) (y := (.tmp 19)) rfl (k := .u32) (a := ((m0.k : Nat) : Int)) (b := ((nx : Nat) : Int)) kr kr (i_lssd.trans (by rw [decide_eq_true hk])) w) ?_
      clear F; intro a F
      refine wpList_nil ?_
      refine hK7 _ _ ?_
      clear hK7
      try clear K7
      refine C_if F true rfl rfl ?_
      refine C_region ?_
      refine T_k F H (pt xb 0) ?_
      clear F; intro a F
      refine T_k F H (pt xb 0) ?_
      clear F; intro a F
      refine T_k F H (pt xb 0) ?_
      clear F; intro a F
      refine T_val F H kr (.map (some mb)) (R_cell (own := false) (g := xb) (all := #[.map (some mb), uv]) (t := 28) (fr := (0, 0)) 2 kr 25 (.tmp 23) rfl 0 kr (.map (some mb)) kr _ Try.underlying25 rfl) ?_
      clear F; intro a F
      refine T_k F H (nw m0.k) ?_
      clear F; intro a F
      refine T_vlP F H kr (.tuple #[]) 1 rfl (mpO (mdel m0.k (tlv nx M seen)) clock) (fun w _ hg => P_delete (x := (.tmp 24)) (y := (.tmp 25)) rfl Try.underlying25 Try.underlying29 (k := m0.k) kr kr hg) [⟨true, it, .mapIter (some mb) clock (seen.push m0.born) clock⟩, ⟨true, mb, mpO (mdel m0.k (tlv nx M seen)) clock⟩, br xb #[.map (some mb), uv] 28] rfl ?_
      clear F H; intro a v F H
      refine wpList_nil ?_
      replace F : Fm 42 [] [(13, pt it 0), (0, pt xb 0), (1, nw nx)] a := F.weak _ (subL_of kr)
      exact ⟨cntv M (seen.push m0.born), hcnt ▸ cntv_dec hM hmM hs0, seen.push m0.born, rfl, F, by rw [tlv_del hM hmM hk] at H; exact H⟩
    · skip
      refine C_seqK (fun K8 hK8 => ?_)
      refine C_if F true rfl rfl ?_
      refine wp_skip ?_
      refine hK8 _ _ ?_
      clear hK8
      try clear K8
      refine wp_block ?_
      refine C_seqK (fun K9 hK9 => ?_)
      refine C_region ?_
      refine T_val F H kr (.tuple #[nw m0.k, m0.c.v]) (fun w hl => R_entry (x := (.tmp 13)) rfl (e := m0.e) kr (hl.at_ (k := 0) rfl) (hl.at_ (k := 1) rfl) (by simpa using ⟨m0, hm0, rfl⟩) (ent_nodup hM)) ?_
      clear F; intro a F
      refine T_k F H (nw m0.k) ?_
      clear F; intro a F
      refine T_k F H (nw m0.k) ?_
      clear F; intro a F
      refine wpList_nil ?_
      refine hK9 _ _ ?_
      clear hK9
      try clear K9
      refine C_seqK (fun K10 hK10 => ?_)
      refine C_region ?_
      refine T_k F H (nw m0.k) ?_
      clear F; intro a F
      refine T_k F H (nw nx) ?_
      clear F; intro a F
      refine T_val F H kr (.bool false) (fun w _ => R_bin (x := (.tmp 18)) (y := (.tmp 19)) rfl (k := .u32) (a := ((m0.k : Nat) : Int)) (b := ((nx : Nat) : Int)) kr kr (i_lssd.trans (by rw [decide_eq_false hk])) w) ?_
      clear F; intro a F
      refine wpList_nil ?_
      refine hK10 _ _ ?_
      clear hK10
      try clear K10
      refine C_if F false rfl rfl ?_
      refine wp_skip ?_
      replace F : Fm 42 [] [(13, pt it 0), (0, pt xb 0), (1, nw nx)] a := F.weak _ (subL_of kr)
      exact ⟨cntv M (seen.push m0.born), hcnt ▸ cntv_dec hM hmM hs0, seen.push m0.born, rfl, F, by rw [tlv_keep hM hmM hk] at H; exact H⟩
  refine T_k F H (.bool false) ?_
  clear F; intro a F
  refine wpList_nil ?_
  refine hK _ _ ?_
  clear hK
  try clear K
  rw [left_none hM hz] at H
  replace H : Hp [mb] w [⟨true, it, .mapIter (some mb) clock seen clock⟩, ⟨true, mb, mpO (M.filter fun m => !decide (m.k < nx)) clock⟩, br xb #[.map (some mb), uv] 28] v := H
  refine C_seqK (fun K11 hK11 => ?_)
  refine C_if F false rfl rfl ?_
  refine wp_exit ?_
  refine hK2 _ _ ?_
  clear hK2
  try clear K2
  refine C_seqK (fun K12 hK12 => ?_)
  refine C_region ?_
  refine T_k F H (pt xb 0) ?_
  clear F; intro a F
  refine T_k F H (pt xb 0) ?_
  clear F; intro a F
  refine T_k F H (pt xb 0) ?_
  clear F; intro a F
  refine T_val F H kr (.map (some mb)) (R_cell (own := false) (g := xb) (all := #[.map (some mb), uv]) (t := 28) (fr := (0, 0)) 2 kr 25 (.tmp 29) rfl 0 kr (.map (some mb)) kr _ Try.underlying25 rfl) ?_
  clear F; intro a F
  refine T_k F H (nw nx) ?_
  clear F; intro a F
  refine T_val F H kr (.tuple #[.slice none 0 0, .bool false]) (fun w hl => (R_lookup (x := (.tmp 30)) (y := (.tmp 31)) rfl Try.underlying25 Try.underlying29 (fun w => kr) (k := nx) kr kr (hl.at_ (k := 1) rfl)).trans (by rw [hq]; rfl)) ?_
  clear F; intro a F
  refine T_k F H (.tuple #[.slice none 0 0, .bool false]) ?_
  clear F; intro a F
  refine T_k F H (.slice none 0 0) ?_
  clear F; intro a F
  refine T_k F H (.bool false) ?_
  clear F; intro a F
  refine T_k F H (.slice none 0 0) ?_
  clear F; intro a F
  refine T_k F H (.bool false) ?_
  clear F; intro a F
  refine wpList_nil ?_
  refine hK12 _ _ ?_
  clear hK12
  try clear K12
  refine C_seqK (fun K13 hK13 => ?_)
  refine C_region ?_
  refine T_k F H (pt xb 0) ?_
  clear F; intro a F
  refine T_k F H (pt xb 0) ?_
  clear F; intro a F
  refine T_k F H (pt xb 0) ?_
  clear F; intro a F
  refine T_val F H kr (.map (some mb)) (R_cell (own := false) (g := xb) (all := #[.map (some mb), uv]) (t := 28) (fr := (0, 0)) 2 kr 25 (.tmp 37) rfl 0 kr (.map (some mb)) kr _ Try.underlying25 rfl) ?_
  clear F; intro a F
  refine T_k F H (nw nx) ?_
  clear F; intro a F
  refine T_vlP F H kr (.tuple #[]) 1 rfl (mpO (mdel nx (M.filter fun m => !decide (m.k < nx))) clock) (fun w _ hg => P_delete (x := (.tmp 38)) (y := (.tmp 39)) rfl Try.underlying25 Try.underlying29 (k := nx) kr kr hg) [⟨true, it, .mapIter (some mb) clock seen clock⟩, ⟨true, mb, mpO (mdel nx (M.filter fun m => !decide (m.k < nx))) clock⟩, br xb #[.map (some mb), uv] 28] rfl ?_
  clear F H; intro a v F H
  refine wpList_nil ?_
  refine hK13 _ _ ?_
  clear hK13
  try clear K13
  refine C_seqK (fun K14 hK14 => ?_)
  refine C_region ?_
  refine T_k F H (.slice none 0 0) ?_
  clear F; intro a F
  refine T_k F H (.bool false) ?_
  clear F; intro a F
  refine T_k F H (.slice none 0 0) ?_
  clear F; intro a F
  refine T_k F H (.bool false) ?_
  clear F; intro a F
  refine wpList_nil ?_
  refine hK14 _ _ ?_
  clear hK14
  try clear K14
  refine wp_ret ?_
  exact C_ret F H (rs := [.tmp 4, .tmp 5]) rfl (vs := [.slice none 0 0, .bool false]) (.tmp rfl (.tmp rfl .nil)) (.tuple #[.slice none 0 0, .bool false]) rfl ⟨rfl, by rw [turn_left hM] at H; exact H.pick [1] kr _ rfl⟩

set_option maxRecDepth 100000 in
set_option maxHeartbeats 4000000 in
theorem turn_some (xb nx mb clock : Nat) (M : List MEn) (uv : Value) (hM : MOK M clock) (m1 : MEn) (i1 : Nat) (hq : mfi nx (M.filter fun m => !decide (m.k < nx)) 0 = some (i1, m1.c.v)) (w : World) (hx : w.heap[xb]? = some (.cells #[.map (some mb), uv] 28 (0, 0))) (hm0 : w.heap[mb]? = some (mpO M clock)) (hne : mb ≠ xb) : Calls Try.prog 21 #[.pointer (some ⟨xb, 0, none⟩), .int .u32 ((nx : Nat) : Int)] w fun e w' => e = .returned (.tuple #[m1.c.v, .bool true]) ∧ Hp [mb] w [⟨true, mb, mpO (M.filter fun m => decide (nx < m.k)) clock⟩] w' := by
  refine C_enter Try.func21 rfl 42 Try.ntmps21 (Nat.le_of_ble_eq_true rfl) (fun a F => ?_)
  have H : Hp [mb] w [⟨true, mb, mpO M clock⟩, br xb #[.map (some mb), uv] 28] w := Hp.startWR hm0 hx hne
  replace F : Fm 42 [] [(0, pt xb 0), (1, nw nx)] a := F.weak _ (subL_of kr)
  refine C_seqK (fun K1 hK1 => ?_)
  refine C_region ?_
  refine T_k F H (.slice none 0 0) ?_
  clear F; intro a F
  refine T_k F H (.bool false) ?_
  clear F; intro a F
  refine wpList_nil ?_
  refine hK1 _ _ ?_
  clear hK1
  try clear K1
  refine C_seqK (fun K2 hK2 => ?_)
  refine C_seqK (fun K3 hK3 => ?_)
  refine C_region ?_
  refine T_k F H (pt xb 0) ?_
  clear F; intro a F
  refine T_k F H (pt xb 0) ?_
  clear F; intro a F
  refine T_k F H (pt xb 0) ?_
  clear F; intro a F
  refine T_val F H kr (.map (some mb)) (R_cell (own := false) (g := xb) (all := #[.map (some mb), uv]) (t := 28) (fr := (0, 0)) 1 kr 25 (.tmp 11) rfl 0 kr (.map (some mb)) kr _ Try.underlying25 rfl) ?_
  clear F; intro a F
  refine T_newH F H kr (fun ad => pt ad 0) (.mapIter (some mb) clock #[] clock) (fun w hl => R_range (x := (.tmp 12)) rfl Try.underlying25 kr (hl.at_ (k := 0) rfl)) ?_
  clear F H; intro it4 a v F H
  generalize it4 = it at F H
  refine wpList_nil ?_
  refine hK3 _ _ ?_
  clear hK3
  try clear K3
  replace F : Fm 42 [] [(13, pt it 0), (0, pt xb 0), (1, nw nx)] a := F.weak _ (subL_of kr)
  refine wp_block ?_
  refine C_loop (fun m a v => ∃ seen : Array Nat, cntv M seen = m ∧ Fm 42 [] [(13, pt it 0), (0, pt xb 0), (1, nw nx)] a ∧ Hp [mb] w [⟨true, it, .mapIter (some mb) clock seen clock⟩, ⟨true, mb, mpO (tlv nx M seen) clock⟩, br xb #[.map (some mb), uv] 28] v) (cntv M #[]) ⟨#[], rfl, F, by rw [tlv_nil]; exact H⟩ ?_
  clear F H
  intro m a v ⟨seen, hcnt, F, H⟩
  refine C_seqK (fun K hK => ?_)
  refine C_region ?_
  refine T_next F H kr (it := (.tmp 13)) rfl (ki := 0) (km := 1) rfl rfl kr (fun x hx => by simp only [List.mem_map] at hx; obtain ⟨m, hm, rfl⟩ := hx; exact hM.old m (tlv_mem hm)) (Nat.le_refl _) (fun hz a F => ?_) (fun e he a v H0 H1 => ?_)
  rotate_left
  · clear F H
    obtain ⟨m0, hm0, rfl, hs0⟩ := left_mem he
    have hmM := tlv_mem hm0
    replace H0 : Fm 42 [] [(14, .tuple #[.bool true, nw m0.k, m0.c.v]), (13, pt it 0), (0, pt xb 0), (1, nw nx)] a := H0.weak _ (subL_of kr)
    have F := H0
    have H : Hp [mb] w [⟨true, it, .mapIter (some mb) clock (seen.push m0.born) clock⟩, ⟨true, mb, mpO (tlv nx M seen) clock⟩, br xb #[.map (some mb), uv] 28] v := H1
    clear H0 H1
    refine T_k F H (.bool true) ?_
    clear F; intro a F
    refine wpList_nil ?_
    refine hK _ _ ?_
    clear hK
    try clear K
    by_cases hk : m0.k < nx
    · skip
      refine C_seqK (fun K5 hK5 => ?_)
      refine C_if F true rfl rfl ?_
      refine wp_skip ?_
      refine hK5 _ _ ?_
      clear hK5
      try clear K5
      refine wp_block ?_
      refine C_seqK (fun K6 hK6 => ?_)
      refine C_region ?_
      refine T_val F H kr (.tuple #[nw m0.k, m0.c.v]) (fun w hl => R_entry (x := (.tmp 13)) rfl (e := m0.e) kr (hl.at_ (k := 0) rfl) (hl.at_ (k := 1) rfl) (by simpa using ⟨m0, hm0, rfl⟩) (ent_nodup hM)) ?_
      clear F; intro a F
      refine T_k F H (nw m0.k) ?_
      clear F; intro a F
      refine T_k F H (nw m0.k) ?_
      clear F; intro a F
      refine wpList_nil ?_
      refine hK6 _ _ ?_
      clear hK6
      try clear K6
      refine C_seqK (fun K7 hK7 => ?_)
      refine C_region ?_
      refine T_k F H (nw m0.k) ?_
      clear F; intro a F
      refine T_k F H (nw nx) ?_
      clear F; intro a F
      refine T_val F H kr (.bool true) (fun w _ => R_bin (x := (.tmp 18)) (y := (.tmp 19)) rfl (k := .u32) (a := ((m0.k : Nat) : Int)) (b := ((nx : Nat) : Int)) kr kr (i_lssd.trans (by rw [decide_eq_true hk])) w) ?_
      clear F; intro a F
      refine wpList_nil ?_
      refine hK7 _ _ ?_
      clear hK7
      try clear K7
      refine C_if F true rfl rfl ?_
      refine C_region ?_
      refine T_k F H (pt xb 0) ?_
      clear F; intro a F
      refine T_k F H (pt xb 0) ?_
      clear F; intro a F
      refine T_k F H (pt xb 0) ?_
      clear F; intro a F
      refine T_val F H kr (.map (some mb)) (R_cell (own := false) (g := xb) (all := #[.map (some mb), uv]) (t := 28) (fr := (0, 0)) 2 kr 25 (.tmp 23) rfl 0 kr (.map (some mb)) kr _ Try.underlying25 rfl) ?_
      clear F; intro a F
      refine T_k F H (nw m0.k) ?_
      clear F; intro a F
      refine T_vlP F H kr (.tuple #[]) 1 rfl (mpO (mdel m0.k (tlv nx M seen)) clock) (fun w _ hg => P_delete (x := (.tmp 24)) (y := (.tmp 25)) rfl Try.underlying25 Try.underlying29 (k := m0.k) kr kr hg) [⟨true, it, .mapIter (some mb) clock (seen.push m0.born) clock⟩, ⟨true, mb, mpO (mdel m0.k (tlv nx M seen)) clock⟩, br xb #[.map (some mb), uv] 28] rfl ?_
      clear F H; intro a v F H
      refine wpList_nil ?_
      replace F : Fm 42 [] [(13, pt it 0), (0, pt xb 0), (1, nw nx)] a := F.weak _ (subL_of kr)
      exact ⟨cntv M (seen.push m0.born), hcnt ▸ cntv_dec hM hmM hs0, seen.push m0.born, rfl, F, by rw [tlv_del hM hmM hk] at H; exact H⟩
    · skip
      refine C_seqK (fun K8 hK8 => ?_)
      refine C_if F true rfl rfl ?_
      refine wp_skip ?_
      refine hK8 _ _ ?_
      clear hK8
      try clear K8
      refine wp_block ?_
      refine C_seqK (fun K9 hK9 => ?_)
      refine C_region ?_
      refine T_val F H kr (.tuple #[nw m0.k, m0.c.v]) (fun w hl => R_entry (x := (.tmp 13)) rfl (e := m0.e) kr (hl.at_ (k := 0) rfl) (hl.at_ (k := 1) rfl) (by simpa using ⟨m0, hm0, rfl⟩) (ent_nodup hM)) ?_
      clear F; intro a F
      refine T_k F H (nw m0.k) ?_
      clear F; intro a F
      refine T_k F H (nw m0.k) ?_
      clear F; intro a F
      refine wpList_nil ?_
      refine hK9 _ _ ?_
      clear hK9
      try clear K9
      refine C_seqK (fun K10 hK10 => ?_)
      refine C_region ?_
      refine T_k F H (nw m0.k) ?_
      clear F; intro a F
      refine T_k F H (nw nx) ?_
      clear F; intro a F
      refine T_val F H kr (.bool false) (fun w _ => R_bin (x := (.tmp 18)) (y := (.tmp 19)) rfl (k := .u32) (a := ((m0.k : Nat) : Int)) (b := ((nx : Nat) : Int)) kr kr (i_lssd.trans (by rw [decide_eq_false hk])) w) ?_
      clear F; intro a F
      refine wpList_nil ?_
      refine hK10 _ _ ?_
      clear hK10
      try clear K10
      refine C_if F false rfl rfl ?_
      refine wp_skip ?_
      replace F : Fm 42 [] [(13, pt it 0), (0, pt xb 0), (1, nw nx)] a := F.weak _ (subL_of kr)
      exact ⟨cntv M (seen.push m0.born), hcnt ▸ cntv_dec hM hmM hs0, seen.push m0.born, rfl, F, by rw [tlv_keep hM hmM hk] at H; exact H⟩
  refine T_k F H (.bool false) ?_
  clear F; intro a F
  refine wpList_nil ?_
  refine hK _ _ ?_
  clear hK
  try clear K
  rw [left_none hM hz] at H
  replace H : Hp [mb] w [⟨true, it, .mapIter (some mb) clock seen clock⟩, ⟨true, mb, mpO (M.filter fun m => !decide (m.k < nx)) clock⟩, br xb #[.map (some mb), uv] 28] v := H
  refine C_seqK (fun K11 hK11 => ?_)
  refine C_if F false rfl rfl ?_
  refine wp_exit ?_
  refine hK2 _ _ ?_
  clear hK2
  try clear K2
  refine C_seqK (fun K12 hK12 => ?_)
  refine C_region ?_
  refine T_k F H (pt xb 0) ?_
  clear F; intro a F
  refine T_k F H (pt xb 0) ?_
  clear F; intro a F
  refine T_k F H (pt xb 0) ?_
  clear F; intro a F
  refine T_val F H kr (.map (some mb)) (R_cell (own := false) (g := xb) (all := #[.map (some mb), uv]) (t := 28) (fr := (0, 0)) 2 kr 25 (.tmp 29) rfl 0 kr (.map (some mb)) kr _ Try.underlying25 rfl) ?_
  clear F; intro a F
  refine T_k F H (nw nx) ?_
  clear F; intro a F
  refine T_val F H kr (.tuple #[m1.c.v, .bool true]) (fun w hl => (R_lookup (x := (.tmp 30)) (y := (.tmp 31)) rfl Try.underlying25 Try.underlying29 (fun w => kr) (k := nx) kr kr (hl.at_ (k := 1) rfl)).trans (by rw [hq]; rfl)) ?_
  clear F; intro a F
  refine T_k F H (.tuple #[m1.c.v, .bool true]) ?_
  clear F; intro a F
  refine T_k F H (m1.c.v) ?_
  clear F; intro a F
  refine T_k F H (.bool true) ?_
  clear F; intro a F
  refine T_k F H (m1.c.v) ?_
  clear F; intro a F
  refine T_k F H (.bool true) ?_
  clear F; intro a F
  refine wpList_nil ?_
  refine hK12 _ _ ?_
  clear hK12
  try clear K12
  refine C_seqK (fun K13 hK13 => ?_)
  refine C_region ?_
  refine T_k F H (pt xb 0) ?_
  clear F; intro a F
  refine T_k F H (pt xb 0) ?_
  clear F; intro a F
  refine T_k F H (pt xb 0) ?_
  clear F; intro a F
  refine T_val F H kr (.map (some mb)) (R_cell (own := false) (g := xb) (all := #[.map (some mb), uv]) (t := 28) (fr := (0, 0)) 2 kr 25 (.tmp 37) rfl 0 kr (.map (some mb)) kr _ Try.underlying25 rfl) ?_
  clear F; intro a F
  refine T_k F H (nw nx) ?_
  clear F; intro a F
  refine T_vlP F H kr (.tuple #[]) 1 rfl (mpO (mdel nx (M.filter fun m => !decide (m.k < nx))) clock) (fun w _ hg => P_delete (x := (.tmp 38)) (y := (.tmp 39)) rfl Try.underlying25 Try.underlying29 (k := nx) kr kr hg) [⟨true, it, .mapIter (some mb) clock seen clock⟩, ⟨true, mb, mpO (mdel nx (M.filter fun m => !decide (m.k < nx))) clock⟩, br xb #[.map (some mb), uv] 28] rfl ?_
  clear F H; intro a v F H
  refine wpList_nil ?_
  refine hK13 _ _ ?_
  clear hK13
  try clear K13
  refine C_seqK (fun K14 hK14 => ?_)
  refine C_region ?_
  refine T_k F H (m1.c.v) ?_
  clear F; intro a F
  refine T_k F H (.bool true) ?_
  clear F; intro a F
  refine T_k F H (m1.c.v) ?_
  clear F; intro a F
  refine T_k F H (.bool true) ?_
  clear F; intro a F
  refine wpList_nil ?_
  refine hK14 _ _ ?_
  clear hK14
  try clear K14
  refine wp_ret ?_
  exact C_ret F H (rs := [.tmp 4, .tmp 5]) rfl (vs := [m1.c.v, .bool true]) (.tmp rfl (.tmp rfl .nil)) (.tuple #[m1.c.v, .bool true]) rfl ⟨rfl, by rw [turn_left hM] at H; exact H.pick [1] kr _ rfl⟩
end Go.Proofs.Ytlnlppmhiobgjaa
