/- A walk by rules: slices that grow, slices that calls make. -/
import Derived.Test.YtlnlppmhiobgjaaHG
import Derived.Laws.AppendOwn
import Derived.Laws.OwnMore
import Derived.Laws.MakeOwn
import Derived.Great.BuildSlice
set_option linter.unusedVariables false
set_option linter.unusedSimpArgs false
namespace Go.Proofs.Ytlnlppmhiobgjaa
theorem kr {p : Prop} (h : p := by as_aux_lemma => kernel_rfl) : p := h
open Go Go.RowKit
/-- What a slice's block holds: its cells, and what is spare. -/
def sl (cs rest : List Value) : Array Value := (cs ++ rest).toArray
theorem sl_size (cs rest : List Value) : (sl cs rest).size = cs.length + rest.length := by simp [sl]
theorem sl_get {cs rest : List Value} {j : Nat} {v : Value} (h : cs[j]? = some v) : (sl cs rest)[j]? = some v := by
  unfold sl
  rw [List.getElem?_toArray, List.getElem?_append_left (List.getElem?_eq_some_iff.1 h).1]
  exact h
theorem sl_set {cs rest : List Value} {j : Nat} (h : j < cs.length) (v : Value) : (sl cs rest).setIfInBounds j v = sl (cs.set j v) rest := by
  unfold sl
  rw [List.setIfInBounds_toArray, List.set_append_left _ _ h]
structure Own (cs rest : List Value) (m cap size : Nat) : Prop where
  len : cs.length = m * size
  tot : cs.length + rest.length = cap * size
  le : m ≤ cap
  max : cap ≤ maxLen
structure SlR where
  g : Nat
  cap : Nat
  rest : List Value
  n : Nat
/-- What a slice value reads. -/
def RdS (w : World) (v : Value) (m : Nat) (cs : List Value) : Prop :=
  (v = .slice none 0 0 ∧ m = 0 ∧ cs = []) ∨ ∃ ad c, v = .slice (some ad) m c ∧ m ≤ c ∧ ∀ j u, cs[j]? = some u → w.cell? (ad.add j) = some u
theorem add_block (a : Addr) (j : Nat) : (a.add j).block = a.block := by unfold Addr.add; split <;> rfl
theorem RdS.kept {w w' : World} {v : Value} {m : Nat} {cs : List Value} {X : List Nat} (h : RdS w v m cs) (k : Kept X w w') (hx : ∀ ad n c, v = .slice (some ad) n c → ad.block ∉ X) : RdS w' v m cs := by
  rcases h with h | ⟨ad, c, hv, hm, h⟩
  · exact .inl h
  · refine .inr ⟨ad, c, hv, hm, fun j u hj => ?_⟩
    have h1 := h j u hj
    have hb : (ad.add j).block < w.heap.size := World.block_lt_of_cell? w _ h1
    rw [World.cell?_of_block (k.block _ hb (by rw [add_block]; exact hx ad m c hv))]
    exact h1
theorem RdS.of {w : World} {g off m c : Nat} {all : Array Value} {t : TypeId} {fr : Nat × Nat} {cs : List Value} (hg : w.heap[g]? = some (.cells all t fr)) (hm : m ≤ c) (h : ∀ j u, cs[j]? = some u → all[off + j]? = some u) : RdS w (.slice (some ⟨g, off, none⟩) m c) m cs := by
  refine .inr ⟨_, c, rfl, hm, fun j u hj => ?_⟩
  have hadd : (⟨g, off, none⟩ : Addr).add j = ⟨g, off + j, none⟩ := by unfold Addr.add; split <;> simp_all
  rw [hadd, cell_of_row w g (off + j) all t fr hg]
  exact h j u hj
theorem RdS.all {w : World} {g m c : Nat} {xs rest : List Value} {t : TypeId} {fr : Nat × Nat} (hg : w.heap[g]? = some (.cells (sl xs rest) t fr)) (hm : m ≤ c) : RdS w (.slice (some ⟨g, 0, none⟩) m c) m xs :=
  RdS.of hg hm (fun j u hj => by rw [Nat.zero_add]; exact sl_get hj)
def infoB (P : Program) (e : TypeId) (size bytes : Nat) : Bool := match P.info? e with
  | some i => Nat.beq i.size size && Nat.beq i.bytes bytes && (match i.zero with | some z => Nat.beq z.cells.size size | none => false) && Nat.blt 0 size
  | none => false
theorem infoB_spec {P : Program} {e : TypeId} {size bytes : Nat} (h : infoB P e size bytes = true) : ∃ i z, P.info? e = some i ∧ i.zero = some z ∧ i.size = size ∧ i.bytes = bytes ∧ z.cells.size = size ∧ 0 < size := by
  unfold infoB at h
  split at h
  · rename_i i hi
    simp only [Bool.and_eq_true] at h
    obtain ⟨⟨⟨h1, h2⟩, h3⟩, h4⟩ := h
    split at h3
    · rename_i z hz
      exact ⟨i, z, hi, hz, Nat.eq_of_beq_eq_true h1, Nat.eq_of_beq_eq_true h2, Nat.eq_of_beq_eq_true h3, by simpa using h4⟩
    · cases h3
  · cases h
section
variable {P : Program}
theorem own_row {w : World} {g m0 cap size : Nat} {xs rest : List Value} {e : TypeId} (own : Own xs rest m0 cap size) (hg : w.heap[g]? = some (.cells (sl xs rest) e (0, 0))) : w.ownsRow 0 e size (.slice (some ⟨g, 0, none⟩) m0 cap) m0 xs :=
  ⟨own.len, .inr ⟨g, cap, _, rfl, Nat.zero_le _, hg, own.le, own.max, by rw [sl_size]; exact own.tot, by
    show ((xs ++ rest).toArray).toList.take _ = xs
    rw [← own.len]
    exact List.take_left⟩⟩
theorem run_app {w : World} {t ty e : TypeId} {size bytes : Nat} (ht : P.underlying t = some (.slice e)) (hi0 : infoB P e size bytes = true) {g m0 cap : Nat} {xs rest : List Value} (own : Own xs rest m0 cap size) (hg : w.heap[g]? = some (.cells (sl xs rest) e (0, 0)))
    {x : Value} {m : Nat} {news : List Value} (hx : RdS w x m news) (hl : news.length = m * size) (h1 : ∀ u ∈ news, u.oneCell' = true) (h63 : m0 + m ≤ maxLen) (hbytes : (m0 + m) * bytes ≤ 140737488355328) :
    ∃ (r : SlR) (w' : World), (Builtin.append_ #[t, t] ty #[.slice (some ⟨g, 0, none⟩) m0 cap, x]).run P w = .ok (.slice (some ⟨r.g, 0, none⟩) (m0 + m) r.cap) w' ∧ Own (xs ++ news) r.rest (m0 + m) r.cap size ∧
      w'.heap[r.g]? = some (.cells (sl (xs ++ news) r.rest) e (0, 0)) ∧ ((r.g = g ∧ Kept [g] w w') ∨ (w.heap.size ≤ r.g ∧ Kept [] w w')) := by
  obtain ⟨i, z, hi, hz, hs, hb, hzs, hsz⟩ := infoB_spec hi0
  subst hs hb
  rcases hx with ⟨rfl, rfl, rfl⟩ | ⟨ad, c, rfl, hmc, hnews⟩
  · refine ⟨⟨g, cap, rest, 0⟩, w, ?_, ?_, ?_, .inl ⟨rfl, Kept.refl _ _⟩⟩
    · exact run_append_owned_none (P := P) w 0 t ty e i i.size ht hi _ m0 xs (own_row own hg)
    · rw [List.append_nil]; exact own
    · rw [List.append_nil]; exact hg
  · have hlen : (xs ++ news).length = (m0 + m) * i.size := by rw [List.length_append, own.len, hl, Nat.add_mul]
    by_cases hroom : m0 + m ≤ cap
    · have hfit : m0 * i.size + news.length ≤ (sl xs rest).size := by rw [hl, sl_size, own.tot, ← Nat.add_mul]; exact Nat.mul_le_mul_right _ hroom
      have hr := run_append_room (P := P) w t ty e i ht hi g m0 cap _ hg ad m c news hl hnews h1 hroom hfit
      have hcells : (((sl xs rest).toList.take (m0 * i.size) ++ news ++ (sl xs rest).toList.drop (m0 * i.size + news.length)).toArray) = sl (xs ++ news) (rest.drop news.length) := by
        unfold sl
        rw [← own.len]
        congr 1
        show (xs ++ rest).take xs.length ++ news ++ (xs ++ rest).drop (xs.length + news.length) = _
        rw [List.take_left, List.drop_append]
        simp
      rw [hcells] at hr
      refine ⟨⟨g, cap, rest.drop news.length, 0⟩, _, hr, ⟨hlen, ?_, hroom, own.max⟩, setRow_heap w g _ _ e _ hg, .inl ⟨rfl, Kept.setRow _ _ _⟩⟩
      have h2 := own.tot
      have h3 := own.len
      have h4 : (m0 + m) * i.size ≤ cap * i.size := Nat.mul_le_mul_right _ hroom
      rw [Nat.add_mul] at h4
      dsimp only
      rw [hlen, List.length_drop, Nat.add_mul, hl]
      omega
    · have hr := run_append_grow (P := P) w t ty e i z ht hi hz ⟨g, 0, none⟩ m0 cap xs own.len (fun j u hj => by
          have hadd : (⟨g, 0, none⟩ : Addr).add j = ⟨g, 0 + j, none⟩ := by unfold Addr.add; split <;> simp_all
          rw [hadd, cell_of_row w g (0 + j) _ e (0, 0) hg, Nat.zero_add]
          exact sl_get hj) ad m c news hl hnews (by omega) (by simp only [maxLen] at h63; omega) (growslice_fits (by omega) hbytes)
      have hge := grownCap_ge w (m0 + m) cap e
      have hcm : grownCap w (m0 + m) cap e ≤ maxLen := grownCap_le_maxLen w (m0 + m) cap e h63
      refine ⟨⟨w.heap.size, grownCap w (m0 + m) cap e, (Builtin.zeroCells z.cells (grownCap w (m0 + m) cap e - (m0 + m))).toList, 0⟩, _, hr, ⟨hlen, ?_, hge, hcm⟩, ?_, .inr ⟨Nat.le_refl _, ?_⟩⟩
      · dsimp only
        rw [hlen, Array.length_toList, size_zeroCells, hzs, ← Nat.add_mul]
        congr 1
        omega
      · refine (heap_alloc_new w.drew _).trans ?_
        congr 2
        unfold sl
        simp
      · exact (Kept.drew w).trans (by simp) (Kept.alloc _ _)
theorem run_appN {w : World} {t ty e : TypeId} {size bytes : Nat} (ht : P.underlying t = some (.slice e)) (hi0 : infoB P e size bytes = true)
    {x : Value} {m : Nat} {news : List Value} (hx : RdS w x m news) (hl : news.length = m * size) (h0 : 0 < m) (h63 : m ≤ maxLen) (hbytes : m * bytes ≤ 140737488355328) :
    ∃ (r : SlR) (w' : World), (Builtin.append_ #[t, t] ty #[.slice none 0 0, x]).run P w = .ok (.slice (some ⟨r.g, 0, none⟩) m r.cap) w' ∧ Own news r.rest m r.cap size ∧
      w'.heap[r.g]? = some (.cells (sl news r.rest) e (0, 0)) ∧ (w.heap.size ≤ r.g ∧ Kept [] w w') := by
  obtain ⟨i, z, hi, hz, hs, hb, hzs, hsz⟩ := infoB_spec hi0
  subst hs hb
  rcases hx with ⟨rfl, rfl, rfl⟩ | ⟨ad, c, rfl, hmc, hnews⟩
  · omega
  · have hr := run_append_nil (P := P) w t ty e i z ht hi hz ad m c news hl hnews h0 (by simp only [maxLen] at h63; omega) (by omega)
    have hge := grownCap_ge w m 0 e
    have hcm : grownCap w m 0 e ≤ maxLen := grownCap_le_maxLen w m 0 e h63
    refine ⟨⟨w.heap.size, grownCap w m 0 e, (Builtin.zeroCells z.cells (grownCap w m 0 e - m)).toList, 0⟩, _, hr, ⟨hl, ?_, hge, hcm⟩, ?_, ⟨Nat.le_refl _, ?_⟩⟩
    · dsimp only
      rw [hl, Array.length_toList, size_zeroCells, hzs, ← Nat.add_mul]
      congr 1
      omega
    · refine (heap_alloc_new w.drew _).trans ?_
      congr 2
      unfold sl
      simp
    · exact (Kept.drew w).trans (by simp) (Kept.alloc _ _)
/-- Room for so many. -/
theorem run_appZ {w : World} {t xt ty e : TypeId} {k k' : IntKind} {size bytes : Nat} (ht : P.underlying t = some (.slice e)) (hxt : P.underlying xt = some (.int k')) (hi0 : infoB P e size bytes = true) {n : Nat} (h0 : 0 < n) (hn : n * bytes ≤ 140737488355328) (h63 : n ≤ maxLen) :
    ∃ (r : SlR) (w' : World), (Builtin.append_ #[t, xt] ty #[.slice none 0 0, .int k n]).run P w = .ok (.slice (some ⟨r.g, 0, none⟩) n r.cap) w' ∧ Own [] r.rest 0 r.cap size ∧ n ≤ r.cap ∧
      w'.heap[r.g]? = some (.cells (sl [] r.rest) e (0, 0)) ∧ (w.heap.size ≤ r.g ∧ Kept [] w w') := by
  obtain ⟨i, z, hi, hz, hs, hb, hzs, hsz⟩ := infoB_spec hi0
  subst hs hb
  have hge := grownCap_ge w n 0 e
  have hcm : grownCap w n 0 e ≤ maxLen := grownCap_le_maxLen w n 0 e h63
  have wl : IntKind.i64.wrap (n : Int) = n := by simp only [maxLen] at h63; rw [IntKind.wrap_i64]; omega
  have n1 : ¬ ((n : Int) < 0) := by omega
  have n2 : ¬ (281474976710656 < (n : Int) * (i.bytes : Int)) := by
    have : ((n * i.bytes : Nat) : Int) ≤ 140737488355328 := by omega
    rw [Int.natCast_mul] at this; omega
  have n3 : n * i.size ≠ 0 := Nat.pos_iff_ne_zero.1 (Nat.mul_pos h0 hsz)
  have n3a : ¬ (n = 0) := by omega
  have n3b : ¬ (i.size = 0) := by omega
  have n4 : ¬ (9223372036854775807 < (n : Int)) := by simp only [maxLen] at h63; omega
  have n5 : ¬ (281474976710656 < Builtin.nextslicecap n 0 * i.bytes) := by rw [nextslicecap_zero h0]; omega
  refine ⟨⟨w.heap.size, grownCap w n 0 e, (Builtin.zeroCells z.cells n).toList ++ (Builtin.zeroCells z.cells (grownCap w n 0 e - n)).toList, 0⟩, w.drew.alloc (.cells (Builtin.zeroCells z.cells n ++ Builtin.zeroCells z.cells (grownCap w n 0 e - n)) e), ?_, ⟨by simp, ?_, Nat.zero_le _, hcm⟩, hge, ?_, ⟨Nat.le_refl _, ?_⟩⟩
  · simp [Builtin.append_, run_underlying ht, run_underlying hxt, sizeOf, typeInfo, zeroValue, hi, hz, asInt, asIntOf, wl, n1, n2, n3, n3a, n3b, n4, n5, Question.forced, run_firstCells_none, newRow, grownCap]
  · simp only [List.length_nil, List.length_append, Array.length_toList, size_zeroCells, hzs, Nat.zero_add]
    rw [← Nat.add_mul]
    congr 1
    show n + (grownCap w n 0 e - n) = grownCap w n 0 e
    omega
  · refine (heap_alloc_new w.drew _).trans ?_
    congr 2
    unfold sl
    simp
  · exact (Kept.drew w).trans (by simp) (Kept.alloc _ _)
end
theorem Hp.fresh {X : List Nat} {w0 : World} {L : List Blk} {w w' : World} (H : Hp X w0 L w) (k : Kept [] w w') {g : Nat} {ob : Obj} (hg : w.heap.size ≤ g) (hh : w'.heap[g]? = some ob) : Hp X w0 (⟨true, g, ob⟩ :: L) w' := by
  have H1 := H.call k
  refine ⟨H1.kept, fun p hp => ?_, fun p hp ho => ?_, List.pairwise_cons.2 ⟨fun p hp => ?_, H1.far⟩⟩
  · rcases List.mem_cons.1 hp with rfl | hp
    · exact hh
    · exact H1.held p hp
  · rcases List.mem_cons.1 hp with rfl | hp
    · exact .inl (Nat.le_trans H.kept.size hg)
    · exact H1.own p hp ho
  · have := heap_in (H.held p hp)
    show g ≠ p.ad
    omega
theorem Hp.front {X : List Nat} {w0 : World} {L : List Blk} {w : World} {k : Nat} {p : Blk} (H : Hp X w0 (L.set k p) w) (hk : k < L.length) : Hp X w0 (p :: L.eraseIdx k) w := by
  have hperm : (L.set k p).Perm (p :: L.eraseIdx k) := by
    rw [List.set_eq_take_append_cons_drop, if_pos hk, List.eraseIdx_eq_take_drop_succ]
    exact List.perm_middle
  exact ⟨H.kept, fun q hq => H.held q (hperm.mem_iff.2 hq), fun q hq => H.own q (hperm.mem_iff.2 hq), (hperm.pairwise_iff (fun h => Ne.symm h)).1 H.far⟩
section
variable {P : Program} {ops : Array Oper} {Q : Exit → Act → World → Prop} {rest : List Oper} {o : Oper} {a : Act} {w w0 : World} {n : Nat} {ds : List Deferred} {V : List (Nat × Value)} {X : List Nat} {L : List Blk}
theorem exec_append {t1 t2 : TypeId} {s x : Operand} (ho : o.op = .call { callee := .builtin .append, args := #[s, x], argTypes := #[t1, t2] }) {u v : Value} {w w' : World} (hs : evV V s = u) {xv : Value} (hx : evV V x = xv) (h : (Builtin.append_ #[t1, t2] o.type #[u, xv]).run P w = .ok v w') :
    (execOp (evV V) o).run P w = .ok (.value v) w' := by
  unfold execOp
  simp only [ho, resolve, invoke, builtin, Sem.run_bind, Sem.run_pure, Result.andThen_ok, List.map_toArray, List.map_cons, List.map_nil, hs, hx, h]
theorem T_app (F : Fm n ds V a) (H : Hp X w0 L w) (hc0 : opB ops V n o = true) (t e : TypeId) (s x : Operand) (ho : o.op = .call { callee := .builtin .append, args := #[s, x], argTypes := #[t, t] }) (size bytes : Nat) (ht : P.underlying t = some (.slice e)) (hi : infoB P e size bytes = true)
    (k : Nat) {g : Nat} {xs rs : List Value} (hl : L[k]? = some ⟨true, g, .cells (sl xs rs) e (0, 0)⟩) {m0 cap : Nat} (own : Own xs rs m0 cap size) (hs : evV V s = .slice (some ⟨g, 0, none⟩) m0 cap)
    (m : Nat) (news : List Value) (hx : ∀ w, Kept X w0 w → HeldL L w → RdS w (evV V x) m news) (hnl : news.length = m * size) (h1 : ∀ u ∈ news, u.oneCell' = true) (h63 : m0 + m ≤ maxLen) (hbytes : (m0 + m) * bytes ≤ 140737488355328) (L1 : List Blk) (hL : L.eraseIdx k = L1)
    (h : ∀ (r : SlR) a w, Own (xs ++ news) r.rest (m0 + m) r.cap size → Fm n ds (upV V o.dst (.slice (some ⟨r.g, 0, none⟩) (m0 + m) r.cap)) a → Hp X w0 (⟨true, r.g, .cells (sl (xs ++ news) r.rest) e (0, 0)⟩ :: L1) w → wpList P ops Q rest a w) : wpList P ops Q (o :: rest) a w := by
  obtain ⟨hg, hk, hd0⟩ := opB_spec hc0
  refine T_core F hg hk fun K hK => ?_
  obtain ⟨r, w', h2, h3, h4, h5⟩ := run_app (ty := o.type) ht hi own (H.at_ hl) (hx w H.kept ⟨H.held⟩) hnl h1 h63 hbytes
  rw [exec_append ho hs rfl h2, Oper.upon_value]
  refine hK _ _ (h r _ _ h3 (F.put _ _ hd0) ?_)
  subst hL
  rcases h5 with ⟨e1, h6⟩ | ⟨h6, h7⟩
  · rw [e1] at h4 ⊢
    exact (H.put hl h6 h4).front (List.getElem?_eq_some_iff.1 hl).1
  · exact (H.weak (List.eraseIdx_sublist _ _)).fresh h7 h6 h4
theorem T_appN (F : Fm n ds V a) (H : Hp X w0 L w) (hc0 : opB ops V n o = true) (t e : TypeId) (s x : Operand) (ho : o.op = .call { callee := .builtin .append, args := #[s, x], argTypes := #[t, t] }) (size bytes : Nat) (ht : P.underlying t = some (.slice e)) (hi : infoB P e size bytes = true)
    (hs : evV V s = .slice none 0 0)
    (m : Nat) (news : List Value) (hx : ∀ w, Kept X w0 w → HeldL L w → RdS w (evV V x) m news) (hnl : news.length = m * size) (h0 : 0 < m) (h63 : m ≤ maxLen) (hbytes : m * bytes ≤ 140737488355328)
    (h : ∀ (r : SlR) a w, Own news r.rest m r.cap size → Fm n ds (upV V o.dst (.slice (some ⟨r.g, 0, none⟩) m r.cap)) a → Hp X w0 (⟨true, r.g, .cells (sl news r.rest) e (0, 0)⟩ :: L) w → wpList P ops Q rest a w) : wpList P ops Q (o :: rest) a w := by
  obtain ⟨hg, hk, hd0⟩ := opB_spec hc0
  refine T_core F hg hk fun K hK => ?_
  obtain ⟨r, w', h2, h3, h4, h5, h6⟩ := run_appN (ty := o.type) ht hi (hx w H.kept ⟨H.held⟩) hnl h0 h63 hbytes
  rw [exec_append ho hs rfl h2, Oper.upon_value]
  exact hK _ _ (h r _ _ h3 (F.put _ _ hd0) (H.fresh h6 h5 h4))
theorem T_appZ (F : Fm n ds V a) (H : Hp X w0 L w) (hc0 : opB ops V n o = true) (t xt e : TypeId) (s x : Operand) (ho : o.op = .call { callee := .builtin .append, args := #[s, x], argTypes := #[t, xt] }) (size bytes : Nat) {k k' : IntKind} (ht : P.underlying t = some (.slice e)) (hxt : P.underlying xt = some (.int k')) (hi : infoB P e size bytes = true)
    (hs : evV V s = .slice none 0 0) (m : Nat) (hx : evV V x = .int k m) (h0 : 0 < m) (h63 : m ≤ maxLen) (hbytes : m * bytes ≤ 140737488355328)
    (h : ∀ (r : SlR) a w, Own [] r.rest 0 r.cap size → m ≤ r.cap → Fm n ds (upV V o.dst (.slice (some ⟨r.g, 0, none⟩) m r.cap)) a → Hp X w0 (⟨true, r.g, .cells (sl [] r.rest) e (0, 0)⟩ :: L) w → wpList P ops Q rest a w) : wpList P ops Q (o :: rest) a w := by
  obtain ⟨hg, hk, hd0⟩ := opB_spec hc0
  refine T_core F hg hk fun K hK => ?_
  obtain ⟨r, w', h2, h3, h3b, h4, h5, h6⟩ := run_appZ (P := P) (w := w) (ty := o.type) (k := k) ht hxt hi h0 hbytes h63
  rw [exec_append ho hs hx h2, Oper.upon_value]
  exact hK _ _ (h r _ _ h3 h3b (F.put _ _ hd0) (H.fresh h6 h5 h4))
/-- A call, whatever it tells and makes. -/
theorem T_callX {α : Type} (F : Fm n ds V a) (H : Hp X w0 L w) (hc0 : opB ops V n o = true) (f : Nat) (args : Array Value) (v : α → Value) (L' : α → List Blk) (Qx : α → Prop)
    (hr : ∀ w, (execOp (evV V) o).run P w = .ok (.enter f args) w) (hc : ∀ w, Hp X w0 L w → Calls P f args w fun e w' => ∃ x, e = .returned (v x) ∧ Qx x ∧ Hp X w0 (L' x) w')
    (h : ∀ x a w, Qx x → Fm n ds (upV V o.dst (v x)) a → Hp X w0 (L' x) w → wpList P ops Q rest a w) : wpList P ops Q (o :: rest) a w := by
  obtain ⟨hg, hk, hd0⟩ := opB_spec hc0
  refine T_core F hg hk fun K hK => ?_
  rw [hr w, Oper.upon_enter]
  refine (hc w H).mono fun e w' ⟨x, he, h2, h3⟩ => ?_
  subst he
  exact hK _ _ (h x _ _ h2 (F.put _ _ hd0) h3)
end
/-- What a call that makes a slice promises. -/
def MadeS (X : List Nat) (e : TypeId) (size m : Nat) (cs : List Value) (w : World) (en : Ending) (w' : World) : Prop :=
  ∃ r : SlR, en = .returned (.slice (some ⟨r.g, 0, none⟩) m r.cap) ∧ Own cs r.rest m r.cap size ∧ w.heap.size ≤ r.g ∧ w'.heap[r.g]? = some (.cells (sl cs r.rest) e (0, 0)) ∧ Kept X w w'
theorem callsX_putV {P : Program} {X : List Nat} {w0 : World} {L : List Blk} {f : Nat} {args : Array Value} {w : World} (H : Hp X w0 L w) {k ad : Nat} {Z : Obj} {R : SlR → Obj} {q : SlR → Prop} {v : SlR → Value} (hk : L[k]? = some ⟨true, ad, Z⟩) (h : Calls P f args w fun en w' => ∃ r, en = .returned (v r) ∧ q r ∧ Kept [ad] w w' ∧ w'.heap[ad]? = some (R r)) :
    Calls P f args w fun en w' => ∃ r : SlR, en = .returned (v r) ∧ q r ∧ Hp X w0 (L.set k ⟨true, ad, R r⟩) w' :=
  h.mono fun _ w' ⟨r, h1, h2, h3, h4⟩ => ⟨r, h1, h2, H.put hk h3 h4⟩
theorem callsX_newV {P : Program} {X : List Nat} {w0 : World} {L : List Blk} {f : Nat} {args : Array Value} {w : World} (H : Hp X w0 L w) {Z : SlR → Obj} {q : SlR → Prop} {v : SlR → Value} (h : Calls P f args w fun en w' => ∃ r, en = .returned (v r) ∧ q r ∧ w.heap.size ≤ r.g ∧ w'.heap[r.g]? = some (Z r) ∧ Kept [] w w') :
    Calls P f args w fun en w' => ∃ r : SlR, en = .returned (v r) ∧ q r ∧ Hp X w0 (⟨true, r.g, Z r⟩ :: L) w' :=
  h.mono fun _ w' ⟨r, h1, h2, h3, h4, h5⟩ => ⟨r, h1, h2, H.fresh h5 h3 h4⟩
theorem callsX_bothV {P : Program} {X : List Nat} {w0 : World} {L : List Blk} {f : Nat} {args : Array Value} {w : World} (H : Hp X w0 L w) {k ad : Nat} {Y : Obj} {R Z : SlR → Obj} {q q1 : SlR → Prop} {v : SlR → Value} (hk : L[k]? = some ⟨true, ad, Y⟩) (h : Calls P f args w fun en w' => ∃ r, en = .returned (v r) ∧ q r ∧ q1 r ∧ w.heap.size ≤ r.g ∧ w'.heap[r.g]? = some (Z r) ∧ Kept [ad] w w' ∧ w'.heap[ad]? = some (R r)) :
    Calls P f args w fun en w' => ∃ r : SlR, en = .returned (v r) ∧ (q r ∧ q1 r) ∧ Hp X w0 (⟨true, r.g, Z r⟩ :: L.set k ⟨true, ad, R r⟩) w' :=
  h.mono fun _ w' ⟨r, h1, h2, h2b, h3, h4, h5, h6⟩ => by
    refine ⟨r, h1, ⟨h2, h2b⟩, ?_⟩
    have H1 := H.put hk h5 h6
    refine ⟨H1.kept, fun p hp => ?_, fun p hp ho => ?_, List.pairwise_cons.2 ⟨fun p hp => ?_, H1.far⟩⟩
    · rcases List.mem_cons.1 hp with rfl | hp
      · exact h4
      · exact H1.held p hp
    · rcases List.mem_cons.1 hp with rfl | hp
      · exact .inl (Nat.le_trans H.kept.size h3)
      · exact H1.own p hp ho
    · show r.g ≠ p.ad
      have hlt : p.ad < w.heap.size := by
        obtain ⟨j, hj, rfl⟩ := List.mem_iff_getElem.1 hp
        rw [List.getElem_set]
        split
        · have h9 := heap_in (H.at_ hk)
          exact h9
        · exact heap_in (H.held _ (List.getElem_mem _))
      omega
/-- Whole numbers as cells. -/
def ints (k : IntKind) (l : List Nat) : List Value := l.map fun (n : Nat) => Value.int k (n : Int)
abbrev oct (l : List Nat) : List Value := ints .u8 l
theorem ints_len (k : IntKind) (l : List Nat) : (ints k l).length = l.length := by simp [ints]
theorem ints_get {k : IntKind} {l : List Nat} {i n : Nat} (h : l[i]? = some n) : (ints k l)[i]? = some (.int k n) := by simp [ints, h]
theorem ints_one (k : IntKind) (l : List Nat) : ∀ u ∈ ints k l, u.oneCell' = true := by
  intro u hu
  obtain ⟨n, _, rfl⟩ := List.mem_map.1 hu
  rfl
theorem ints_app (k : IntKind) (l m : List Nat) : ints k (l ++ m) = ints k l ++ ints k m := by simp [ints]
theorem ints_set (k : IntKind) (l : List Nat) (i n : Nat) : (ints k l).set i (.int k n) = ints k (l.set i n) := by simp [ints, List.map_set]
/-- An array of numbers. -/
def arrF (k : IntKind) (n : Nat) (f : Nat → Nat) : Array Value := ((List.range n).map fun i => Value.int k (f i)).toArray
theorem arrF_size (k : IntKind) (n : Nat) (f : Nat → Nat) : (arrF k n f).size = n := by simp [arrF]
theorem arrF_get {k : IntKind} {n : Nat} (f : Nat → Nat) {i : Nat} (h : i < n) : (arrF k n f)[i]? = some (.int k (f i)) := by simp [arrF, h]
theorem arrF_congr {k : IntKind} {n : Nat} {f g : Nat → Nat} (h : ∀ i, i < n → f i = g i) : arrF k n f = arrF k n g := by
  unfold arrF
  congr 1
  exact List.map_congr_left fun i hi => by rw [h i (List.mem_range.1 hi)]
theorem arrF_upd {k : IntKind} {n : Nat} (f : Nat → Nat) {i : Nat} (h : i < n) (v : Nat) : (arrF k n f).setIfInBounds i (.int k v) = arrF k n (upd f i v) := by
  refine Array.ext_getElem? fun j => ?_
  rw [Array.getElem?_setIfInBounds]
  by_cases e : i = j
  · subst e
    rw [if_pos rfl, if_pos (by rw [arrF_size]; exact h), arrF_get _ h]
    simp [upd]
  · rw [if_neg e]
    rcases Nat.lt_or_ge j n with hj | hj
    · rw [arrF_get _ hj, arrF_get _ hj]
      simp [upd, Ne.symm e]
    · rw [Array.getElem?_eq_none (by rw [arrF_size]; exact hj), Array.getElem?_eq_none (by rw [arrF_size]; exact hj)]
theorem arrF_one (k : IntKind) (n : Nat) (f : Nat → Nat) : (arrF k n f).all (·.oneCell') = true := by
  rw [Array.all_eq_true]
  intro i hi
  have hi' : i < n := by rw [arrF_size] at hi; exact hi
  have h := arrF_get (k := k) f hi'
  rw [Array.getElem?_eq_getElem hi] at h
  rw [Option.some.inj h]
  rfl
section
variable {P : Program} {o : Oper} {V : List (Nat × Value)}
/-- A part of a slice. -/
theorem R_slice {t e : TypeId} {x : Operand} {lo hi : Option Operand} (ho : o.op = .slice t x lo hi none) (hu : P.underlying t = some (.slice e)) {ad : Option Addr} {len cap : Nat} (hx : evV V x = .slice ad len cap) (l h : Nat)
    (hlo : (match lo with | none => l = 0 | some y => ∃ k : IntKind, evV V y = .int k l)) (hhi : (match hi with | none => h = len | some y => ∃ k : IntKind, evV V y = .int k h)) (h1 : l ≤ h) (h2 : h ≤ cap) {sz : Nat} (hs : (P.info? e).map (·.size) = some sz) (v : Value)
    (hv : (.slice (if cap = l then ad else ad.map (·.add (l * sz))) (h - l) (cap - l)) = v) (w : World) : (execOp (evV V) o).run P w = .ok (.value v) w := by
  have hsz : (sizeOf e).run P w = .ok sz w := by
    cases hq : P.info? e with
    | none => simp [hq] at hs
    | some j =>
      have hs' : j.size = sz := by simpa [hq] using hs
      simp [sizeOf, typeInfo, hq, hs', Sem.run_bind, go_sem]
  have hel : P.underlying t = some (.slice (P.elem t)) := by simp [Program.elem, hu]
  have hee : P.elem t = e := by simp [Program.elem, hu]
  subst hv
  unfold execOp
  cases lo with
  | none =>
    dsimp only at hlo
    subst hlo
    cases hi with
    | none =>
      dsimp only at hhi
      subst hhi
      simp only [ho, hx, Option.map_none, Sem.run_bind, run_sliceAt_slice w t _ _ _ _ hel, run_slice_all w t ad h cap hel, hee, hsz, Result.andThen_ok, sliced, Sem.run_pure, Int.toNat_natCast]
    | some y =>
      obtain ⟨k, hy⟩ := hhi
      simp only [ho, hx, hy, Option.map_none, Option.map_some, Sem.run_bind, run_sliceAt_slice w t _ _ _ _ hel, run_slice_h w t ad len cap hel k h (by omega) (by omega), hee, hsz, Result.andThen_ok, sliced, Sem.run_pure, Int.toNat_natCast]
  | some z =>
    obtain ⟨k2, hz⟩ := hlo
    cases hi with
    | none =>
      dsimp only at hhi
      subst hhi
      simp only [ho, hx, hz, Option.map_none, Option.map_some, Sem.run_bind, run_sliceAt_slice w t _ _ _ _ hel, run_slice_l w t ad h cap hel k2 l (by omega) (by omega), hee, hsz, Result.andThen_ok, sliced, Sem.run_pure, Int.toNat_natCast]
    | some y =>
      obtain ⟨k, hy⟩ := hhi
      simp only [ho, hx, hy, hz, Option.map_none, Option.map_some, Sem.run_bind, run_sliceAt_slice w t _ _ _ _ hel, run_slice_lh w t ad len cap hel k2 k l h (by omega) (by omega) (by omega), hee, hsz, Result.andThen_ok, sliced, Sem.run_pure, Int.toNat_natCast]
theorem R_arrayAt {t e : TypeId} {x : Operand} {m : Nat} (ho : o.op = .sliceToArrayPointer t x) (hu : P.underlying t = some (.array m e)) {ad : Option Addr} {len cap : Nat} (hx : evV V x = .slice ad len cap) (hm : m ≤ len) (w : World) : (execOp (evV V) o).run P w = .ok (.value (.pointer ad)) w := by
  unfold execOp
  have h1 : ¬ len < m := by omega
  have hr : (Instr.arrayAt t (.slice ad len cap)).run P w = .ok (.pointer ad) w := by
    simp [Instr.arrayAt, run_underlying hu, h1, Sem.run_bind, go_sem]
  simp only [ho, hx, Sem.run_bind, hr, Result.andThen_ok, Sem.run_pure]
theorem madeCells_one (z : Value) (c : Array Value) (hc : c = #[z]) (n : Nat) : madeCells c n = sl (List.replicate n z) [] := by
  subst hc
  unfold madeCells sl
  refine Array.ext_getElem? fun i => ?_
  by_cases h : i < n
  · simp [h, Nat.mod_one]
  · simp [h]
/-- A slice of so many cells that hold nothing. -/
theorem R_make {t e : TypeId} {x y : Operand} (ho : o.op = .makeSlice t x y) (hu : P.underlying t = some (.slice e)) {m : Nat} {k k' : IntKind} (hx : evV V x = .int k m) (hy : evV V y = .int k' m) (z : Value) {bytes : Nat} (hi : infoB P e 1 bytes = true) (hz : (P.info? e).bind (·.zero) = some z) (hzc : z.cells = #[z]) (hb : bytes * m ≤ 281474976710656) (h63 : m ≤ maxLen) (w : World) :
    (execOp (evV V) o).run P w = .ok (.value (.slice (some ⟨w.heap.size, 0, none⟩) m m)) (w.alloc (.cells (sl (List.replicate m z) []) e (0, 0))) := by
  obtain ⟨i, z', hi, hz', hs, hb', hzs, hsz⟩ := infoB_spec hi
  have e1 : z' = z := by rw [hi] at hz; simpa [hz'] using hz
  subst e1
  have hb2 : ((i.bytes * m : Nat) : Int) ≤ 281474976710656 := by rw [hb']; omega
  rw [Int.natCast_mul] at hb2
  have hr := run_make (P := P) w t e i z' hu hi hz' k k' m m (by omega) (Int.le_refl _) hb2 (by simp only [maxLen] at h63; omega)
  rw [hs, Nat.mul_one, madeCells_one z' _ hzc] at hr
  simp only [Int.toNat_natCast] at hr
  unfold execOp
  simp only [ho, hx, hy, Sem.run_bind, hr, Result.andThen_ok, Sem.run_pure]
def fillOf (P : Program) (e : TypeId) (len : Nat) (parts : List (Nat × Value)) : Option (Array Value) := match P.info? e with
  | some ie => match ie.zero with
    | some z => bif Nat.ble (len * ie.size) 16777216 && !Nat.beq (len * ie.size) 0 then Instr.fill (fun i => some (i * ie.size, ie.size)) ((Array.range (len * ie.size)).map (z.cells[· % z.cells.size]!)) parts else none
    | none => none
  | none => none
theorem R_buildS {t e : TypeId} {len : Nat} {parts : Array (Nat × Operand)} (ho : o.op = .buildSlice t len parts) (hu : P.underlying t = some (.slice e)) (cells : Array Value) (hf : fillOf P e len (parts.map fun (i, x) => (i, evV V x)).toList = some cells) (w : World) :
    (execOp (evV V) o).run P w = .ok (.value (.slice (some ⟨w.heap.size, 0, none⟩) len len)) (w.alloc (.cells cells e (0, 0))) := by
  unfold fillOf at hf
  cases hie : P.info? e with
  | none => rw [hie] at hf; cases hf
  | some ie =>
    rw [hie] at hf
    dsimp only at hf
    cases hz : ie.zero with
    | none => rw [hz] at hf; cases hf
    | some z =>
      rw [hz] at hf
      dsimp only at hf
      cases hb : (Nat.ble (len * ie.size) 16777216 && !Nat.beq (len * ie.size) 0) with
      | false => rw [hb] at hf; cases hf
      | true =>
        rw [hb] at hf
        simp only [Bool.and_eq_true] at hb
        have h1 := Nat.le_of_ble_eq_true hb.1
        have h2 : len * ie.size ≠ 0 := Nat.ne_of_beq_eq_false (by simpa using hb.2)
        unfold execOp
        simp only [ho, Sem.run_bind, run_buildSlice w t e len _ cells ie z hu hie hz (by omega) h2 hf, Result.andThen_ok, Sem.run_pure]
end
/-! Short names. -/
abbrev pt (g off : Nat) : Value := .pointer (some ⟨g, off, none⟩)
abbrev sc (g off n c : Nat) : Value := .slice (some ⟨g, off, none⟩) n c
abbrev ni (n : Nat) : Value := .int .i64 ((n : Nat) : Int)
abbrev nw (n : Nat) : Value := .int .u32 ((n : Nat) : Int)
abbrev nb (n : Nat) : Value := .int .u8 ((n : Nat) : Int)
abbrev nu (n : Nat) : Value := .int .u64 ((n : Nat) : Int)
abbrev kyV (f : Nat → Nat) : Value := .agg (arrF .u8 32 f)
abbrev ce (a : Array Value) (t : TypeId) : Obj := .cells a t (0, 0)
abbrev bk (g : Nat) (a : Array Value) (t : TypeId) : Blk := ⟨true, g, .cells a t (0, 0)⟩
abbrev br (g : Nat) (a : Array Value) (t : TypeId) : Blk := ⟨false, g, .cells a t (0, 0)⟩
abbrev gT {α : Type} : α → Prop := fun _ => True
abbrev z8 : Array Value := #[.int .u8 0, .int .u8 0, .int .u8 0, .int .u8 0, .int .u8 0, .int .u8 0, .int .u8 0, .int .u8 0, .int .u8 0, .int .u8 0, .int .u8 0, .int .u8 0, .int .u8 0, .int .u8 0, .int .u8 0, .int .u8 0, .int .u8 0, .int .u8 0, .int .u8 0, .int .u8 0, .int .u8 0, .int .u8 0, .int .u8 0, .int .u8 0, .int .u8 0, .int .u8 0, .int .u8 0, .int .u8 0, .int .u8 0, .int .u8 0, .int .u8 0, .int .u8 0]
theorem kq {α : Type} {p : α → Prop} (h : ∀ β, p β := by intro β; as_aux_lemma => kernel_rfl) : ∀ β, p β := h
theorem subL_of {V : List (Nat × Value)} : ∀ {U : List (Nat × Value)}, (U.map fun p => lk V p.1) = (U.map fun p => some p.2) → subL V U
  | [], _ => trivial
  | (t, v) :: U, h => by
    simp only [List.map_cons, List.cons.injEq] at h
    exact ⟨h.1, subL_of h.2⟩
section
variable {P : Program} {ops : Array Oper} {Q : Exit → Act → World → Prop} {rest : List Oper} {o : Oper} {a : Act} {w w0 : World} {n : Nat} {ds : List Deferred} {V : List (Nat × Value)} {X : List Nat} {L : List Blk}
theorem T_k (F : Fm n ds V a) (H : Hp X w0 L w) (v : Value) (h : ∀ a, Fm n ds (upV V o.dst v) a → wpList P ops Q rest a w) (hc0 : opB ops V n o = true := by as_aux_lemma => kernel_rfl) (hr : ∀ w, (execOp (evV V) o).run P w = .ok (.value v) w := by intro w; as_aux_lemma => kernel_rfl) : wpList P ops Q (o :: rest) a w :=
  T_val F H hc0 v (fun w _ => hr w) h
theorem R_loadH {w : World} (H : HeldL L w) (k : Nat) {own : Bool} {g : Nat} {all : Array Value} {t : TypeId} {fr : Nat × Nat} (hl : L[k]? = some ⟨own, g, .cells all t fr⟩) (ty : TypeId) (y : Operand) (ho : o.op = .load ty y) (off : Nat) (hy : evV V y = .pointer (some ⟨g, off, none⟩)) (cs : Array Value) (hcs : ∀ j v, cs[j]? = some v → all[off + j]? = some v)
    (d : TypeDesc) (hu : P.underlying ty = some d) (hd : (match d with | .struct _ | .array _ _ => true | _ => false) = true) (hi : (P.info? ty).map (·.size) = some cs.size) : (execOp (evV V) o).run P w = .ok (.value (.agg cs)) w :=
  R_load k hl ty y ho off hy cs hcs d hu hd hi w H
theorem R_cellH {w : World} (H : HeldL L w) (k : Nat) {own : Bool} {g : Nat} {all : Array Value} {t : TypeId} {fr : Nat × Nat} (hl : L[k]? = some ⟨own, g, .cells all t fr⟩) (ty : TypeId) (y : Operand) (ho : o.op = .load ty y) (off : Nat) (hy : evV V y = .pointer (some ⟨g, off, none⟩)) (v : Value) (hv : all[off]? = some v)
    (d : TypeDesc) (hu : P.underlying ty = some d) (hd : (match d with | .struct _ | .array _ _ => true | _ => false) = false) : (execOp (evV V) o).run P w = .ok (.value v) w :=
  R_cell k hl ty y ho off hy v hv d hu hd w H
end
end Go.Proofs.Ytlnlppmhiobgjaa
