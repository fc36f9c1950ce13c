/- XR -/
import Derived.Test.YtdejhenkdbjakaaDoorQM18
set_option linter.unusedVariables false
set_option linter.unusedSimpArgs false
set_option maxRecDepth 100000
set_option maxHeartbeats 4000000
namespace Go.Proofs.YtdejhenkdbjakaaDoor
open Go Go.RowKit
def RdK (X : List Nat) (w : World) (p : SlP) : Prop := ∀ w', Kept X w w' → RdS w' p.v p.n (oct p.l)
theorem RdK.from {X : List Nat} {w w' : World} {p : SlP} (h : RdK [] w p) (k : Kept [] w w') (hx : ∀ x ∈ X, w.heap.size ≤ x) : RdK X w' p := fun _ k2 => h _ (k.trans (fun y hy => .inl (hx y hy)) k2)
theorem RdK.own {X : List Nat} {w : World} {g n c : Nat} {l : List Nat} {rest : List Value} {t : TypeId} {fr : Nat × Nat} (hg : w.heap[g]? = some (.cells (sl (oct l) rest) t fr)) (hc : n ≤ c) (hx : g ∉ X) : RdK X w ⟨some ⟨g, 0, none⟩, n, c, l⟩ := fun w' k =>
  RdS.all ((k.block g (heap_in hg) hx).trans hg) hc

theorem callsX_new2 {P : Program} {X : List Nat} {w0 : World} {L : List Blk} {f : Nat} {args : Array Value} {w : World} (H : Hp X w0 L w) {k k2 ad ad2 : Nat} {Z Z2 : Obj} {R R2 Y : SlR → Obj} {q : SlR → Prop} {v : SlR → Value} (hk : L[k]? = some ⟨true, ad, Z⟩) (hk2 : L[k2]? = some ⟨true, ad2, Z2⟩) (hne : k ≠ k2) (h : Calls P f args w fun en w' => ∃ r, en = .returned (v r) ∧ q r ∧ w.heap.size ≤ r.g ∧ w'.heap[r.g]? = some (Y r) ∧ Kept [ad, ad2] w w' ∧ w'.heap[ad]? = some (R r) ∧ w'.heap[ad2]? = some (R2 r)) :
    Calls P f args w fun en w' => ∃ r : SlR, en = .returned (v r) ∧ q r ∧ Hp X w0 (⟨true, r.g, Y r⟩ :: (L.set k ⟨true, ad, R r⟩).set k2 ⟨true, ad2, R2 r⟩) w' :=
  h.mono fun _ w' ⟨r, h1, h2, h3, h4, h5, h6, h7⟩ => by
    refine ⟨r, h1, h2, ?_⟩
    have H1 := H.put2 hk hk2 hne h5 h6 h7
    refine ⟨H1.kept, fun p hp => ?_, fun p hp ho => ?_, List.pairwise_cons.2 ⟨fun p hp => ?_, H1.far⟩⟩
    · rcases List.mem_cons.1 hp with rfl | hp
      · exact h4
      · exact H1.held p hp
    · rcases List.mem_cons.1 hp with rfl | hp
      · exact .inl (Nat.le_trans H.kept.size h3)
      · exact H1.own p hp ho
    · show r.g ≠ p.ad
      have hads : ((L.set k ⟨true, ad, R r⟩).set k2 ⟨true, ad2, R2 r⟩).map (·.ad) = L.map (·.ad) := by
        rw [List.map_set, List.map_set]
        have e1 : (L.map (·.ad))[k]? = some ad := by rw [List.getElem?_map, hk]; rfl
        have e2 : (L.map (·.ad))[k2]? = some ad2 := by rw [List.getElem?_map, hk2]; rfl
        obtain ⟨a1, a2⟩ := List.getElem?_eq_some_iff.1 e1
        obtain ⟨b1, b2⟩ := List.getElem?_eq_some_iff.1 e2
        have s1 : (L.map (·.ad)).set k ad = L.map (·.ad) := by rw [← a2]; exact List.set_getElem_self a1
        rw [s1]
        rw [← b2]; exact List.set_getElem_self b1
      have hm : p.ad ∈ L.map (·.ad) := by rw [← hads]; exact List.mem_map_of_mem hp
      obtain ⟨p0, hp0, e⟩ := List.mem_map.1 hm
      have := heap_in (H.held p0 hp0)
      rw [e] at this
      omega

theorem P_mark {P : Program} {o : Oper} {V : List (Nat × Value)} {w : World} {t e : TypeId} {x : Operand} (ho : o.op = .convert t t x) (ht : P.underlying t = some (.slice e)) (he : P.underlying e = some (.int .u8)) {g n c : Nat} {C : Array Value} {ty : TypeId} (hx : evV V x = .slice (some ⟨g, 0, none⟩) n c) (hg : w.heap[g]? = some (.cells C ty (0, 0))) :
    ∃ w', (execOp (evV V) o).run P w = .ok (.value (.slice (some ⟨g, 0, none⟩) n c)) w' ∧ Kept [g] w w' ∧ w'.heap[g]? = some (.cells C ty (C.size, C.size + 1)) := by
  have hsh : w.shape? g = some (ty, C.size) := by unfold World.shape?; rw [hg]
  refine ⟨w.freeze ⟨g, C.size, none⟩ 1, ?_, ⟨rfl, rfl, rfl, ?_, fun k hk hn => ?_⟩, ?_⟩
  · unfold execOp
    simp [ho, hx, convert, run_underlying ht, run_underlying he, markStringish, hsh, Sem.run_bind, Sem.run_pure, go_sem]
  · unfold World.freeze; rw [if_neg (by decide)]; simp
  · unfold World.freeze
    rw [if_neg (by decide)]
    have hne : g ≠ k := fun e => hn (by simp [e])
    simp [Array.getElem?_modify, hne]
  · unfold World.freeze
    rw [if_neg (by decide)]
    simp [Array.getElem?_modify, hg]

end Go.Proofs.YtdejhenkdbjakaaDoor
