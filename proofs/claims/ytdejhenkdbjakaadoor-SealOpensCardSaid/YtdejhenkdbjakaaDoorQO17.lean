/- W8 -/
import Derived.Test.YtdejhenkdbjakaaDoorQO16
import Derived.Lib.ConvBytes
set_option linter.unusedVariables false
set_option linter.unusedSimpArgs false
set_option maxRecDepth 100000
set_option maxHeartbeats 4000000
namespace Go.Proofs.YtdejhenkdbjakaaDoor
open Go Go.RowKit
theorem run_bytes {P : Program} {o : Oper} {V : List (Nat × Value)} {w : World} {src dst : TypeId} {x : Operand} (ho : o.op = .convert src dst x) {u : TypeDesc} (hs : P.underlying src = some u) (hd : P.underlying dst = some (.slice 5)) (he : P.underlying 5 = some (.int .u8)) {s : ByteArray} (hx : evV V x = .string s) {lb : List Nat} (hl : (s.data.map fun b => Value.int .u8 b.toNat) = (oct lb).toArray) (hn : s.size = lb.length) :
    ∃ (r : SlR) (w' : World), (execOp (evV V) o).run P w = .ok (.value (.slice (some ⟨r.g, 0, none⟩) lb.length r.cap)) w' ∧ lb.length ≤ r.cap ∧ w.heap.size ≤ r.g ∧ w'.heap[r.g]? = some (.cells (sl (oct lb) r.rest) 5 (r.n, r.n + 1)) ∧ Kept [] w w' := by
  have hr := Lib.run_convert_string_bytes (P := P) w src dst 5 s hs hd he
  rw [hn] at hr
  refine ⟨⟨w.heap.size, grownCap w lb.length 0 5, List.replicate (grownCap w lb.length 0 5 - lb.length) (.int .u8 0), (Lib.bytesCells w 5 s).size⟩, Lib.bytesWorld w 5 s, ?_, grownCap_ge _ _ _ _, Nat.le_refl _, ?_, ⟨rfl, rfl, rfl, by rw [Lib.bytesWorld_size]; omega, fun k hk _ => Lib.bytesWorld_at_old w 5 s k hk⟩⟩
  · unfold execOp
    simp only [ho, hx, Sem.run_bind, hr, Result.andThen_ok, Sem.run_pure]
  · rw [Lib.bytesWorld_at_new]
    have e : Lib.bytesCells w 5 s = sl (oct lb) (List.replicate (grownCap w lb.length 0 5 - lb.length) (.int .u8 0)) := by
      unfold Lib.bytesCells sl
      rw [hl, hn]
      simp
    rw [e]
theorem T_newG {P : Program} {ops : Array Oper} {Q : Exit → Act → World → Prop} {rest : List Oper} {o : Oper} {a : Act} {w w0 : World} {n : Nat} {ds : List Deferred} {V : List (Nat × Value)} {X : List Nat} {L : List Blk} (F : Fm n ds V a) (H : Hp X w0 L w) (hc0 : opB ops V n o = true) (v : SlR → Value) (Z : SlR → Obj) (q : SlR → Prop)
    (hr : ∀ w, HeldL L w → ∃ (r : SlR) (w' : World), (execOp (evV V) o).run P w = .ok (.value (v r)) w' ∧ q r ∧ w.heap.size ≤ r.g ∧ w'.heap[r.g]? = some (Z r) ∧ Kept [] w w')
    (h : ∀ r a w, q r → Fm n ds (upV V o.dst (v r)) a → Hp X w0 (⟨true, r.g, Z r⟩ :: L) w → wpList P ops Q rest a w) : wpList P ops Q (o :: rest) a w := by
  obtain ⟨hg, hk, hd0⟩ := opB_spec hc0
  refine T_core F hg hk fun K hK => ?_
  obtain ⟨r, w', h1, h2, h3, h4, h5⟩ := hr w ⟨H.held⟩
  rw [h1, Oper.upon_value]
  exact hK _ _ (h r _ _ h2 (F.put _ _ hd0) (H.fresh h5 h3 h4))
theorem macsum_to (gm n : Nat) (p : SlP) (hbk : ∀ x ∈ p.l, x < 256) (hn : p.l.length = p.n) (h64 : p.n ≤ 64) (ps : List SlP) (L : List Nat) (hL : catP ps = L) (hs : 0 < L.length ∧ L.length < 549755813888 ∧ ps.length < 1000000) (ad cp : Nat) (arr : Array Value) (ty : Nat) (ha : arr = (ps.map SlP.v).toArray) (w : World) (hrds : AllR w ps) (hblk : w.heap[ad]? = some (.cells arr ty (0, 0))) (hrd : RdS w p.v p.n (oct p.l)) (hb : ∀ x ∈ L, x < 256) (hW : Laid w) (hm : w.heap[gm]? = some (.cells (mtr n) 91 (0, 0))) : Calls Tryd.prog 90 #[.pointer (some ⟨gm, 0, none⟩), .slice p.ad p.n p.c, .slice (some ⟨ad, 0, none⟩) ps.length cp] w fun e w' => ∃ r : SlR, e = .returned (.agg (arrF .u8 32 (macK p.l L))) ∧ r.n = n + 2 ∧ Kept [gm] w w' ∧ w'.heap[gm]? = some (.cells (mtr r.n) 91 (0, 0)) := by
  subst hL
  exact macsum_any gm n p hbk hn h64 ps hs.1 hs.2.1 hs.2.2 ad cp arr ty (arr_of ps ha) w hrds hblk hrd hb hW hm

end Go.Proofs.YtdejhenkdbjakaaDoor
