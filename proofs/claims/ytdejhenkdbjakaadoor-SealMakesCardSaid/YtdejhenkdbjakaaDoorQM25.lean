/- YR -/
import Derived.Test.YtdejhenkdbjakaaDoorQM14
import Derived.RangeFuncRecord
import Derived.OrdersIn
import Derived.TacticsIn
import Derived.RangeFuncCalls
set_option linter.unusedVariables false
set_option linter.unusedSimpArgs false
set_option maxRecDepth 100000
set_option maxHeartbeats 4000000
namespace Go.Proofs.YtdejhenkdbjakaaDoor
open Go Go.RowKit
abbrev rf (l : Nat) : Fence := Fence.wide.inRound l
def noDefer (o : Oper) : Bool := match o.op with | .defer _ => false | _ => true
theorem noDefer_spec {o : Oper} (h : noDefer o = true) : ∀ c, o.op ≠ .defer c := fun c e => by
  unfold noDefer at h; rw [e] at h; cases h
theorem callsR {P : Program} {l n f : Nat} {args : Array Value} {w : World} {R : Ending → World → Prop} (h : Calls P f args w R) : CallsIn (rf l) n P f args w R := CallsIn.inRound l (callsIn_wide.2 h)
theorem rowsR {P : Program} {l n : Nat} {row : String} {args : Array Value} {w : World} {R : Value → World → Prop} (h : Rows P row args w R) : RowsIn (rf l) n P row args w R := fun c cs _ => by
  obtain ⟨v, w', h1, h2⟩ := h c cs
  exact ⟨v, w', h1, stepsIn_wide.2 h2⟩
theorem nodep {m : Nat} : (none : Option Nat).isSome = true → 1 ≤ m := fun e => Bool.noConfusion e
theorem rowsW {P : Program} {n : Nat} {row : String} {args : Array Value} {w : World} {R : Value → World → Prop} (h : Rows P row args w R) : RowsIn Fence.wide n P row args w R := fun c cs _ => by
  obtain ⟨v, w', h1, h2⟩ := h c cs
  exact ⟨v, w', h1, stepsIn_wide.2 h2⟩
theorem opR {P : Program} {l n : Nat} {o : Oper} {a : Act} {w : World} {next : Act → World → Prop} {Q : Exit → Act → World → Prop} (hnd : noDefer o = true) (hno : ¬ LetsOut Q) (h : o.wp P a w next Q ∨ (o.asks P a w ∧ LetsOut Q)) : o.wpIn (rf l) n P a w next Q := by
  replace h := h.resolve_right (fun x => hno x.2)
  refine ⟨fun _ _ => trivial, ?_⟩
  rw [Oper.semAt_eq _ _ _ (noDefer_spec hnd)]
  unfold Oper.wp at h
  generalize (execOp a.eval o).run P w = r at *
  cases r with
  | ok x w' =>
    cases x with
    | value v => exact h
    | skip => exact h
    | defer d => exact h
    | enter f args => exact ⟨nodep, callsR h⟩
    | row row args => exact ⟨nodep, rowsR h⟩
    | _ => exact h.elim
  | halt x w' => cases x <;> first | exact h | exact h.elim
theorem listR {P : Program} {l n : Nat} {ops : Array Oper} {Q : Exit → Act → World → Prop} (hno : ¬ LetsOut Q) : ∀ (lo : List Oper) (a : Act) (w : World), lo.all noDefer = true → wpList P ops Q lo a w → wpListIn (rf l) n P ops Q lo a w
  | [], _, _, _, h => h
  | o :: rest, a, w, hnd, h => by
    simp only [List.all_cons, Bool.and_eq_true] at hnd
    simp only [wpList] at h
    simp only [wpListIn]
    split at h
    · rename_i hw
      rw [if_pos hw]
      refine opR hnd.1 hno ?_
      rcases h with h | h
      · exact .inl (Oper.wp_mono (fun a w => listR hno rest a w hnd.2) h)
      · exact .inr h
    · rename_i hw
      rw [if_neg hw]
      exact ⟨fun _ _ => trivial, listR hno rest _ _ hnd.2 h⟩
theorem anyR {P : Program} {l n : Nat} {ops : Array Oper} {Q : Exit → Act → World → Prop} (hno : ¬ LetsOut Q) (hnd : ∀ (i : Nat) (o : Oper), ops[i]? = some o → noDefer o = true) : ∀ (fuel : Nat) (d : Array Bool) (a : Act) (w : World), wpAny P .any ops Q fuel d a w → wpAnyIn (rf l) n P .any ops Q fuel d a w
  | 0, _, _, _, h => h
  | fuel + 1, d, a, w, h => by
    refine ⟨h.1, fun i hi => ?_⟩
    have h2 := h.2 i hi
    unfold wpOp at h2
    unfold wpOpIn
    cases ho : ops[i]? with
    | none => rw [ho] at h2; exact anyR hno hnd fuel _ a w h2
    | some o =>
      rw [ho] at h2
      dsimp only at h2 ⊢
      split at h2
      · rename_i hw
        rw [if_pos hw]
        refine opR (hnd i o ho) hno ?_
        rcases h2 with h2 | h2
        · exact .inl (Oper.wp_mono (fun a w => anyR hno hnd fuel _ a w) h2)
        · exact .inr h2
      · rename_i hw
        rw [if_neg hw]
        exact ⟨fun _ _ => trivial, anyR hno hnd fuel _ _ w h2⟩
/-! What is walked in a round. -/
section
variable {P : Program} {a : Act} {w w0 : World} {Q : Exit → Act → World → Prop} {nn : Nat} {ds : List Deferred} {V : List (Nat × Value)} {X : List Nat} {L0 : List Blk}
theorem CI_seqK {lp m : Nat} {x y : Code} (h : ∀ K : Act → World → Prop, (∀ a w, y.wpIn (rf lp) m P Q a w → K a w) → x.wpIn (rf lp) m P (Exit.then K Q) a w) : (Code.seq x y).wpIn (rf lp) m P Q a w := wpIn_seq_k h
theorem CI_region {lp m id : Nat} {lo : List Oper} (h : wpList P lo.toArray Q lo a w) (hno : ¬ LetsOut Q := by rintro ⟨_, _, h⟩; exact h) (hnd : lo.all noDefer = true := by as_aux_lemma => kernel_rfl) : (Code.region id lo.toArray false).wpIn (rf lp) m P Q a w := wpIn_region_lit (listR hno lo a w hnd h)
theorem CI_if {lp m : Nat} {x y : Code} (F : Fm nn ds V a) {c : Operand} (b : Bool) (hk : knownX V c = true) (hv : evV V c = .bool b) (h : (if b then x else y).wpIn (rf lp) m P Q a w) : (Code.cond c x y).wpIn (rf lp) m P Q a w := wpIn_cond (by rw [F.eval hk, hv]) h
theorem EI_region {lp m id : Nat} {lops : List Oper} (Fa : Fm nn ds V a) (H0 : Hp X w0 L0 w) (W : (Nat → SlR) → List (Nat × Value)) (slots : List Nat) (T : List TB) (L : List Blk) (ks : List Nat) (fu : Nat) (exs : List (Nat × List Nat))
    (hm : P.follows .mixedOrders = true) (hck : (nodupB ks && edgesDown lops.toArray && opsFedX lops.toArray fu exs && opsOnce lops.toArray && (slots.all fun x => Nat.blt x nn && lops.toArray.any fun o => o.dst == some x) && nodupB slots && T.all (fun b => b.sts.all (fun s => Nat.blt s.i lops.toArray.size) && (match b.al with | none => true | some j => Nat.blt j lops.toArray.size) && (match b.kl with | none => true | some j => Nat.blt j lops.toArray.size))) = true)
    (hL : ks.filterMap (fun k => L0[k]?) = oldL T ++ L) (hslots : ∀ β, keys (W β) = slots) (hq0' : oldQ T)
    (hop : AllS2 P lops.toArray W V exs (J2 X w0 T L) 0 lops)
    (he : ∀ β a w, endQ β T → Fm nn ds (W β ++ V) a → Hp X w0 (endL T β ++ L) w → Q .normal a w) (hno : ¬ LetsOut Q := by rintro ⟨_, _, h⟩; exact h) (hnd : lops.all noDefer = true := by as_aux_lemma => kernel_rfl) : (Code.region id lops.toArray true).wpIn (rf lp) m P Q a w :=
  wpIn_region_any hm (anyR hno (fun i o ho => by
    have := List.all_eq_true.1 hnd o (List.mem_of_getElem? (by simpa using ho))
    exact this) _ _ _ _ (E_regionA Fa H0 W slots T L ks fu exs hck hL hslots hq0' hop he))
/-! The record of the loop. -/
theorem heap_in' {w : World} {l : Nat} {o : Obj} (h : w.heap[l]? = some o) : l < w.heap.size := (Array.getElem?_eq_some_iff.1 h).1
theorem Hp.putObj {L : List Blk} (H : Hp X w0 L w) {k l : Nat} {o o' : Obj} (hk : L[k]? = some ⟨true, l, o⟩) : Hp X w0 (L.set k ⟨true, l, o'⟩) (w.putObj l o') :=
  H.put hk ⟨rfl, rfl, rfl, by rw [World.putObj_size]; exact Nat.le_refl _, fun i _ hi => World.putObj_heap_other (fun e => hi (by simp [e]))⟩ (World.putObj_heap_same (heap_in' (H.at_ hk)))
theorem round_begin {L : List Blk} (H : Hp X w0 L w) {k l : Nat} {r : Loop} (hk : L[k]? = some ⟨true, l, .loop r⟩) (hr : r.state = .ready) {C : World → Prop} (h : ∀ v, Hp X w0 (L.set k ⟨true, l, .loop { r with state := .busy }⟩) v → C v) : ∃ w₂, (Instr.beginRound l).run P w = .ok () w₂ ∧ C w₂ :=
  ⟨_, run_beginRound (H.at_ hk) hr, h _ (H.putObj hk)⟩
theorem round_on {L : List Blk} (H : Hp X w0 L w) {k l : Nat} {r : Loop} {R : Ending → World → Prop} (hk : L[k]? = some ⟨true, l, .loop r⟩) (h : ∀ v, Hp X w0 (L.set k ⟨true, l, .loop { r with state := .ready, pending := none }⟩) v → R (.returned (.bool true)) v) : roundPost P l R .normal a w :=
  ⟨_, _, run_endRound none (H.at_ hk), h _ (H.putObj hk)⟩
theorem round_out {L : List Blk} (H : Hp X w0 L w) {k l id : Nat} {r : Loop} {R : Ending → World → Prop} (hk : L[k]? = some ⟨true, l, .loop r⟩) (h : ∀ v, Hp X w0 (L.set k ⟨true, l, .loop { r with state := .done, pending := some (.exit id) }⟩) v → R (.returned (.bool false)) v) : roundPost P l R (.exit id) a w :=
  ⟨_, _, run_endRound (some (.exit id)) (H.at_ hk), h _ (H.putObj hk)⟩
theorem Fm.round {t : Nat} (F : Fm nn ds V a) (ht : Nat.blt t nn = true) (x : Value) : Fm nn [] ((t, x) :: V) ⟨a.tmps.setIfInBounds t x, []⟩ := by
  have h := F.put (some t) x (by simpa [okDst] using ht)
  exact ⟨rfl, h.sz, h.at_⟩
theorem T_yield {ops : Array Oper} {m : Nat} {rest : List Oper} {o : Oper} {L : List Blk} (F : Fm nn ds V a) (H : Hp X w0 L w) (hc0 : opB ops V nn o = true) {x y : Operand} {ts : Array TypeId} (ho : o.op = .call { callee := .value x, args := #[y], argTypes := ts }) {l k : Nat} (hx : evV V x = .func (.yield l) #[] #[]) {val : Value} (hy : evV V y = val) {r : Loop} (hl : L[k]? = some ⟨true, l, .loop r⟩) {t : Nat} (hp : r.params = #[t]) {K : Bool → World → Prop}
    (hround : RoundIn Fence.wide (m - 1) P l r.fn (r.tmps.setIfInBounds t val) r.assign r.body w fun e w' => ∃ b, e = .returned (.bool b) ∧ K b w')
    (h : ∀ b a w', K b w' → Fm nn ds (upV V o.dst (.bool b)) a → wpListIn Fence.wide m P ops Q rest a w') : wpListIn Fence.wide m P ops Q (o :: rest) a w := by
  obtain ⟨hg, hk, hd0⟩ := opB_spec hc0
  refine wpListIn_step fun K' hK => ?_
  rw [F.wanted hg, if_pos rfl]
  refine ⟨fun _ _ => trivial, ?_⟩
  have hsem : o.semAt Fence.wide.round a.eval = execOp (evV V) o := by rw [show Fence.wide.round = none from rfl, Oper.semAt_none, F.exec hk]
  have hrun : (execOp (evV V) o).run P w = .ok (.round l r.fn (r.tmps.setIfInBounds t val) r.assign r.body) w := by
    have hy2 := run_yield (P := P) (args := #[val]) (H.at_ hl) (by rw [hp]; rfl)
    rw [hp] at hy2
    unfold execOp
    simp [ho, resolve, invoke, hx, hy, Sem.run_bind, go_sem]
    refine hy2.trans ?_
    simp
  rw [hsem, hrun, Oper.uponIn_round]
  refine ⟨nodep, RoundIn.mono hround ?_⟩
  rintro e w' ⟨b, rfl, hb⟩
  exact hK _ _ (h b _ _ hb (F.put _ _ hd0))
theorem list_wide {ops : Array Oper} {m : Nat} (hno : ¬ LetsOut Q) : ∀ (l1 l2 : List Oper) (a : Act) (w : World), l1.all noDefer = true → wpList P ops (Exit.then (fun a w => wpListIn Fence.wide m P ops Q l2 a w) Q) l1 a w → wpListIn Fence.wide m P ops Q (l1 ++ l2) a w
  | [], _, _, _, _, h => h
  | o :: l1, l2, a, w, hnd, h => by
    simp only [List.all_cons, Bool.and_eq_true] at hnd
    simp only [wpList] at h
    simp only [List.cons_append, wpListIn]
    split at h
    · rename_i hw
      rw [if_pos hw]
      have h2 := h.resolve_right (fun x => hno x.2)
      have h3 := Oper.wp_mono (fun a w => list_wide hno l1 l2 a w hnd.2) h2
      refine ⟨fun _ _ => trivial, ?_⟩
      rw [Oper.semAt_eq _ _ _ (noDefer_spec hnd.1)]
      unfold Oper.wp at h3
      generalize (execOp a.eval o).run P w = r at *
      cases r with
      | ok x w' =>
        cases x with
        | value v => exact h3
        | skip => exact h3
        | defer d => exact h3
        | enter f args => exact ⟨nodep, callsIn_wide.2 h3⟩
        | row row args => exact ⟨nodep, rowsW h3⟩
        | _ => exact h3.elim
      | halt x w' => cases x <;> first | exact h3 | exact h3.elim
    · rename_i hw
      rw [if_neg hw]
      exact ⟨fun _ _ => trivial, list_wide hno l1 l2 _ _ hnd.2 h⟩
theorem C_regionY {m id : Nat} (l1 l2 : List Oper) {lo : List Oper} (hlo : lo = l1 ++ l2) (hno : ¬ LetsOut Q) (hnd : l1.all noDefer = true) (h : wpList P lo.toArray (Exit.then (fun a w => wpListIn Fence.wide m P lo.toArray Q l2 a w) Q) l1 a w) : (Code.region id lo.toArray false).wp P Q a w :=
  wpIn_wide.1 (wpIn_region_lit (by
    have := list_wide (m := m) hno l1 l2 a w hnd h
    rw [← hlo] at this
    exact this))
theorem C_range {g : Operand} {ps : Array Tmp} {assign body : Code} (F : Fm nn [] V a) (H : Hp X w0 L0 w) (hk : knownX V g = true) {gf : Nat} {lb : Array Value} (hg : evV V g = .func (.func gf) #[] lb) (eg : ∀ args w, (callFunc gf args).run P w = .ok (.enter gf args) w) (Lf : SlR → List Blk) (qf : SlR → Prop) (c : Code)
    (hc : ∀ fn D l v, Hp X w0 (⟨true, l, .loop { state := .ready, pending := none, fn := fn, tmps := a.tmps, params := ps, assign := assign, body := body, defers := D }⟩ :: ⟨true, D, .deferred (some [])⟩ :: L0) v → Calls P gf (#[.func (.yield l) #[] #[]] ++ lb) v fun e v' => ∃ u r, e = .returned u ∧ qf r ∧ Hp X w0 (⟨true, l, .loop { state := .done, pending := some c, fn := fn, tmps := a.tmps, params := ps, assign := assign, body := body, defers := D }⟩ :: ⟨true, D, .deferred (some [])⟩ :: Lf r) v')
    (hn : ∀ r D a' v, qf r → Fm nn [{ target := .collected D, args := #[] }] V a' → Hp X w0 (⟨true, D, .deferred (some [])⟩ :: Lf r) v → c.wp P Q a' v) : (Code.rangeFunc g ps assign body).wp P Q a w := by
  refine (wpIn_wide (n := 1)).1 (wpIn_rangeFunc fun fn _ => ?_)
  rw [show Fence.wide.round = none from rfl]
  have hge : a.eval g = .func (.func gf) #[] lb := (F.eval hk).trans hg
  obtain ⟨W1, hW1⟩ : ∃ W1, (w.alloc (.deferred (some []))).alloc (.loop { state := .ready, pending := none, fn := fn, tmps := a.tmps, params := ps, assign := assign, body := body, defers := w.heap.size }) = W1 := ⟨_, rfl⟩
  refine ⟨w.heap.size + 1, [{ target := .collected w.heap.size, args := #[] }], W1, { target := .fn (.func gf) lb, args := #[.func (.yield (w.heap.size + 1)) #[] #[]] }, W1, gf, #[.func (.yield (w.heap.size + 1)) #[] #[]] ++ lb, W1, hW1 ▸ run_enterLoop_outer fn a.tmps ps assign body, ?_, fun _ _ => trivial, ?_, nodep, callsIn_wide.2 ?_⟩
  · simp only [resolve, hge]
    simp [go_sem]
  · simp [invoke, go_sem, eg]
  · have H1 : Hp X w0 (⟨true, w.heap.size, .deferred (some [])⟩ :: L0) (w.alloc (.deferred (some []))) := H.fresh (Kept.alloc _ _) (Nat.le_refl _) (heap_alloc_new _ _)
    have H2 := H1.fresh (Kept.alloc _ (.loop { state := .ready, pending := none, fn := fn, tmps := a.tmps, params := ps, assign := assign, body := body, defers := w.heap.size })) (Nat.le_refl _) (heap_alloc_new _ _)
    rw [World.size_alloc, hW1] at H2
    refine (hc fn _ _ _ H2).mono ?_
    rintro e v' ⟨u, r, rfl, hq, H3⟩
    refine ⟨some c, _, run_endLoop (H3.at_ (k := 0) rfl) (by simp), ?_⟩
    have H4 := (H3.putObj (k := 0) (o' := .loop { state := .exhausted, pending := some c, fn := fn, tmps := a.tmps, params := ps, assign := assign, body := body, defers := w.heap.size }) rfl).weak (List.sublist_cons_self _ _)
    exact wpIn_wide.2 (hn r _ _ _ hq ⟨by rw [F.df]; rfl, F.sz, F.at_⟩ H4)
theorem C_enterM {f : FuncId} {fn : Func} {c : Code} {args : Array Value} {R : Ending → World → Prop} (hf : P.funcs[f]? = some fn) (hb : fn.body = some c) (n : Nat) (hn : fn.ntmps = n) (hle : args.size ≤ n)
    (h : ∀ a, Fm n [] (argV args.toList 0) a → c.wp P (bodyPostM Fence.wide 1 P fn R) a w) : Calls P f args w R := by
  refine (callsIn_wide (n := 1)).1 (callsIn_of_wp_marks hf hb trivial (wpIn_wide.2 (h _ ⟨rfl, ?_, fun t v hv => ?_⟩)))
  · simp only [Array.size_append, Array.size_replicate, hn]; omega
  · obtain ⟨_, h2⟩ := argV_lk hv
    rw [Nat.sub_zero, Array.getElem?_toList] at h2
    rw [Array.getElem?_append_left (Array.getElem?_eq_some_iff.1 h2).1]
    exact h2
theorem C_retM {fn : Func} {R : Ending → World → Prop} {L : List Blk} {D k : Nat} (F : Fm nn [{ target := .collected D, args := #[] }] V a) (H : Hp X w0 L w) (hD : L[k]? = some ⟨true, D, .deferred (some [])⟩) (h : ∀ a' v, Fm nn [] V a' → Hp X w0 (L.set k ⟨true, D, .deferred none⟩) v → bodyPost P fn R .ret a' v) (hsame : ∀ a' : Act, a'.tmps = a.tmps → True := by intros; trivial) : bodyPostM Fence.wide 1 P fn R .ret a w := by
  obtain ⟨_, r, hr, hR⟩ := h ⟨a.tmps, []⟩ _ ⟨rfl, F.sz, F.at_⟩ (H.putObj hD)
  show LeavesInM Fence.wide 1 P fn a.tmps R a.defers .returning w
  rw [F.df]
  exact ⟨by simp, .inl ⟨D, _, rfl, run_takeDeferred (H.at_ hD), ⟨r, hr, hR⟩⟩⟩
end

end Go.Proofs.YtdejhenkdbjakaaDoor
