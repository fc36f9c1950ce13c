/- General rules: ranges over functions, yields in regions that draw, reads by cells, lists of blocks with an open tail. -/
import Derived.Test.YtlnlppmhiobgjaaJ4
import Derived.RangeFuncRecord
import Derived.OrdersIn
import Derived.TacticsIn
import Derived.RangeFuncCalls
set_option linter.unusedVariables false
set_option linter.unusedSimpArgs false
namespace Go.Proofs.Ytlnlppmhiobgjaa
open Go Go.RowKit
abbrev rf (l : Nat) : Fence := Fence.wide.inRound l
def noDefer (o : Oper) : Bool := match o.op with | .defer _ => false | _ => true
theorem noDefer_spec {o : Oper} (h : noDefer o = true) : ∀ c, o.op ≠ .defer c := fun c e => by
  unfold noDefer at h; rw [e] at h; cases h
theorem callsR {P : Program} {l n f : Nat} {args : Array Value} {w : World} {R : Ending → World → Prop} (h : Calls P f args w R) : CallsIn (rf l) n P f args w R := CallsIn.inRound l (callsIn_wide.2 h)
theorem rowsR {P : Program} {l n : Nat} {row : String} {args : Array Value} {w : World} {R : Value → World → Prop} (h : Rows P row args w R) : RowsIn (rf l) n P row args w R := fun c cs _ => by
  obtain ⟨v, w', h1, h2⟩ := h c cs
  exact ⟨v, w', h1, stepsIn_wide.2 h2⟩
theorem nodep {m : Nat} : (none : Option Nat).isSome = true → 1 ≤ m := fun e => Bool.noConfusion e
theorem rowsW {P : Program} {n : Nat} {row : String} {args : Array Value} {w : World} {R : Value → World → Prop} (h : Rows P row args w R) : RowsIn Fence.wide n P row args w R := fun c cs _ => by
  obtain ⟨v, w', h1, h2⟩ := h c cs
  exact ⟨v, w', h1, stepsIn_wide.2 h2⟩
theorem opR {P : Program} {l n : Nat} {o : Oper} {a : Act} {w : World} {next : Act → World → Prop} {Q : Exit → Act → World → Prop} (hnd : noDefer o = true) (hno : ¬ LetsOut Q) (h : o.wp P a w next Q ∨ (o.asks P a w ∧ LetsOut Q)) : o.wpIn (rf l) n P a w next Q := by
  replace h := h.resolve_right (fun x => hno x.2)
  refine ⟨fun _ _ => trivial, ?_⟩
  rw [Oper.semAt_eq _ _ _ (noDefer_spec hnd)]
  unfold Oper.wp at h
  generalize (execOp a.eval o).run P w = r at *
  cases r with
  | ok x w' =>
    cases x with
    | value v => exact h
    | skip => exact h
    | defer d => exact h
    | enter f args => exact ⟨nodep, callsR h⟩
    | row row args => exact ⟨nodep, rowsR h⟩
    | _ => exact h.elim
  | halt x w' => cases x <;> first | exact h | exact h.elim
theorem listR {P : Program} {l n : Nat} {ops : Array Oper} {Q : Exit → Act → World → Prop} (hno : ¬ LetsOut Q) : ∀ (lo : List Oper) (a : Act) (w : World), lo.all noDefer = true → wpList P ops Q lo a w → wpListIn (rf l) n P ops Q lo a w
  | [], _, _, _, h => h
  | o :: rest, a, w, hnd, h => by
    simp only [List.all_cons, Bool.and_eq_true] at hnd
    simp only [wpList] at h
    simp only [wpListIn]
    split at h
    · rename_i hw
      rw [if_pos hw]
      refine opR hnd.1 hno ?_
      rcases h with h | h
      · exact .inl (Oper.wp_mono (fun a w => listR hno rest a w hnd.2) h)
      · exact .inr h
    · rename_i hw
      rw [if_neg hw]
      exact ⟨fun _ _ => trivial, listR hno rest _ _ hnd.2 h⟩
theorem anyR {P : Program} {l n : Nat} {ops : Array Oper} {Q : Exit → Act → World → Prop} (hno : ¬ LetsOut Q) (hnd : ∀ (i : Nat) (o : Oper), ops[i]? = some o → noDefer o = true) : ∀ (fuel : Nat) (d : Array Bool) (a : Act) (w : World), wpAny P .any ops Q fuel d a w → wpAnyIn (rf l) n P .any ops Q fuel d a w
  | 0, _, _, _, h => h
  | fuel + 1, d, a, w, h => by
    refine ⟨h.1, fun i hi => ?_⟩
    have h2 := h.2 i hi
    unfold wpOp at h2
    unfold wpOpIn
    cases ho : ops[i]? with
    | none => rw [ho] at h2; exact anyR hno hnd fuel _ a w h2
    | some o =>
      rw [ho] at h2
      dsimp only at h2 ⊢
      split at h2
      · rename_i hw
        rw [if_pos hw]
        refine opR (hnd i o ho) hno ?_
        rcases h2 with h2 | h2
        · exact .inl (Oper.wp_mono (fun a w => anyR hno hnd fuel _ a w) h2)
        · exact .inr h2
      · rename_i hw
        rw [if_neg hw]
        exact ⟨fun _ _ => trivial, anyR hno hnd fuel _ _ w h2⟩
/-! What is walked in a round. -/
section
variable {P : Program} {a : Act} {w w0 : World} {Q : Exit → Act → World → Prop} {nn : Nat} {ds : List Deferred} {V : List (Nat × Value)} {X : List Nat} {L0 : List Blk}
theorem CI_seqK {lp m : Nat} {x y : Code} (h : ∀ K : Act → World → Prop, (∀ a w, y.wpIn (rf lp) m P Q a w → K a w) → x.wpIn (rf lp) m P (Exit.then K Q) a w) : (Code.seq x y).wpIn (rf lp) m P Q a w := wpIn_seq_k h
theorem CI_region {lp m id : Nat} {lo : List Oper} (h : wpList P lo.toArray Q lo a w) (hno : ¬ LetsOut Q := by rintro ⟨_, _, h⟩; exact h) (hnd : lo.all noDefer = true := by as_aux_lemma => kernel_rfl) : (Code.region id lo.toArray false).wpIn (rf lp) m P Q a w := wpIn_region_lit (listR hno lo a w hnd h)
theorem CI_if {lp m : Nat} {x y : Code} (F : Fm nn ds V a) {c : Operand} (b : Bool) (hk : knownX V c = true) (hv : evV V c = .bool b) (h : (if b then x else y).wpIn (rf lp) m P Q a w) : (Code.cond c x y).wpIn (rf lp) m P Q a w := wpIn_cond (by rw [F.eval hk, hv]) h
theorem EI_region {lp m id : Nat} {lops : List Oper} (Fa : Fm nn ds V a) (H0 : Hp X w0 L0 w) (W : (Nat → SlR) → List (Nat × Value)) (slots : List Nat) (T : List TB) (L : List Blk) (ks : List Nat) (fu : Nat) (exs : List (Nat × List Nat))
    (hm : P.follows .mixedOrders = true) (hck : (nodupB ks && edgesDown lops.toArray && opsFedX lops.toArray fu exs && opsOnce lops.toArray && (slots.all fun x => Nat.blt x nn && lops.toArray.any fun o => o.dst == some x) && nodupB slots && T.all (fun b => b.sts.all (fun s => Nat.blt s.i lops.toArray.size) && (match b.al with | none => true | some j => Nat.blt j lops.toArray.size) && (match b.kl with | none => true | some j => Nat.blt j lops.toArray.size))) = true)
    (hL : ks.filterMap (fun k => L0[k]?) = oldL T ++ L) (hslots : ∀ β, keys (W β) = slots) (hq0' : oldQ T)
    (hop : AllS2 P lops.toArray W V exs (J2 X w0 T L) 0 lops)
    (he : ∀ β a w, endQ β T → Fm nn ds (W β ++ V) a → Hp X w0 (endL T β ++ L) w → Q .normal a w) (hno : ¬ LetsOut Q := by rintro ⟨_, _, h⟩; exact h) (hnd : lops.all noDefer = true := by as_aux_lemma => kernel_rfl) : (Code.region id lops.toArray true).wpIn (rf lp) m P Q a w :=
  wpIn_region_any hm (anyR hno (fun i o ho => by
    have := List.all_eq_true.1 hnd o (List.mem_of_getElem? (by simpa using ho))
    exact this) _ _ _ _ (E_regionA Fa H0 W slots T L ks fu exs hck hL hslots hq0' hop he))
/-! The record of the loop. -/
theorem heap_in' {w : World} {l : Nat} {o : Obj} (h : w.heap[l]? = some o) : l < w.heap.size := (Array.getElem?_eq_some_iff.1 h).1
theorem Hp.putObj {L : List Blk} (H : Hp X w0 L w) {k l : Nat} {o o' : Obj} (hk : L[k]? = some ⟨true, l, o⟩) : Hp X w0 (L.set k ⟨true, l, o'⟩) (w.putObj l o') :=
  H.put hk ⟨rfl, rfl, rfl, by rw [World.putObj_size]; exact Nat.le_refl _, fun i _ hi => World.putObj_heap_other (fun e => hi (by simp [e]))⟩ (World.putObj_heap_same (heap_in' (H.at_ hk)))
theorem round_begin {L : List Blk} (H : Hp X w0 L w) {k l : Nat} {r : Loop} (hk : L[k]? = some ⟨true, l, .loop r⟩) (hr : r.state = .ready) {C : World → Prop} (h : ∀ v, Hp X w0 (L.set k ⟨true, l, .loop { r with state := .busy }⟩) v → C v) : ∃ w₂, (Instr.beginRound l).run P w = .ok () w₂ ∧ C w₂ :=
  ⟨_, run_beginRound (H.at_ hk) hr, h _ (H.putObj hk)⟩
theorem round_on {L : List Blk} (H : Hp X w0 L w) {k l : Nat} {r : Loop} {R : Ending → World → Prop} (hk : L[k]? = some ⟨true, l, .loop r⟩) (h : ∀ v, Hp X w0 (L.set k ⟨true, l, .loop { r with state := .ready, pending := none }⟩) v → R (.returned (.bool true)) v) : roundPost P l R .normal a w :=
  ⟨_, _, run_endRound none (H.at_ hk), h _ (H.putObj hk)⟩
theorem round_out {L : List Blk} (H : Hp X w0 L w) {k l id : Nat} {r : Loop} {R : Ending → World → Prop} (hk : L[k]? = some ⟨true, l, .loop r⟩) (h : ∀ v, Hp X w0 (L.set k ⟨true, l, .loop { r with state := .done, pending := some (.exit id) }⟩) v → R (.returned (.bool false)) v) : roundPost P l R (.exit id) a w :=
  ⟨_, _, run_endRound (some (.exit id)) (H.at_ hk), h _ (H.putObj hk)⟩
theorem Fm.round {t : Nat} (F : Fm nn ds V a) (ht : Nat.blt t nn = true) (x : Value) : Fm nn [] ((t, x) :: V) ⟨a.tmps.setIfInBounds t x, []⟩ := by
  have h := F.put (some t) x (by simpa [okDst] using ht)
  exact ⟨rfl, h.sz, h.at_⟩
/-- A call of yield: a round. -/
theorem T_yield {ops : Array Oper} {m : Nat} {rest : List Oper} {o : Oper} {L : List Blk} (F : Fm nn ds V a) (H : Hp X w0 L w) (hc0 : opB ops V nn o = true) {x y : Operand} {ts : Array TypeId} (ho : o.op = .call { callee := .value x, args := #[y], argTypes := ts }) {l k : Nat} (hx : evV V x = .func (.yield l) #[] #[]) {val : Value} (hy : evV V y = val) {r : Loop} (hl : L[k]? = some ⟨true, l, .loop r⟩) {t : Nat} (hp : r.params = #[t]) {K : Bool → World → Prop}
    (hround : RoundIn Fence.wide (m - 1) P l r.fn (r.tmps.setIfInBounds t val) r.assign r.body w fun e w' => ∃ b, e = .returned (.bool b) ∧ K b w')
    (h : ∀ b a w', K b w' → Fm nn ds (upV V o.dst (.bool b)) a → wpListIn Fence.wide m P ops Q rest a w') : wpListIn Fence.wide m P ops Q (o :: rest) a w := by
  obtain ⟨hg, hk, hd0⟩ := opB_spec hc0
  refine wpListIn_step fun K' hK => ?_
  rw [F.wanted hg, if_pos rfl]
  refine ⟨fun _ _ => trivial, ?_⟩
  have hsem : o.semAt Fence.wide.round a.eval = execOp (evV V) o := by rw [show Fence.wide.round = none from rfl, Oper.semAt_none, F.exec hk]
  have hrun : (execOp (evV V) o).run P w = .ok (.round l r.fn (r.tmps.setIfInBounds t val) r.assign r.body) w := by
    have hy2 := run_yield (P := P) (args := #[val]) (H.at_ hl) (by rw [hp]; rfl)
    rw [hp] at hy2
    unfold execOp
    simp [ho, resolve, invoke, hx, hy, Sem.run_bind, go_sem]
    refine hy2.trans ?_
    simp
  rw [hsem, hrun, Oper.uponIn_round]
  refine ⟨nodep, RoundIn.mono hround ?_⟩
  rintro e w' ⟨b, rfl, hb⟩
  exact hK _ _ (h b _ _ hb (F.put _ _ hd0))
/-- The operations ahead of a call of yield. -/
theorem list_wide {ops : Array Oper} {m : Nat} (hno : ¬ LetsOut Q) : ∀ (l1 l2 : List Oper) (a : Act) (w : World), l1.all noDefer = true → wpList P ops (Exit.then (fun a w => wpListIn Fence.wide m P ops Q l2 a w) Q) l1 a w → wpListIn Fence.wide m P ops Q (l1 ++ l2) a w
  | [], _, _, _, _, h => h
  | o :: l1, l2, a, w, hnd, h => by
    simp only [List.all_cons, Bool.and_eq_true] at hnd
    simp only [wpList] at h
    simp only [List.cons_append, wpListIn]
    split at h
    · rename_i hw
      rw [if_pos hw]
      have h2 := h.resolve_right (fun x => hno x.2)
      have h3 := Oper.wp_mono (fun a w => list_wide hno l1 l2 a w hnd.2) h2
      refine ⟨fun _ _ => trivial, ?_⟩
      rw [Oper.semAt_eq _ _ _ (noDefer_spec hnd.1)]
      unfold Oper.wp at h3
      generalize (execOp a.eval o).run P w = r at *
      cases r with
      | ok x w' =>
        cases x with
        | value v => exact h3
        | skip => exact h3
        | defer d => exact h3
        | enter f args => exact ⟨nodep, callsIn_wide.2 h3⟩
        | row row args => exact ⟨nodep, rowsW h3⟩
        | _ => exact h3.elim
      | halt x w' => cases x <;> first | exact h3 | exact h3.elim
    · rename_i hw
      rw [if_neg hw]
      exact ⟨fun _ _ => trivial, list_wide hno l1 l2 _ _ hnd.2 h⟩
theorem C_regionY {m id : Nat} (l1 l2 : List Oper) {lo : List Oper} (hlo : lo = l1 ++ l2) (hno : ¬ LetsOut Q) (hnd : l1.all noDefer = true) (h : wpList P lo.toArray (Exit.then (fun a w => wpListIn Fence.wide m P lo.toArray Q l2 a w) Q) l1 a w) : (Code.region id lo.toArray false).wp P Q a w :=
  wpIn_wide.1 (wpIn_region_lit (by
    have := list_wide (m := m) hno l1 l2 a w hnd h
    rw [← hlo] at this
    exact this))
/-- The statement, where the loop is left by an exit. -/
theorem C_range {g : Operand} {ps : Array Tmp} {assign body : Code} (F : Fm nn [] V a) (H : Hp X w0 L0 w) (hk : knownX V g = true) {gf : Nat} {lb : Array Value} (hg : evV V g = .func (.func gf) #[] lb) (eg : ∀ args w, (callFunc gf args).run P w = .ok (.enter gf args) w) (Lf : SlR → List Blk) (qf : SlR → Prop) (c : Code)
    (hc : ∀ fn D l v, Hp X w0 (⟨true, l, .loop { state := .ready, pending := none, fn := fn, tmps := a.tmps, params := ps, assign := assign, body := body, defers := D }⟩ :: ⟨true, D, .deferred (some [])⟩ :: L0) v → Calls P gf (#[.func (.yield l) #[] #[]] ++ lb) v fun e v' => ∃ u r, e = .returned u ∧ qf r ∧ Hp X w0 (⟨true, l, .loop { state := .done, pending := some c, fn := fn, tmps := a.tmps, params := ps, assign := assign, body := body, defers := D }⟩ :: ⟨true, D, .deferred (some [])⟩ :: Lf r) v')
    (hn : ∀ r D a' v, qf r → Fm nn [{ target := .collected D, args := #[] }] V a' → Hp X w0 (⟨true, D, .deferred (some [])⟩ :: Lf r) v → c.wp P Q a' v) : (Code.rangeFunc g ps assign body).wp P Q a w := by
  refine (wpIn_wide (n := 1)).1 (wpIn_rangeFunc fun fn _ => ?_)
  rw [show Fence.wide.round = none from rfl]
  have hge : a.eval g = .func (.func gf) #[] lb := (F.eval hk).trans hg
  obtain ⟨W1, hW1⟩ : ∃ W1, (w.alloc (.deferred (some []))).alloc (.loop { state := .ready, pending := none, fn := fn, tmps := a.tmps, params := ps, assign := assign, body := body, defers := w.heap.size }) = W1 := ⟨_, rfl⟩
  refine ⟨w.heap.size + 1, [{ target := .collected w.heap.size, args := #[] }], W1, { target := .fn (.func gf) lb, args := #[.func (.yield (w.heap.size + 1)) #[] #[]] }, W1, gf, #[.func (.yield (w.heap.size + 1)) #[] #[]] ++ lb, W1, hW1 ▸ run_enterLoop_outer fn a.tmps ps assign body, ?_, fun _ _ => trivial, ?_, nodep, callsIn_wide.2 ?_⟩
  · simp only [resolve, hge]
    simp [go_sem]
  · simp [invoke, go_sem, eg]
  · have H1 : Hp X w0 (⟨true, w.heap.size, .deferred (some [])⟩ :: L0) (w.alloc (.deferred (some []))) := H.fresh (Kept.alloc _ _) (Nat.le_refl _) (heap_alloc_new _ _)
    have H2 := H1.fresh (Kept.alloc _ (.loop { state := .ready, pending := none, fn := fn, tmps := a.tmps, params := ps, assign := assign, body := body, defers := w.heap.size })) (Nat.le_refl _) (heap_alloc_new _ _)
    rw [World.size_alloc, hW1] at H2
    refine (hc fn _ _ _ H2).mono ?_
    rintro e v' ⟨u, r, rfl, hq, H3⟩
    refine ⟨some c, _, run_endLoop (H3.at_ (k := 0) rfl) (by simp), ?_⟩
    have H4 := (H3.putObj (k := 0) (o' := .loop { state := .exhausted, pending := some c, fn := fn, tmps := a.tmps, params := ps, assign := assign, body := body, defers := w.heap.size }) rfl).weak (List.sublist_cons_self _ _)
    exact wpIn_wide.2 (hn r _ _ _ hq ⟨by rw [F.df]; rfl, F.sz, F.at_⟩ H4)
/-- A function that holds such a statement: its way in, its way out. -/
theorem C_enterM {f : FuncId} {fn : Func} {c : Code} {args : Array Value} {R : Ending → World → Prop} (hf : P.funcs[f]? = some fn) (hb : fn.body = some c) (n : Nat) (hn : fn.ntmps = n) (hle : args.size ≤ n)
    (h : ∀ a, Fm n [] (argV args.toList 0) a → c.wp P (bodyPostM Fence.wide 1 P fn R) a w) : Calls P f args w R := by
  refine (callsIn_wide (n := 1)).1 (callsIn_of_wp_marks hf hb trivial (wpIn_wide.2 (h _ ⟨rfl, ?_, fun t v hv => ?_⟩)))
  · simp only [Array.size_append, Array.size_replicate, hn]; omega
  · obtain ⟨_, h2⟩ := argV_lk hv
    rw [Nat.sub_zero, Array.getElem?_toList] at h2
    rw [Array.getElem?_append_left (Array.getElem?_eq_some_iff.1 h2).1]
    exact h2
theorem C_retM {fn : Func} {R : Ending → World → Prop} {L : List Blk} {D k : Nat} (F : Fm nn [{ target := .collected D, args := #[] }] V a) (H : Hp X w0 L w) (hD : L[k]? = some ⟨true, D, .deferred (some [])⟩) (h : ∀ a' v, Fm nn [] V a' → Hp X w0 (L.set k ⟨true, D, .deferred none⟩) v → bodyPost P fn R .ret a' v) (hsame : ∀ a' : Act, a'.tmps = a.tmps → True := by intros; trivial) : bodyPostM Fence.wide 1 P fn R .ret a w := by
  obtain ⟨_, r, hr, hR⟩ := h ⟨a.tmps, []⟩ _ ⟨rfl, F.sz, F.at_⟩ (H.putObj hD)
  show LeavesInM Fence.wide 1 P fn a.tmps R a.defers .returning w
  rw [F.df]
  exact ⟨by simp, .inl ⟨D, _, rfl, run_takeDeferred (H.at_ hD), ⟨r, hr, hR⟩⟩⟩
end

theorem opW {P : Program} {n : Nat} {o : Oper} {a : Act} {w : World} {next : Act → World → Prop} {Q : Exit → Act → World → Prop} (hnd : noDefer o = true) (h : o.wp P a w next Q) : o.wpIn Fence.wide n P a w next Q := by
  refine ⟨fun _ _ => trivial, ?_⟩
  rw [Oper.semAt_eq _ _ _ (noDefer_spec hnd)]
  unfold Oper.wp at h
  generalize (execOp a.eval o).run P w = r at *
  cases r with
  | ok x w' =>
    cases x with
    | value v => exact h
    | skip => exact h
    | defer d => exact h
    | enter f args => exact ⟨nodep, callsIn_wide.2 h⟩
    | row row args => exact ⟨nodep, rowsW h⟩
    | _ => exact h.elim
  | halt x w' => cases x <;> first | exact h | exact h.elim
section
variable {P : Program} {ops : Array Oper} {Q : Exit → Act → World → Prop}
theorem wpAnyIn_inv {m : Nat} {a : Act} {w : World} {Q : Exit → Act → World → Prop} (I : Array Bool → Act → World → Prop) (hd : edgesDown ops = true)
    (h0 : I (Array.replicate ops.size false) a { w with drawn := w.drawn + 1 })
    (hs : ∀ i o d a w, ops[i]? = some o → d.size = ops.size → d.getD i true = false → (∀ e ∈ o.after, Region.binds .any e = true → d.getD e.on false = true) → I d a w →
      if Region.wanted o (yielded ops a.tmps) = true then o.wpIn Fence.wide m P a w (I (d.setIfInBounds i true)) Q else I (d.setIfInBounds i true) (a.put o.dst undef) w)
    (he : ∀ d a w, d.size = ops.size → (∀ i, i < ops.size → d.getD i false = true) → I d a w → Q .normal a w) :
    wpAnyIn Fence.wide m P .any ops Q ops.size (Array.replicate ops.size false) a { w with drawn := w.drawn + 1 } := by
  have key : ∀ fuel d a w, d.size = ops.size → d.toList.count false = fuel → I d a w → wpAnyIn Fence.wide m P .any ops Q fuel d a w := by
    intro fuel
    induction fuel with
    | zero =>
      intro d a w hsz hc hI
      have hall : ∀ i, i < ops.size → d.getD i false = true := by
        intro i hi
        have h1 := all_of_count hc i (by simpa [hsz] using hi)
        have hi' : i < d.size := by omega
        simp only [Array.getD, hi', ↓reduceDIte]
        rw [Array.getElem?_toList, Array.getElem?_eq_getElem hi'] at h1
        simpa using h1
      refine ⟨?_, he d a w hsz hall hI⟩
      refine List.eq_nil_iff_forall_not_mem.2 fun i hi => ?_
      obtain ⟨h1, h2, _⟩ := ready_mem.1 hi
      have h3 := hall i h1
      have hi' : i < d.size := by omega
      simp only [Array.getD, hi', ↓reduceDIte] at h2 h3
      rw [h2] at h3
      cases h3
    | succ fuel ih =>
      intro d a w hsz hc hI
      refine ⟨fun hr => ?_, fun i hi => ?_⟩
      · obtain ⟨k, hk, hf⟩ := some_of_count (l := d.toList) (by omega)
        have hk' : k < d.size := by simpa using hk
        refine absurd hr (ready_some hsz hd k (by omega) ?_)
        rw [Array.getElem?_toList, Array.getElem?_eq_getElem hk'] at hf
        simp only [Array.getD, hk', ↓reduceDIte]
        simpa using hf
      · obtain ⟨h1, h2, o, ho, h3⟩ := ready_mem.1 hi
        have hi' : i < d.size := by omega
        have hcc : (d.setIfInBounds i true).toList.count false = fuel := by
          simp only [Array.getD, hi', ↓reduceDIte] at h2
          rw [Array.toList_setIfInBounds, List.count_set (by simpa using hi')]
          have e : d.toList[i]'(by simpa using hi') = false := by simpa using h2
          rw [e, hc]
          rfl
        have hst := hs i o d a w ho hsz h2 h3 hI
        refine wpOpIn_step ho fun K' hK' => ?_
        split
        · rename_i hw
          rw [if_pos hw] at hst
          exact Oper.wpIn_mono (fun a w hI' => hK' a w (ih _ a w (by simpa using hsz) hcc hI')) hst
        · rename_i hw
          rw [if_neg hw] at hst
          exact ⟨fun _ _ => trivial, hK' _ _ (ih _ _ w (by simpa using hsz) hcc hst)⟩
  exact key _ _ _ _ (by simp) (by simp) h0


/-- An operation of a region that draws its order, or a yield. -/
inductive StI (P : Program) (ops : Array Oper) (Q : Exit → Act → World → Prop) (m : Nat) (W : (Nat → SlR) → List (Nat × Value)) (V : List (Nat × Value)) (exs : List (Nat × List Nat)) (J : Array Bool → (Nat → SlR) → World → Prop) (i : Nat) (o : Oper) : Prop
  | old (h : StO2 P ops W V exs J i o)
  | rnd (hw : ∀ β, wants ops (rm (exAt exs i) (W β) ++ V) o = some true) (hk : ∀ β, knownB (rm (exAt exs i) (W β) ++ V) o = true) (v : (Nat → SlR) → Value) (hv : ∀ β r t, o.dst = some t → lk (W (updS β i r) ++ V) t = some (v (updS β i r))) (ht : ∀ β r t, o.dst ≠ some t → lk (W (updS β i r) ++ V) t = lk (W β ++ V) t ∨ ∀ d, Closed ops d → d.getD i true = false → ∃ j oj, ops[j]? = some oj ∧ oj.dst = some t ∧ d.getD j false = false)
      (hr : ∀ d β w a', Closed ops d → d.getD i true = false → (∀ e ∈ o.after, Region.binds .any e = true → d.getD e.on false = true) → J d β w → execOp a'.eval o = execOp (evV (rm (exAt exs i) (W β) ++ V)) o → o.wpIn Fence.wide m P a' w (fun a2 w2 => ∃ r, a2 = a'.put o.dst (v (updS β i r)) ∧ J (d.setIfInBounds i true) (updS β i r) w2) Q)
theorem wpAnyIn_v2 {m : Nat} {a : Act} {w : World} {Q : Exit → Act → World → Prop} {n : Nat} {ds : List Deferred} {V : List (Nat × Value)} (F : Fm n ds V a) (W : (Nat → SlR) → List (Nat × Value)) (slots : List Nat) (J : Array Bool → (Nat → SlR) → World → Prop) (β0 : Nat → SlR)
    (hd : edgesDown ops = true) (fu : Nat) (exs : List (Nat × List Nat)) (hfed : opsFedX ops fu exs = true) (honce : opsOnce ops = true) (hno : ¬ LetsOut Q) (hndf : ∀ (i : Nat) (o : Oper), ops[i]? = some o → noDefer o = true)
    (hslots : ∀ β, keys (W β) = slots) (hdst : (slots.all fun x => Nat.blt x n && ops.any fun o => o.dst == some x) = true) (hnd : nodupB slots = true)
    (h0 : J (Array.replicate ops.size false) β0 { w with drawn := w.drawn + 1 })
    (hop : ∀ (i : Nat) (o : Oper), ops[i]? = some o → StI P ops Q m W V exs J i o)
    (he : ∀ (d : Array Bool) (β : Nat → SlR) (a : Act) (w : World), (∀ i, i < ops.size → d.getD i false = true) → J d β w → Fm n ds (W β ++ V) a → Q .normal a w) : wpAnyIn Fence.wide m P .any ops Q ops.size (Array.replicate ops.size false) a { w with drawn := w.drawn + 1 } := by
  have hkn : ∀ β, (keys (W β)).Nodup := fun β => by rw [hslots β]; exact nodupB_spec hnd
  have hks : ∀ β, ∀ k ∈ keys (W β), k < n := fun β k hk => by
    rw [hslots β] at hk
    have := List.all_eq_true.1 hdst k hk
    simp only [Bool.and_eq_true] at this
    simpa using this.1
  have hFT : ∀ β, Fm n ds (W β ++ V) ⟨over a.tmps (W β), a.defers⟩ := fun β => F.over (W β) (hkn β) (hks β)
  refine wpAnyIn_inv (fun d a' w' => Closed ops d ∧ ∃ β, J d β w' ∧ Agree ops a (over a.tmps (W β)) d a' ∧ Orig ops a d a') hd ⟨Closed.none _, β0, h0, ⟨rfl, (over_size _ _).symm, fun t ht => ?_⟩, fun _ _ => rfl⟩ ?_ ?_
  · refine (over_out (W β0) _ _ fun hmem => ?_).symm
    rw [hslots β0] at hmem
    have := List.all_eq_true.1 hdst t hmem
    simp only [Bool.and_eq_true] at this
    obtain ⟨i, hi, h2⟩ := Array.any_eq_true.1 this.2
    have h1 := ht i ops[i] (Array.getElem?_eq_getElem hi) (by simpa using h2)
    rw [Array.getD_eq_getD_getElem?, Array.getElem?_replicate] at h1
    split at h1 <;> cases h1
  · rintro i o d a' w' ho hsz hf hdep ⟨hcl, β, hJ, hA, hO⟩
    have hcl' := hcl.next ho (by rw [hsz]; exact (Array.getElem?_eq_some_iff.1 ho).1) hdep
    obtain ⟨hfg, hfo⟩ := opsFedX_spec hfed ho
    have hslot : ∀ t, fedX ops fu exs i o t = true → ∀ v, lk (rm (exAt exs i) (W β) ++ V) t = some v → a'.tmps[t]? = some v := fun t ht v hv => by
      unfold fedX at ht
      rw [lk_append, lk_rm] at hv
      split at ht
      · rename_i hc
        rw [if_pos hc] at hv
        have hv' : lk V t = some v := hv
        rw [hO t fun k o' hk hd => ?_]
        · exact F.at_ t v hv'
        · have hkl : k < ops.size := (Array.getElem?_eq_some_iff.1 hk).1
          have := List.all_eq_true.1 ht k (List.mem_range.2 hkl)
          rw [hk] at this
          simp only [Option.map_some, Option.getD_some, hd, bne_self_eq_false, Bool.false_or] at this
          exact reach_not hcl hf this
      · rename_i hc
        rw [if_neg hc, ← lk_append] at hv
        rw [hA.slot ht hdep]
        exact (hFT β).at_ t v hv
    have hgd : ∀ j c t v, o.guard = some (j, c) → (ops[j]?).bind (·.dst) = some t → lk (rm (exAt exs i) (W β) ++ V) t = some v → a'.tmps[t]? = some v := fun j c t v hg ht hv => hslot t (hfg j c t hg ht) v hv
    have hex : knownB (rm (exAt exs i) (W β) ++ V) o = true → execOp a'.eval o = execOp (evV (rm (exAt exs i) (W β) ++ V)) o := fun hk => by
      have hk' := hk
      simp only [knownB, Bool.and_eq_true, Bool.not_eq_true'] at hk
      refine execOp_congr o (fun cs b e => ?_) (fun x hx => ?_)
      · rw [e] at hk; simp [isSel] at hk
      · obtain ⟨q, hq, rfl⟩ := Array.mem_iff_getElem.1 hx
        have hkx := Array.all_eq_true.1 hk.2 q hq
        generalize hxx : o.op.operands[q] = x at *
        cases x with
        | tmp t =>
          simp only [knownX] at hkx
          obtain ⟨v, hv⟩ := Option.isSome_iff_exists.1 hkx
          have := hslot t (hfo t (hxx ▸ Array.getElem_mem hq)) v hv
          show a'.tmps.getD t undef = (lk (rm (exAt exs i) (W β) ++ V) t).getD undef
          rw [Array.getD_eq_getD_getElem?, this, hv]
        | _ => rfl
    have hput : ∀ v, (∀ t, o.dst = some t → lk (W β ++ V) t = some v) → Agree ops a (over a.tmps (W β)) (d.setIfInBounds i true) (a'.put o.dst v) := fun v hv =>
      hA.put honce ho hsz fun t ht _ => (hFT β).at_ t v (hv t ht)
    have hnext : ∀ r : SlR, (∀ t, o.dst ≠ some t → lk (W (updS β i r) ++ V) t = lk (W β ++ V) t ∨ ∃ j oj, ops[j]? = some oj ∧ oj.dst = some t ∧ d.getD j false = false) → Agree ops a (over a.tmps (W (updS β i r))) d a' := fun r ht =>
      hA.next2 (T' := over a.tmps (W (updS β i r))) (by rw [over_size, over_size]) (fun t hdone => by
        have hne : o.dst ≠ some t := fun e => by
          have := hdone i o ho e
          rw [getD_tf hf] at this; cases this
        have h2 : lk (W (updS β i r) ++ V) t = lk (W β ++ V) t := by
          rcases ht t hne with h2 | ⟨j, oj, h3, h4, h5⟩
          · exact h2
          · rw [hdone j oj h3 h4] at h5; cases h5
        by_cases hm : t ∈ slots
        · have hs1 : ∃ u, lk (W β) t = some u := by
            rcases hq : lk (W β) t with _ | u
            · exfalso
              have hmem : t ∈ keys (W β) := by rw [hslots β]; exact hm
              have hh : ∀ Z : List (Nat × Value), t ∈ keys Z → lk Z t ≠ none := by
                intro Z
                induction Z with
                | nil => intro h; simp [keys] at h
                | cons p Z ih =>
                  obtain ⟨k, u⟩ := p
                  intro h
                  simp only [lk]
                  cases hb : Nat.beq k t with
                  | true => simp
                  | false =>
                    simp only [keys, List.map_cons, List.mem_cons] at h
                    rcases h with h | h
                    · exact absurd h.symm (Nat.ne_of_beq_eq_false hb)
                    · exact ih h
              exact hh _ hmem hq
            · exact ⟨u, rfl⟩
          obtain ⟨u, hu⟩ := hs1
          have hv1 : lk (W β ++ V) t = some u := by rw [lk_append, hu]; rfl
          have e1 := (hFT β).at_ t u hv1
          have e2 := (hFT (updS β i r)).at_ t u (by rw [h2]; exact hv1)
          exact e2.trans e1.symm
        · rw [over_out _ _ _ (by rw [hslots]; exact hm), over_out _ _ _ (by rw [hslots]; exact hm)])
    have hput2 : ∀ r v, (∀ t, o.dst ≠ some t → lk (W (updS β i r) ++ V) t = lk (W β ++ V) t ∨ ∃ j oj, ops[j]? = some oj ∧ oj.dst = some t ∧ d.getD j false = false) → (∀ t, o.dst = some t → lk (W (updS β i r) ++ V) t = some v) → Agree ops a (over a.tmps (W (updS β i r))) (d.setIfInBounds i true) (a'.put o.dst v) := fun r v ht hv =>
      (hnext r ht).put honce ho hsz fun t htx _ => (hFT _).at_ _ _ (hv t htx)
    cases hop i o ho with
    | rnd hw hk v hv ht hr =>
      rw [wants_at (hw β) hgd, if_pos rfl]
      refine Oper.wpIn_mono ?_ (hr d β w' a' hcl hf hdep hJ (hex (hk β)))
      rintro a2 w2 ⟨r, rfl, hJ2⟩
      exact ⟨hcl', _, hJ2, hput2 r _ (fun t hne => (ht β r t hne).imp (fun hz => hz) fun hq => hq d hcl hf) (hv β r), hO.put ho hf _⟩
    | old hst =>
      have lift : ∀ {K : Act → World → Prop}, o.wp P a' w' K Q → o.wpIn Fence.wide m P a' w' K Q := fun h => opW (hndf i o ho) h
      cases hst with
      | val hk hw v hv hr =>
        rw [wants_at (hw β) hgd, if_pos rfl]
        refine lift ?_
        unfold Oper.wp
        obtain ⟨h1, h2⟩ := hr d β w' hcl hf hdep hJ
        rw [hex (hk β), h1, Oper.upon_value]
        exact ⟨hcl', β, h2, hput _ (hv β), hO.put ho hf _⟩
      | call hk hw v hv f args hr hc =>
        rw [wants_at (hw β) hgd, if_pos rfl]
        refine lift ?_
        unfold Oper.wp
        rw [hex (hk β), hr β w', Oper.upon_enter]
        exact (hc d β w' hcl hf hdep hJ).mono fun e w2 ⟨he2, hJ2⟩ => by subst he2; exact ⟨hcl', β, hJ2, hput _ (hv β), hO.put ho hf _⟩
      | callX hk hw v hv ht f args hr hc =>
        rw [wants_at (hw β) hgd, if_pos rfl]
        refine lift ?_
        unfold Oper.wp
        rw [hex (hk β), hr β w', Oper.upon_enter]
        exact (hc d β w' hcl hf hdep hJ).mono fun e w2 ⟨r, he2, hJ2⟩ => by subst he2; exact ⟨hcl', _, hJ2, hput2 r _ (fun t hne => (ht β r t hne).imp (fun hz => hz) fun hq => hq d hcl hf) (hv β r), hO.put ho hf _⟩
      | fresh hk hw v hv ht hr =>
        rw [wants_at (hw β) hgd, if_pos rfl]
        obtain ⟨r, w2, h1, h2⟩ := hr d β w' hcl hf hdep hJ
        refine lift ?_
        unfold Oper.wp
        rw [hex (hk β), h1, Oper.upon_value]
        exact ⟨hcl', _, h2, hput2 r _ (fun t hne => (ht β r t hne).imp (fun hz => hz) fun hq => hq d hcl hf) (hv β r), hO.put ho hf _⟩
      | store hk hw hx hr =>
        rw [wants_at (hw β) hgd, if_pos rfl]
        obtain ⟨w'', h1, h2⟩ := hr d β w' hcl hf hdep hJ
        refine lift ?_
        unfold Oper.wp
        rw [hex (hk β), h1, Oper.upon_skip]
        exact ⟨hcl', β, h2, hput _ (fun t ht => by rw [hx] at ht; cases ht), hO.put ho hf _⟩
      | skip hw hv hJn =>
        rw [wants_at (hw β) hgd, if_neg (by simp)]
        exact ⟨hcl', β, hJn d β w' hJ, hput _ (hv β), hO.put ho hf _⟩
  · rintro d a' w' hsz hall ⟨_, β, hJ, hA, _⟩
    have : a' = ⟨over a.tmps (W β), a.defers⟩ := by
      obtain ⟨tm, df⟩ := a'
      have h1 : tm = over a.tmps (W β) := Array.ext_getElem? fun t => hA.at_ t fun i o ho _ => hall i (Array.getElem?_eq_some_iff.1 ho).1
      have h2 : df = a.defers := hA.df
      rw [h1, h2]
    rw [this]
    exact he d β _ w' hall hJ (hFT β)

end
def AllI (P : Program) (ops : Array Oper) (Q : Exit → Act → World → Prop) (m : Nat) (W : (Nat → SlR) → List (Nat × Value)) (V : List (Nat × Value)) (exs : List (Nat × List Nat)) (J : Array Bool → (Nat → SlR) → World → Prop) : Nat → List Oper → Prop
  | _, [] => True
  | k, o :: l => StI P ops Q m W V exs J k o ∧ AllI P ops Q m W V exs J (k + 1) l
theorem AllI.at_ {P : Program} {ops : Array Oper} {Q : Exit → Act → World → Prop} {m : Nat} {W : (Nat → SlR) → List (Nat × Value)} {V : List (Nat × Value)} {exs : List (Nat × List Nat)} {J : Array Bool → (Nat → SlR) → World → Prop} : ∀ {l : List Oper} {k : Nat}, AllI P ops Q m W V exs J k l → ∀ i o, l[i]? = some o → StI P ops Q m W V exs J (k + i) o
  | [], _, _, i, o, h => by simp at h
  | o' :: l, k, hA, 0, o, h => by
    simp only [List.getElem?_cons_zero, Option.some.injEq] at h
    subst h; exact hA.1
  | o' :: l, k, hA, i + 1, o, h => by
    simp only [List.getElem?_cons_succ] at h
    have := AllI.at_ hA.2 i o h
    rwa [Nat.add_assoc, Nat.add_comm 1 i] at this
/-! A region that reads, yields once, and goes on. -/
section
variable {P : Program} {Q : Exit → Act → World → Prop} {a : Act} {w w0 : World} {n : Nat} {ds : List Deferred} {V : List (Nat × Value)} {X : List Nat} {L : List Blk} {lops : List Oper} {W : List (Nat × Value)} {exs : List (Nat × List Nat)} {o : Oper} {i iy m fu : Nat} {Kp : World → Prop}
def JY (X : List Nat) (w0 : World) (L : List Blk) (iy : Nat) (Kp : World → Prop) (d : Array Bool) (_β : Nat → SlR) (w : World) : Prop := if d.getD iy false = true then Kp w else Hp X w0 L w
abbrev StY (P : Program) (lops : List Oper) (Q : Exit → Act → World → Prop) (m : Nat) (W : List (Nat × Value)) (V : List (Nat × Value)) (exs : List (Nat × List Nat)) (X : List Nat) (w0 : World) (L : List Blk) (iy : Nat) (Kp : World → Prop) (i : Nat) (o : Oper) : Prop := StI P lops.toArray Q m (fun _ => W) V exs (JY X w0 L iy Kp) i o
theorem JY.off {d : Array Bool} {β β' : Nat → SlR} {v : World} (h : JY X w0 L iy Kp d β v) (hne : i ≠ iy) : JY X w0 L iy Kp (d.setIfInBounds i true) β' v := by
  unfold JY at h ⊢
  rw [getD_off2 (fun e => hne e.symm)]; exact h
theorem Y_any (hne : (!Nat.beq i iy) = true) (v : Value) (hr : ∀ w, (execOp (evV (rm (exAt exs i) W ++ V)) o).run P w = .ok (.value v) w := by intro w; as_aux_lemma => kernel_rfl) (hk : knownB (rm (exAt exs i) W ++ V) o = true := by as_aux_lemma => kernel_rfl) (hw : wants lops.toArray (rm (exAt exs i) W ++ V) o = some true := by as_aux_lemma => kernel_rfl) (hv : o.dst.map (fun t => lk (W ++ V) t) = some (some v) := by as_aux_lemma => kernel_rfl) : StY P lops Q m W V exs X w0 L iy Kp i o :=
  .old (.val (fun _ => hk) (fun _ => hw) (fun _ => v) (fun _ t ht => by rw [ht] at hv; simpa using hv) (fun d β w _ _ _ hJ => ⟨hr w, hJ.off (ne_beq hne)⟩))
theorem Y_pre (hne : (!Nat.beq i iy && reachB lops.toArray fu iy i) = true) (v : Value) (hr : ∀ w, Kept X w0 w → HeldL L w → (execOp (evV (rm (exAt exs i) W ++ V)) o).run P w = .ok (.value v) w) (hk : knownB (rm (exAt exs i) W ++ V) o = true := by as_aux_lemma => kernel_rfl) (hw : wants lops.toArray (rm (exAt exs i) W ++ V) o = some true := by as_aux_lemma => kernel_rfl) (hv : o.dst.map (fun t => lk (W ++ V) t) = some (some v) := by as_aux_lemma => kernel_rfl) : StY P lops Q m W V exs X w0 L iy Kp i o :=
  .old (.val (fun _ => hk) (fun _ => hw) (fun _ => v) (fun _ t ht => by rw [ht] at hv; simpa using hv) (fun d β w hcl hf _ hJ => by
    simp only [Bool.and_eq_true] at hne
    have hy := reach_not hcl hf hne.2
    have hH : Hp X w0 L w := by unfold JY at hJ; rwa [if_neg (by rw [hy]; simp)] at hJ
    exact ⟨hr w hH.kept ⟨hH.held⟩, hJ.off (ne_beq hne.1)⟩))
theorem yield_in {ops : Array Oper} {next : Act → World → Prop} {a' : Act} {V' : List (Nat × Value)} {x y : Operand} {ts : Array TypeId} (ho : o.op = .call { callee := .value x, args := #[y], argTypes := ts }) (hex : execOp a'.eval o = execOp (evV V') o) {l : Nat} (hx : evV V' x = .func (.yield l) #[] #[]) {val : Value} (hy : evV V' y = val) {r : Loop} (hl : w.heap[l]? = some (.loop r)) {t : Nat} (hp : r.params = #[t]) {K : Bool → World → Prop}
    (hround : RoundIn Fence.wide (m - 1) P l r.fn (r.tmps.setIfInBounds t val) r.assign r.body w fun e w' => ∃ b, e = .returned (.bool b) ∧ K b w')
    (h : ∀ b w', K b w' → next (a'.put o.dst (.bool b)) w') : o.wpIn Fence.wide m P a' w next Q := by
  refine ⟨fun _ _ => trivial, ?_⟩
  have hsem : o.semAt Fence.wide.round a'.eval = execOp (evV V') o := by rw [show Fence.wide.round = none from rfl, Oper.semAt_none, hex]
  have hrun : (execOp (evV V') o).run P w = .ok (.round l r.fn (r.tmps.setIfInBounds t val) r.assign r.body) w := by
    have hy2 := run_yield (P := P) (args := #[val]) hl (by rw [hp]; rfl)
    rw [hp] at hy2
    unfold execOp
    simp [ho, resolve, invoke, hx, hy, Sem.run_bind, go_sem]
    refine hy2.trans ?_
    simp
  rw [hsem, hrun, Oper.uponIn_round]
  refine ⟨nodep, RoundIn.mono hround ?_⟩
  rintro e w' ⟨b, rfl, hb⟩
  exact h b w' hb
theorem Y_yield {x y : Operand} {ts : Array TypeId} (ho : o.op = .call { callee := .value x, args := #[y], argTypes := ts }) {l k : Nat} (hx : evV (rm (exAt exs i) W ++ V) x = .func (.yield l) #[] #[]) {val : Value} (hy : evV (rm (exAt exs i) W ++ V) y = val) {r : Loop} (hl : L[k]? = some ⟨true, l, .loop r⟩) {t : Nat} (hp : r.params = #[t]) (hi : i = iy) (hsz : (Nat.blt iy lops.toArray.size) = true)
    (hround : ∀ w, Hp X w0 L w → RoundIn Fence.wide (m - 1) P l r.fn (r.tmps.setIfInBounds t val) r.assign r.body w fun e w' => e = .returned (.bool true) ∧ Kp w')
    (hk : knownB (rm (exAt exs i) W ++ V) o = true := by as_aux_lemma => kernel_rfl) (hw : wants lops.toArray (rm (exAt exs i) W ++ V) o = some true := by as_aux_lemma => kernel_rfl) (hv : o.dst.map (fun t => lk (W ++ V) t) = some (some (.bool true)) := by as_aux_lemma => kernel_rfl) : StY P lops Q m W V exs X w0 L iy Kp i o :=
  .rnd (fun _ => hw) (fun _ => hk) (fun _ => .bool true) (fun _ _ t ht => by rw [ht] at hv; simpa using hv) (fun _ _ _ _ => .inl rfl) (fun d β w a' hcl hf _ hJ hex => by
    subst hi
    have hy0 : d.getD i false = false := by
      rw [Array.getD_eq_getD_getElem?] at hf ⊢
      cases hq : d[i]? with
      | none => rfl
      | some c => rw [hq] at hf; exact hf
    have hH : Hp X w0 L w := by unfold JY at hJ; rwa [if_neg (by rw [hy0]; simp)] at hJ
    refine yield_in (ops := lops.toArray) ho hex hx hy (hH.at_ hl) hp (K := fun b w' => b = true ∧ Kp w') (RoundIn.mono (hround w hH) ?_) ?_
    · rintro e w' ⟨rfl, h2⟩; exact ⟨true, rfl, rfl, h2⟩
    · rintro b w' ⟨rfl, h2⟩
      refine ⟨r0, rfl, ?_⟩
      unfold JY
      rw [if_pos (getD_on hf)]; exact h2)
theorem Y_region {id : Nat} (Fa : Fm n ds V a) (H : Hp X w0 L w) (m : Nat) (W : List (Nat × Value)) (slots : List Nat) (iy : Nat) (Kp : World → Prop) (fu : Nat) (exs : List (Nat × List Nat))
    (hm : P.follows .mixedOrders = true) (hck : (edgesDown lops.toArray && opsFedX lops.toArray fu exs && opsOnce lops.toArray && (slots.all fun x => Nat.blt x n && lops.toArray.any fun o => o.dst == some x) && nodupB slots && Nat.blt iy lops.toArray.size) = true) (hslots : keys W = slots)
    (hno : ¬ LetsOut Q) (hnd : lops.all noDefer = true)
    (hop : AllI P lops.toArray Q m (fun _ => W) V exs (JY X w0 L iy Kp) 0 lops)
    (he : ∀ a w, Kp w → Fm n ds (W ++ V) a → Q .normal a w) : (Code.region id lops.toArray true).wp P Q a w := by
  simp only [Bool.and_eq_true] at hck
  obtain ⟨⟨⟨⟨⟨c2, c3⟩, c4⟩, c5⟩, c6⟩, c7⟩ := hck
  have z : ∀ (m : Nat) j, (Array.replicate m false).getD j false = false := fun m j => by
    rw [Array.getD_eq_getD_getElem?, Array.getElem?_replicate]; split <;> rfl
  refine (wpIn_wide (n := m)).1 (wpIn_region_any hm (wpAnyIn_v2 Fa (fun _ => W) slots (JY X w0 L iy Kp) (fun _ => r0) c2 fu exs c3 c4 hno (fun i o ho => List.all_eq_true.1 hnd o (List.mem_of_getElem? (by simpa using ho))) (fun _ => hslots) c5 c6 ?_ (fun i o ho => ?_) (fun d β a w' hall hJ FF => ?_)))
  · unfold JY
    rw [if_neg (by rw [z]; simp)]
    exact H.call (Kept.drew w)
  · have := hop.at_ i o (by simpa using ho)
    rwa [Nat.zero_add] at this
  · refine he a w' ?_ FF
    unfold JY at hJ
    rwa [if_pos (hall iy (by simpa using c7))] at hJ
end
/-! The statement, where the loop comes to its end. -/
section
variable {P : Program} {a : Act} {w w0 : World} {Q : Exit → Act → World → Prop} {nn : Nat} {V : List (Nat × Value)} {X : List Nat} {L0 : List Blk}
theorem C_rangeN {α : Type} {g : Operand} {ps : Array Tmp} {assign body : Code} (F : Fm nn [] V a) (H : Hp X w0 L0 w) (hk : knownX V g = true) {gf : Nat} {lb : Array Value} (hg : evV V g = .func (.func gf) #[] lb) (eg : ∀ args w, (callFunc gf args).run P w = .ok (.enter gf args) w) (Lf : α → List Blk) (qf : α → Prop)
    (hc : ∀ fn D l v, Hp X w0 (⟨true, l, .loop { state := .ready, pending := none, fn := fn, tmps := a.tmps, params := ps, assign := assign, body := body, defers := D }⟩ :: ⟨true, D, .deferred (some [])⟩ :: L0) v → Calls P gf (#[.func (.yield l) #[] #[]] ++ lb) v fun e v' => ∃ u r, e = .returned u ∧ qf r ∧ Hp X w0 (⟨true, l, .loop { state := .ready, pending := none, fn := fn, tmps := a.tmps, params := ps, assign := assign, body := body, defers := D }⟩ :: ⟨true, D, .deferred (some [])⟩ :: Lf r) v')
    (hn : ∀ r D a' v, qf r → Fm nn [{ target := .collected D, args := #[] }] V a' → Hp X w0 (⟨true, D, .deferred (some [])⟩ :: Lf r) v → Q .normal a' v) : (Code.rangeFunc g ps assign body).wp P Q a w := by
  refine (wpIn_wide (n := 1)).1 (wpIn_rangeFunc fun fn _ => ?_)
  rw [show Fence.wide.round = none from rfl]
  have hge : a.eval g = .func (.func gf) #[] lb := (F.eval hk).trans hg
  obtain ⟨W1, hW1⟩ : ∃ W1, (w.alloc (.deferred (some []))).alloc (.loop { state := .ready, pending := none, fn := fn, tmps := a.tmps, params := ps, assign := assign, body := body, defers := w.heap.size }) = W1 := ⟨_, rfl⟩
  refine ⟨w.heap.size + 1, [{ target := .collected w.heap.size, args := #[] }], W1, { target := .fn (.func gf) lb, args := #[.func (.yield (w.heap.size + 1)) #[] #[]] }, W1, gf, #[.func (.yield (w.heap.size + 1)) #[] #[]] ++ lb, W1, hW1 ▸ run_enterLoop_outer fn a.tmps ps assign body, ?_, fun _ _ => trivial, ?_, nodep, callsIn_wide.2 ?_⟩
  · simp only [resolve, hge]
    simp [go_sem]
  · simp [invoke, go_sem, eg]
  · have H1 : Hp X w0 (⟨true, w.heap.size, .deferred (some [])⟩ :: L0) (w.alloc (.deferred (some []))) := H.fresh (Kept.alloc _ _) (Nat.le_refl _) (heap_alloc_new _ _)
    have H2 := H1.fresh (Kept.alloc _ (.loop { state := .ready, pending := none, fn := fn, tmps := a.tmps, params := ps, assign := assign, body := body, defers := w.heap.size })) (Nat.le_refl _) (heap_alloc_new _ _)
    rw [World.size_alloc, hW1] at H2
    refine (hc fn _ _ _ H2).mono ?_
    rintro e v' ⟨u, r, rfl, hq, H3⟩
    refine ⟨none, _, run_endLoop (H3.at_ (k := 0) rfl) (by simp), ?_⟩
    have H4 := (H3.putObj (k := 0) (o' := .loop { state := .exhausted, pending := none, fn := fn, tmps := a.tmps, params := ps, assign := assign, body := body, defers := w.heap.size }) rfl).weak (List.sublist_cons_self _ _)
    exact hn r _ _ _ hq ⟨by rw [F.df]; rfl, F.sz, F.at_⟩ H4
end
theorem E_regionH0 {P : Program} {lops : List Oper} {a : Act} {w w0 : World} {Q : Exit → Act → World → Prop} {n : Nat} {ds : List Deferred} {V : List (Nat × Value)} {X : List Nat} (Fa : Fm n ds V a) (W : (Nat → SlR) → List (Nat × Value)) (slots : List Nat) (T : List TB) (L : List Blk) (H : Hp X w0 (oldL T ++ L) w) (fu : Nat) (exs : List (Nat × List Nat))
    (hck : (edgesDown lops.toArray && opsFedX lops.toArray fu exs && opsOnce lops.toArray && (slots.all fun x => Nat.blt x n && lops.toArray.any fun o => o.dst == some x) && nodupB slots && T.all (fun b => b.sts.all (fun s => Nat.blt s.i lops.toArray.size) && (match b.al with | none => true | some j => Nat.blt j lops.toArray.size) && (match b.kl with | none => true | some j => Nat.blt j lops.toArray.size))) = true)
    (hslots : ∀ β, keys (W β) = slots) (hq0' : oldQ T)
    (hop : AllS2 P lops.toArray W V exs (J2 X w0 T L) 0 lops)
    (he : ∀ β a w, endQ β T → Fm n ds (W β ++ V) a → Hp X w0 (endL T β ++ L) w → Q .normal a w) : wpAny P .any lops.toArray Q lops.toArray.size (Array.replicate lops.toArray.size false) a { w with drawn := w.drawn + 1 } := by
  have hq0 := oldQ_spec hq0'
  simp only [Bool.and_eq_true] at hck
  obtain ⟨⟨⟨⟨⟨c2, c3⟩, c4⟩, c5⟩, c6⟩, c7⟩ := hck
  simp only [List.all_eq_true, Bool.and_eq_true] at c7
  have z : ∀ (m : Nat) j, (Array.replicate m false).getD j false = false := fun m j => by
    rw [Array.getD_eq_getD_getElem?, Array.getElem?_replicate]; split <;> rfl
  have hin : ∀ b ∈ T, (∀ s ∈ b.sts, s.i < lops.toArray.size) ∧ (∀ j, b.al = some j → j < lops.toArray.size) ∧ (∀ j, b.kl = some j → j < lops.toArray.size) := fun b hb => by
    obtain ⟨⟨h1, h2⟩, h3⟩ := c7 b hb
    refine ⟨fun s hs => by simpa using h1 s hs, fun j hj => ?_, fun j hj => ?_⟩
    · rw [hj] at h2; simpa using h2
    · rw [hj] at h3; simpa using h3
  refine wpAny_v2 Fa W slots (J2 X w0 T L) (fun _ => r0) c2 fu exs c3 c4 hslots c5 c6 ⟨fun b hb s hs => by rw [Array.size_replicate]; exact (hin b hb).1 s hs, ?_, fun b hb hd => ?_, fun b hb s hs hd => ?_⟩ (fun i o ho => ?_) (fun d β a w' hall hJ FF => ?_)
  · have e : Lof T L (Array.replicate lops.toArray.size false) (fun _ => r0) = oldL T ++ L := by
      unfold Lof oldL
      congr 1
      have hf : T.filter (TB.born (Array.replicate lops.toArray.size false)) = T.filter (fun b => b.al.isNone) := List.filter_congr fun b hb => by
        unfold TB.born
        cases b.al with
        | none =>
          cases b.kl with
          | none => rfl
          | some j => dsimp only; rw [z]; rfl
        | some j => dsimp only; rw [z]; rfl
      rw [hf]
      refine List.map_congr_left fun b hb => ?_
      obtain ⟨hb1, hb2⟩ := List.mem_filter.1 hb
      unfold TB.blk TB.adr TB.z0
      rw [contF_none (z _)]
      cases hq : b.al with
      | none => rfl
      | some j => rw [hq] at hb2; cases hb2
    rw [e]
    exact H.call (Kept.drew w)
  · exact hq0 b hb (by unfold alD at hd; cases hq : b.al with | none => rfl | some j => rw [hq] at hd; dsimp only at hd; rw [z] at hd; cases hd) _
  · rw [z] at hd; cases hd
  · have := hop.at_ i o (by simpa using ho)
    rwa [Nat.zero_add] at this
  · refine he β a w' ?_ FF ?_
    · have hq := hJ.q
      have hqs := hJ.qs
      have hin' := hin
      clear hop he
      have key : ∀ U : List TB, (∀ b ∈ U, b ∈ T) → endQ β U := by
        intro U
        induction U with
        | nil => intro _; trivial
        | cons b U ih =>
          intro hU
          have hb := hU b (List.mem_cons_self ..)
          refine ⟨hq b hb ?_, qst_all fun s hs => hqs b hb s hs (hall _ ((hin' b hb).1 s hs)), ih fun c hc => hU c (List.mem_cons_of_mem _ hc)⟩
          unfold alD
          cases hal : b.al with
          | none => rfl
          | some j => exact hall _ ((hin' b hb).2.1 j hal)
      exact key T fun _ h => h
    · have e : Lof T L d β = endL T β ++ L := by
        unfold Lof endL
        congr 1
        have hf : T.filter (TB.born d) = T.filter (fun b => b.kl.isNone) := List.filter_congr fun b hb => by
          have h1 := (hin b hb).2.1
          have h2 := (hin b hb).2.2
          unfold TB.born
          have e1 : (match b.al with | none => true | some i => d.getD i false) = true := by
            cases hq : b.al with
            | none => rfl
            | some j => exact hall _ (h1 j hq)
          cases hq : b.kl with
          | none => exact Bool.and_eq_true_iff.2 ⟨e1, rfl⟩
          | some j => dsimp only; rw [hall _ (h2 j hq), Bool.not_true, Bool.and_false]; rfl
        rw [hf]
        refine List.map_congr_left fun b hb => ?_
        unfold TB.blk TB.blkM
        rw [contF_all fun s hs => hall _ ((hin b (List.mem_filter.1 hb).1).1 s hs)]
      rw [← e]
      exact hJ.hp

theorem Hp.pickT {X : List Nat} {w0 w : World} {A R : List Blk} (H : Hp X w0 (A ++ R) w) (ks : List Nat) (hn : nodupB ks = true) (B : List Blk) (hB : ks.filterMap (fun k => A[k]?) = B) : Hp X w0 (B ++ R) w := by
  have HB := (H.weak (List.sublist_append_left A R)).pick ks hn B hB
  have HR := H.weak (List.sublist_append_right A R)
  have hm : ∀ p ∈ B, p ∈ A := fun p hp => by
    rw [← hB] at hp
    obtain ⟨k, _, hk⟩ := List.mem_filterMap.1 hp
    exact List.mem_of_getElem? hk
  refine ⟨H.kept, fun p hp => (List.mem_append.1 hp).elim (HB.held p) (HR.held p), fun p hp => (List.mem_append.1 hp).elim (HB.own p) (HR.own p), List.pairwise_append.2 ⟨HB.far, HR.far, fun p hp q hq => ?_⟩⟩
  exact (List.pairwise_append.1 H.far).2.2 p (hm p hp) q hq
theorem E_regionH {P : Program} {id : Nat} {lops : List Oper} {a : Act} {w w0 : World} {Q : Exit → Act → World → Prop} {n : Nat} {ds : List Deferred} {V : List (Nat × Value)} {X : List Nat} {A R : List Blk} (Fa : Fm n ds V a) (H0 : Hp X w0 (A ++ R) w) (W : (Nat → SlR) → List (Nat × Value)) (slots : List Nat) (T : List TB) (L : List Blk) (ks : List Nat) (fu : Nat) (exs : List (Nat × List Nat))
    (hm : P.follows .mixedOrders = true) (hn : nodupB ks = true) (hck : (edgesDown lops.toArray && opsFedX lops.toArray fu exs && opsOnce lops.toArray && (slots.all fun x => Nat.blt x n && lops.toArray.any fun o => o.dst == some x) && nodupB slots && T.all (fun b => b.sts.all (fun s => Nat.blt s.i lops.toArray.size) && (match b.al with | none => true | some j => Nat.blt j lops.toArray.size) && (match b.kl with | none => true | some j => Nat.blt j lops.toArray.size))) = true)
    (hL : ks.filterMap (fun k => A[k]?) = oldL T ++ L) (hslots : ∀ β, keys (W β) = slots) (hq0' : oldQ T)
    (hop : AllS2 P lops.toArray W V exs (J2 X w0 T (L ++ R)) 0 lops)
    (he : ∀ β a w, endQ β T → Fm n ds (W β ++ V) a → Hp X w0 (endL T β ++ (L ++ R)) w → Q .normal a w) : (Code.region id lops.toArray true).wp P Q a w :=
  wp_region_any hm (E_regionH0 Fa W slots T (L ++ R) (by have := H0.pickT ks hn _ hL; rwa [List.append_assoc] at this) fu exs hck hslots hq0' hop he)
/-- A call that tells what blocks it leaves behind. -/
theorem Hp.merge2 {X Y : List Nat} {w0 : World} {A R L' : List Blk} {w w' : World} (H : Hp X w0 (A ++ R) w) (hY : A.map (·.ad) = Y) (hA : A.all (·.own) = true) (H' : Hp Y w L' w') (hL' : ∀ p ∈ L', p.own = true) : Hp X w0 (L' ++ R) w' := by
  have hfar := List.pairwise_append.1 H.far
  have hyA : ∀ y ∈ Y, ∃ p ∈ A, p.ad = y := fun y hy => by rw [← hY] at hy; obtain ⟨p, hp, e⟩ := List.mem_map.1 hy; exact ⟨p, hp, e⟩
  have hR : ∀ q ∈ R, q.ad ∉ Y := fun q hq hy => by
    obtain ⟨p, hp, e⟩ := hyA _ hy
    exact hfar.2.2 p hp q hq e
  have hRin : ∀ q ∈ R, q.ad < w.heap.size := fun q hq => heap_in (H.held q (List.mem_append.2 (.inr hq)))
  have hXY : ∀ y ∈ Y, w0.heap.size ≤ y ∨ y ∈ X := fun y hy => by
    obtain ⟨p, hp, e⟩ := hyA y hy
    have := H.own p (List.mem_append.2 (.inl hp)) (List.all_eq_true.1 hA p hp)
    rwa [e] at this
  refine ⟨H.kept.trans hXY H'.kept, fun p hp => ?_, fun p hp ho => ?_, List.pairwise_append.2 ⟨H'.far, hfar.2.1, fun p hp q hq => ?_⟩⟩
  · rcases List.mem_append.1 hp with hp | hp
    · exact H'.held p hp
    · rw [H'.kept.block _ (hRin p hp) (hR p hp)]
      exact H.held p (List.mem_append.2 (.inr hp))
  · rcases List.mem_append.1 hp with hp | hp
    · rcases H'.own p hp ho with h | h
      · exact .inl (Nat.le_trans H.kept.size h)
      · exact hXY _ h
    · exact H.own p (List.mem_append.2 (.inr hp)) ho
  · have hq1 := hRin q hq
    have hq2 := hR q hq
    rcases H'.own p hp (hL' p hp) with h | h
    · omega
    · exact fun e => hq2 (e ▸ h)
theorem ne_of_ty {w : World} {a b : Nat} {c d : Array Value} {t u : TypeId} {f g : Nat × Nat} (h1 : w.heap[a]? = some (.cells c t f)) (h2 : w.heap[b]? = some (.cells d u g)) (ht : Nat.beq t u = false) : a ≠ b := fun e => by
  subst e
  rw [h1] at h2
  injection h2 with h2
  injection h2 with _ h3
  rw [h3] at ht
  simp at ht
theorem Hp.apart {X : List Nat} {w0 : World} {L : List Blk} {w : World} (H : Hp X w0 L w) {i j : Nat} {p q : Blk} (hi : L[i]? = some p) (hj : L[j]? = some q) (hne : i ≠ j) : p.ad ≠ q.ad := by
  obtain ⟨hi1, hi2⟩ := List.getElem?_eq_some_iff.1 hi
  obtain ⟨hj1, hj2⟩ := List.getElem?_eq_some_iff.1 hj
  have := List.pairwise_iff_getElem.1 H.far
  rcases Nat.lt_or_gt_of_ne hne with h | h
  · have h3 := this i j hi1 hj1 h
    rw [hi2, hj2] at h3; exact h3
  · have h3 := this j i hj1 hi1 h
    rw [hi2, hj2] at h3; exact fun e => h3 e.symm
section
variable {P : Program} {ops : Array Oper} {Q : Exit → Act → World → Prop} {rest : List Oper} {o : Oper} {a : Act} {w w0 : World} {n : Nat} {ds : List Deferred} {V : List (Nat × Value)} {X : List Nat} {L : List Blk}
theorem T_valK (F : Fm n ds V a) (H : Hp X w0 L w) (hc0 : opB ops V n o = true) (v : Value) (hr : ∀ w, Kept X w0 w → HeldL L w → (execOp (evV V) o).run P w = .ok (.value v) w)
    (h : ∀ a, Fm n ds (upV V o.dst v) a → wpList P ops Q rest a w) : wpList P ops Q (o :: rest) a w := by
  obtain ⟨hg, hk, hd0⟩ := opB_spec hc0
  refine T_core F hg hk fun K hK => ?_
  rw [hr w H.kept ⟨H.held⟩, Oper.upon_value]
  exact hK _ _ (h _ (F.put _ _ hd0))
/-- A load by the cell itself. -/
theorem R_ld {ty : TypeId} {y : Operand} (ho : o.op = .load ty y) {g off : Nat} (hy : evV V y = .pointer (some ⟨g, off, none⟩)) {v : Value} (hc : w.cell? ⟨g, off, none⟩ = some v) (d : TypeDesc) (hu : P.underlying ty = some d) (hd : (match d with | .struct _ | .array _ _ => true | _ => false) = false) :
    (execOp (evV V) o).run P w = .ok (.value v) w := by
  have hagg : (isAgg ty).run P w = .ok false w := by
    unfold isAgg
    rw [Sem.run_bind, run_underlying hu w]
    cases d <;> simp_all
  unfold execOp
  simp [ho, hy, Instr.loadAt, Instr.sureAddr, loadVar, Sem.run_bind, hagg, hc, go_sem]
end
/-- What stands from a place on. -/
def RdB (w : World) (g off : Nat) (cs : List Value) : Prop := ∀ j u, cs[j]? = some u → w.cell? ⟨g, off + j, none⟩ = some u
theorem RdB.kept {X : List Nat} {w w' : World} {g off : Nat} {cs : List Value} (h : RdB w g off cs) (k : Kept X w w') (hx : g ∉ X) : RdB w' g off cs := fun j u hj => by
  have h1 := h j u hj
  have hb : g < w.heap.size := World.block_lt_of_cell? w _ h1
  rw [World.cell?_of_block (k.block _ hb hx)]
  exact h1
theorem RdB.of {w : World} {g off : Nat} {arr : Array Value} {t : TypeId} {fr : Nat × Nat} {cs : List Value} (hg : w.heap[g]? = some (.cells arr t fr)) (h : ∀ j u, cs[j]? = some u → arr[off + j]? = some u) : RdB w g off cs := fun j u hj => by
  rw [cell_of_row w g (off + j) arr t fr hg]; exact h j u hj
theorem RdB.all {w : World} {g : Nat} {cs rest : List Value} {t : TypeId} {fr : Nat × Nat} (hg : w.heap[g]? = some (.cells (sl cs rest) t fr)) : RdB w g 0 cs :=
  RdB.of hg (fun j u hj => by rw [Nat.zero_add]; exact sl_get hj)
theorem RdB.rd {w : World} {g off n c : Nat} {cs : List Value} (h : RdB w g off cs) (hn : n ≤ c) : RdS w (.slice (some ⟨g, off, none⟩) n c) n cs := .inr ⟨_, c, rfl, hn, fun j u hj => by
  have hadd : (⟨g, off, none⟩ : Addr).add j = ⟨g, off + j, none⟩ := by unfold Addr.add; split <;> simp_all
  rw [hadd]; exact h j u hj⟩
end Go.Proofs.Ytlnlppmhiobgjaa
