/- Walks: outbox.Due: its closure, its rounds. -/
import Derived.Test.YtlnlppmhiobgjaaGD
import Derived.Laws.Small
set_option linter.unusedVariables false
set_option linter.unusedSimpArgs false
namespace Go.Proofs.Ytlnlppmhiobgjaa
open Go Go.RowKit
theorem EI_regionH {P : Program} {a : Act} {w w0 : World} {Q : Exit → Act → World → Prop} {nn : Nat} {ds : List Deferred} {V : List (Nat × Value)} {X : List Nat} {A R : List Blk} {lp m id : Nat} {lops : List Oper} (Fa : Fm nn ds V a) (H0 : Hp X w0 (A ++ R) w) (W : (Nat → SlR) → List (Nat × Value)) (slots : List Nat) (T : List TB) (L : List Blk) (ks : List Nat) (fu : Nat) (exs : List (Nat × List Nat))
    (hm : P.follows .mixedOrders = true) (hn : nodupB ks = true) (hck : (edgesDown lops.toArray && opsFedX lops.toArray fu exs && opsOnce lops.toArray && (slots.all fun x => Nat.blt x nn && lops.toArray.any fun o => o.dst == some x) && nodupB slots && T.all (fun b => b.sts.all (fun s => Nat.blt s.i lops.toArray.size) && (match b.al with | none => true | some j => Nat.blt j lops.toArray.size) && (match b.kl with | none => true | some j => Nat.blt j lops.toArray.size))) = true)
    (hL : ks.filterMap (fun k => A[k]?) = oldL T ++ L) (hslots : ∀ β, keys (W β) = slots) (hq0' : oldQ T)
    (hop : AllS2 P lops.toArray W V exs (J2 X w0 T (L ++ R)) 0 lops)
    (he : ∀ β a w, endQ β T → Fm nn ds (W β ++ V) a → Hp X w0 (endL T β ++ (L ++ R)) w → Q .normal a w) (hno : ¬ LetsOut Q := by rintro ⟨_, _, h⟩; exact h) (hnd : lops.all noDefer = true := by (as_aux_lemma => kernel_rfl)) : (Code.region id lops.toArray true).wpIn (rf lp) m P Q a w :=
  wpIn_region_any hm (anyR hno (fun i o ho => by
    have := List.all_eq_true.1 hnd o (List.mem_of_getElem? (by simpa using ho))
    exact this) _ _ _ _ (E_regionH0 Fa W slots T (L ++ R) (by have := H0.pickT ks hn _ hL; rwa [List.append_assoc] at this) fu exs hck hslots hq0' hop he))
theorem R_min {P : Program} {o : Oper} {V : List (Nat × Value)} {t1 t2 : TypeId} {x y : Operand} (ho : o.op = .call { callee := .builtin .min, args := #[x, y], argTypes := #[t1, t2] }) {k : IntKind} {a b : Int} (hx : evV V x = .int k a) (hy : evV V y = .int k b) (hab : a ≤ b) (w : World) : (execOp (evV V) o).run P w = .ok (.value (.int k a)) w := by
  unfold execOp
  simp only [ho, resolve, invoke, builtin, Sem.run_bind, Sem.run_pure, Result.andThen_ok, List.map_toArray, List.map_cons, List.map_nil, hx, hy, run_min_int2]
  rw [if_neg (by omega)]
theorem i_sub64m {b : Nat} (h : b ≤ 18446744073709551615) : intRes .sub .u64 ((18446744073709551615 : Nat) : Int) (b : Int) = some (.int .u64 ((18446744073709551615 - b : Nat) : Int)) := by
  unfold intRes
  refine congrArg (fun q => some (Value.int .u64 q)) ?_
  rw [IntKind.wrap_u64]; omega
theorem i_addu64' {a b : Nat} (h : a + b < 18446744073709551616) : intRes .add .u64 (a : Int) (b : Int) = some (.int .u64 ((a + b : Nat) : Int)) := by
  unfold intRes
  refine congrArg (fun q => some (Value.int .u64 q)) ?_
  rw [IntKind.wrap_u64]; omega
theorem ent_put {E : List Ent} {k : Nat} {e : Ent} {rest : List Value} (d : Nat) (h : E[k]? = some e) : (sl (entC E) rest).setIfInBounds (0 + k * 3 + 1) (.int .u64 ((d : Nat) : Int)) = sl (entC (E.set k { e with due := d })) rest := by
  have hk := (List.getElem?_eq_some_iff.1 h).1
  rw [Nat.zero_add, sl_set (by rw [entC_len]; omega), entC_set d h]
theorem ent_in {E : List Ent} {k : Nat} {e : Ent} {rest : List Value} (h : E[k]? = some e) : 0 + k * 3 + 1 < (sl (entC E) rest).size := by
  have hk := (List.getElem?_eq_some_iff.1 h).1
  rw [sl_size, entC_len]; omega
theorem Hp.tailC {X : List Nat} {w0 w : World} {A : List Blk} {c : Cl} {cs : List Cl} (H : Hp X w0 (A ++ (c.blks ++ clB cs)) w) : Hp X w0 (A ++ clB (cs ++ [c])) w := H.perm (by rw [clB_snoc]; exact List.perm_append_comm.append_left A)
theorem inBn {Q : Exit → Act → World → Prop} {a : Act} {w : World} {id : Nat} (hq : Q .normal a w) : Exit.inBlock id Q .normal a w := hq
theorem cl_one {cs : List Cl} : ∀ u ∈ cs.map Cl.v, u.oneCell' = true := fun u hu => by
  obtain ⟨c, _, rfl⟩ := List.mem_map.1 hu
  exact c.one
theorem Hp.merge {X : List Nat} {w0 : World} {L L' : List Blk} {w w' : World} (H : Hp X w0 L w) (H' : Hp [] w L' w') (hown : L'.all (·.own) = true) : Hp X w0 (L' ++ L) w' :=
  Hp.merge2 (A := []) H rfl rfl H' (List.all_eq_true.1 hown)

set_option maxRecDepth 100000 in
set_option maxHeartbeats 4000000 in
theorem due_clo (xb now : Nat) (w : World) : Calls Try.prog 30 #[.pointer (some ⟨xb, 0, none⟩), .int .u64 ((now : Nat) : Int)] w fun e w' => ∃ r : SlR, e = .returned (.func (.func 37) #[] #[.pointer (some ⟨r.g, 0, none⟩), .pointer (some ⟨r.cap, 0, none⟩)]) ∧ Hp [] w [⟨true, r.g, .cells #[.pointer (some ⟨xb, 0, none⟩)] 44 (0, 0)⟩, ⟨true, r.cap, .cells #[.int .u64 ((now : Nat) : Int)] 48 (0, 0)⟩] w' := by
  refine C_enter Try.func30 rfl 6 Try.ntmps30 (Nat.le_of_ble_eq_true rfl) (fun a F => ?_)
  have H := Hp.start [] w
  replace F : Fm 6 [] [(0, pt xb 0), (1, nu now)] a := F.weak _ (subL_of kr)
  refine C_seqK (fun K1 hK1 => ?_)
  refine C_region ?_
  refine T_new F H kr (fun ad => pt ad 0) (ce #[pt xb 0] 44) (fun w => kr) ?_
  clear F H; intro aq2 a v F H
  refine T_new F H kr (fun ad => pt ad 0) (ce #[nu now] 48) (fun w => kr) ?_
  clear F H; intro aq3 a v F H
  refine T_k F H (.nilFunc) ?_
  clear F; intro a F
  refine wpList_nil ?_
  refine hK1 _ _ ?_
  clear hK1
  try clear K1
  refine C_seqK (fun K4 hK4 => ?_)
  refine C_region ?_
  refine T_k F H (.func (.func 37) #[] #[pt aq2 0, pt aq3 0]) ?_
  clear F; intro a F
  refine T_k F H (.func (.func 37) #[] #[pt aq2 0, pt aq3 0]) ?_
  clear F; intro a F
  refine wpList_nil ?_
  refine hK4 _ _ ?_
  clear hK4
  try clear K4
  replace F : Fm 6 [] [(4, .func (.func 37) #[] #[pt aq2 0, pt aq3 0]), (2, pt aq2 0), (3, pt aq3 0)] a := F.weak _ (subL_of kr)
  replace H : Hp [] w [bk aq2 #[pt xb 0] 44, bk aq3 #[nu now] 48] v := H.pick [1, 0] kr _ rfl
  refine wp_ret ?_
  exact C_ret F H (rs := [.tmp 4]) rfl (vs := [.func (.func 37) #[] #[pt aq2 0, pt aq3 0]]) (.tmp rfl .nil) (.func (.func 37) #[] #[pt aq2 0, pt aq3 0]) rfl ⟨⟨aq2, aq3, [], 0⟩, rfl, H⟩

/-- The parts of the one range over a function in a piece of code. -/
def rfC : Code → Option Code
  | .seq x y => (rfC x).orElse fun _ => rfC y
  | .block _ x => rfC x
  | .rangeFunc g ps x y => some (.rangeFunc g ps x y)
  | _ => none
def rfA (c : Code) : Option Code := match rfC c with | some (.rangeFunc _ _ x _) => some x | _ => none
def rfB (c : Code) : Option Code := match rfC c with | some (.rangeFunc _ _ _ y) => some y | _ => none
noncomputable abbrev duAs : Code := (Try.f17.body.bind rfA).getD .skip
noncomputable abbrev duBd : Code := (Try.f17.body.bind rfB).getD .skip
noncomputable abbrev duRec (fn : Nat) (tm : Array Value) (D : Nat) (st : LoopState) (pe : Option Code) : Obj := .loop { state := st, pending := pe, fn := fn, tmps := tm, params := #[10], assign := duAs, body := duBd, defers := D }

set_option maxRecDepth 100000 in
set_option maxHeartbeats 4000000 in
theorem due_first_nil (X : List Nat) (w0 : World) (m ob nb pb qb xb ag n cap fn D lp now : Nat) (rest : List Value) (hnow : now < 4611686018427387904) (a : Act) (F : Fm 28 [] [(5, .pointer (some ⟨ob, 0, none⟩)), (3, .pointer (some ⟨nb, 0, none⟩))] a) (tm : Array Value) (E : List Ent) (k ix du bg bc : Nat) (br_ : List Value) (he : E[k]? = some ⟨ix, du, ⟨true, bg, bc, br_, []⟩⟩) (w : World) (H : Hp X w0 [⟨true, lp, duRec fn tm D .ready none⟩, ⟨true, D, .deferred (some [])⟩, ⟨true, ob, .cells #[.slice none 0 0] 26 (0, 0)⟩, ⟨true, nb, .cells #[.int .u64 ((now : Nat) : Int)] 48 (0, 0)⟩, ⟨true, pb, .cells #[.pointer (some ⟨xb, 0, none⟩)] 44 (0, 0)⟩, ⟨true, qb, .cells #[.int .u64 ((now : Nat) : Int)] 48 (0, 0)⟩, ⟨false, xb, .cells #[.slice (some ⟨ag, 0, none⟩) n cap] 47 (0, 0)⟩, ⟨true, ag, .cells (sl (entC E) rest) 71 (0, 0)⟩] w) : RoundIn Fence.wide m Try.prog lp fn (a.tmps.setIfInBounds 10 (.pointer (some ⟨ag, 0 + k * 3, none⟩))) duAs duBd w fun e w' => e = .returned (.bool true) ∧ ∃ (o : Ls) (c : Cl), o.ok ∧ o.cs = [] ++ [c] ∧ c.ok ∧ c.l = [] ∧ Hp X w0 (⟨true, lp, duRec fn tm D .ready none⟩ :: ⟨true, D, .deferred (some [])⟩ :: ⟨true, ob, .cells #[o.v] 26 (0, 0)⟩ :: ⟨true, nb, .cells #[.int .u64 ((now : Nat) : Int)] 48 (0, 0)⟩ :: ⟨true, pb, .cells #[.pointer (some ⟨xb, 0, none⟩)] 44 (0, 0)⟩ :: ⟨true, qb, .cells #[.int .u64 ((now : Nat) : Int)] 48 (0, 0)⟩ :: ⟨false, xb, .cells #[.slice (some ⟨ag, 0, none⟩) n cap] 47 (0, 0)⟩ :: ⟨true, ag, .cells (sl (entC (E.set k { (⟨ix, du, ⟨true, bg, bc, br_, []⟩⟩ : Ent) with due := now + 5 })) rest) 71 (0, 0)⟩ :: o.blks) w' := by
  refine roundIn_of_wpIn trivial ?_
  replace F := F.round (t := 10) kr (pt ag (0 + k * 3))
  replace H : Hp X w0 [⟨true, lp, duRec fn tm D .ready none⟩, ⟨true, D, .deferred (some [])⟩, bk ob #[.slice none 0 0] 26, bk nb #[nu now] 48, bk pb #[pt xb 0] 44, bk qb #[nu now] 48, br xb #[sc ag 0 n cap] 47, bk ag (sl (entC E) rest) 71] w := H
  refine CI_region ?_
  refine T_k F H (pt ag (0 + k * 3)) ?_
  clear F; intro a F
  refine wpList_nil ?_
  refine round_begin H (k := 0) rfl rfl (fun v H => ?_)
  replace H : Hp X w0 [⟨true, lp, duRec fn tm D .busy none⟩, ⟨true, D, .deferred (some [])⟩, bk ob #[.slice none 0 0] 26, bk nb #[nu now] 48, bk pb #[pt xb 0] 44, bk qb #[nu now] 48, br xb #[sc ag 0 n cap] 47, bk ag (sl (entC E) rest) 71] v := H
  replace F : Fm 28 [] [(6, pt ag (0 + k * 3)), (5, pt ob 0), (3, pt nb 0)] a := F.weak _ (subL_of kr)
  refine wpIn_block ?_
  refine CI_seqK (fun K1 hK1 => ?_)
  refine EI_region F H (fun β => [(11, .slice none 0 0), (12, pt ag (0 + k * 3)), (13, pt ag (0 + k * 3)), (14, pt ag ((0 + k * 3) + 2)), (15, .slice none 0 0), (16, .slice none 0 0), (17, sc ((β 6).g) 0 1 1), (18, sc ((β 7).g) 0 1 (β 7).cap)]) [11, 12, 13, 14, 15, 16, 17, 18] [⟨some 6, none, 0, [], fun q_ => ce #[.slice none 0 0] 30, gT, []⟩,
    ⟨some 7, none, 0, [7], fun q_ => ce (sl ([.slice none 0 0]) (gh q_ 0).rest) 30, fun q_ => Own ([.slice none 0 0]) (gh q_ 0).rest (1) (gh q_ 0).cap 1, []⟩,
    ⟨none, none, ob, [], fun q_ => ce #[.slice none 0 0] 26, gT, [⟨8, [7], fun q_ => ce #[sc ((gh q_ 0).g) 0 1 (gh q_ 0).cap] 26, gT⟩]⟩] [⟨true, lp, duRec fn tm D .busy none⟩, ⟨true, D, .deferred (some [])⟩, bk nb #[nu now] 48, bk pb #[pt xb 0] 44, bk qb #[nu now] 48, br xb #[sc ag 0 n cap] 47, bk ag (sl (entC E) rest) 71] [2, 0, 1, 3, 4, 5, 6, 7] 2 [] kr kr kr (fun β => rfl) ⟨fun h _ => Bool.noConfusion h, ⟨fun h _ => Bool.noConfusion h, ⟨fun _ _ => trivial, trivial⟩⟩⟩ ⟨?_, ?_, ?_, ?_, ?_, ?_, ?_, ?_, ?_, trivial⟩ ?_
  · exact E_v 28 (fun β => .slice none 0 0) 11 2 [(2, 0)] (fun β w hk hl hq => R_cellH hl (own := true) (g := ob) (all := #[.slice none 0 0]) (t := 26) (fr := (0, 0)) 0 kr 26 (.tmp 5) rfl 0 kr (.slice none 0 0) kr _ Try.underlying26 rfl)
  · exact E_k 28 (fun β => pt ag (0 + k * 3)) 12 2
  · exact E_k 28 (fun β => pt ag (0 + k * 3)) 13 2
  · exact E_k 28 (fun β => pt ag ((0 + k * 3) + 2)) 14 2
  · exact E_v 28 (fun β => .slice none 0 0) 15 2 [] (fun β w hk hl hq => R_cellH hl (own := true) (g := ag) (all := (sl (entC E) rest)) (t := 71) (fr := (0, 0)) 6 kr 30 (.tmp 14) rfl ((0 + k * 3) + 2) kr (.slice none 0 0) (ent_b (e := ⟨ix, du, ⟨true, bg, bc, br_, []⟩⟩) he) _ Try.underlying30 rfl)
  · exact E_call 28 kq (fun β => .slice none 0 0) 16 rfl kq 29 (fun β => #[.slice none 0 0]) (fun β w => kr) 2 [] kr rfl (fun β w hk hl hq => clone_nil _)
  · exact E_new 28 kq (fun β => sc ((β 6).g) 0 1 1) 17 rfl kq 2 (fun β r => offAt2_of kr kr) 2 [] 0 _ rfl kr kr rfl (fun β w hk hl hq => ⟨⟨w.heap.size, 0, [], 0⟩, _, (R_buildS (len := 1) rfl Try.underlying26 (#[.slice none 0 0]) kr w), trivial, Nat.le_refl _, heap_alloc_new _ _, Kept.alloc _ _⟩)
  · exact E_new 28 kq (fun β => sc ((β 7).g) 0 1 (β 7).cap) 18 rfl kq 2 (fun β r => offAt2_of kr kr) 2 [(0, 0)] 1 _ rfl kr kr rfl (fun β w hk hl hq => let ⟨r, w', h1, h2, h3, h4, h5⟩ := run_appN (size := 1) (bytes := 24) (t := 26) (e := 30) kr kr (x := sc ((β 6).g) 0 1 1) (m := 1) (news := [.slice none 0 0]) (RdS.all (hl.at_ (k := 0) rfl) (Nat.le_refl _)) rfl (by decide) (by simp only [maxLen]; decide) (by decide); ⟨r, w', exec_append (s := (.tmp 11)) (x := (.tmp 17)) rfl kr rfl h1, h2, h4, h3, h5⟩)
  · exact E_store 28 kq rfl 2 [] 2 0 _ _ rfl rfl kr rfl (fun _ => trivial) (fun β w hk hl hq hm => let ⟨w', h1, h2, h3⟩ := P_cell (off := 0) (old := #[.slice none 0 0]) (v := sc ((β 7).g) 0 1 (β 7).cap) (Z := ce #[.slice none 0 0] 26) (R := ce #[sc ((β 7).g) 0 1 (β 7).cap] 26) rfl rfl (ty := 26) (x := (.tmp 5)) (y := (.tmp 18)) rfl kr kr rfl (Nat.le_of_ble_eq_true rfl) Try.underlying26 rfl kr hm; ⟨w', h1, h2, h3⟩)
  clear F H; intro β a v Q F H
  replace H : Hp X w0 [bk ((β 6).g) #[.slice none 0 0] 30, bk ((β 7).g) (sl ([.slice none 0 0]) (β 7).rest) 30, bk ob #[sc ((β 7).g) 0 1 (β 7).cap] 26, ⟨true, lp, duRec fn tm D .busy none⟩, ⟨true, D, .deferred (some [])⟩, bk nb #[nu now] 48, bk pb #[pt xb 0] 44, bk qb #[nu now] 48, br xb #[sc ag 0 n cap] 47, bk ag (sl (entC E) rest) 71] v := H
  replace F : Fm 28 [] [(18, sc ((β 7).g) 0 1 (β 7).cap), (17, sc ((β 6).g) 0 1 1), (16, .slice none 0 0), (15, .slice none 0 0), (14, pt ag ((0 + k * 3) + 2)), (13, pt ag (0 + k * 3)), (12, pt ag (0 + k * 3)), (11, .slice none 0 0), (6, pt ag (0 + k * 3)), (5, pt ob 0), (3, pt nb 0)] a := F.weak _ (subL_of kr)
  have Qh2_1 : Own ([.slice none 0 0]) (β 7).rest (1) (β 7).cap 1 := Q.2.2.1
  clear Q
  generalize β 6 = rq1 at F H Qh2_1
  generalize β 7 = rq2 at F H Qh2_1
  skip
  refine ?_
  have Qrq2' := Qh2_1
  replace F : Fm 28 [] [(6, pt ag (0 + k * 3)), (5, pt ob 0), (3, pt nb 0)] a := F.weak _ (subL_of kr)
  replace H : Hp X w0 [⟨true, lp, duRec fn tm D .busy none⟩, ⟨true, D, .deferred (some [])⟩, bk ob #[sc rq2.g 0 1 rq2.cap] 26, bk nb #[nu now] 48, bk pb #[pt xb 0] 44, bk qb #[nu now] 48, br xb #[sc ag 0 n cap] 47, bk ag (sl (entC E) rest) 71, bk rq2.g (sl ([.slice none 0 0]) rq2.rest) 30] v := H.pick [3, 4, 2, 5, 6, 7, 8, 9, 1] kr _ rfl
  refine hK1 _ _ ?_
  clear hK1
  try clear K1
  refine CI_region ?_
  refine T_k F H (pt ag (0 + k * 3)) ?_
  clear F; intro a F
  refine T_val F H kr (nu now) (R_cell (own := true) (g := nb) (all := #[nu now]) (t := 48) (fr := (0, 0)) 3 kr 48 (.tmp 3) rfl 0 kr (nu now) kr _ Try.underlying48 rfl) ?_
  clear F; intro a F
  refine T_val F H kr (nu now) (R_cell (own := true) (g := nb) (all := #[nu now]) (t := 48) (fr := (0, 0)) 3 kr 48 (.tmp 3) rfl 0 kr (nu now) kr _ Try.underlying48 rfl) ?_
  clear F; intro a F
  refine T_val F H kr (nu (18446744073709551615 - now)) (fun w _ => R_bin (x := (.const (.int .u64 18446744073709551615))) (y := (.tmp 21)) rfl (k := .u64) (a := ((18446744073709551615 : Nat) : Int)) (b := ((now : Nat) : Int)) kr kr (i_sub64m (by omega)) w) ?_
  clear F; intro a F
  refine T_val F H kr (nu 5) (fun w _ => R_min (x := (.const (.int .u64 5))) (y := (.tmp 22)) rfl (k := .u64) (a := ((5 : Nat) : Int)) (b := ((18446744073709551615 - now : Nat) : Int)) kr kr (by omega) w) ?_
  clear F; intro a F
  refine T_val F H kr (nu (now + 5)) (fun w _ => R_bin (x := (.tmp 20)) (y := (.tmp 23)) rfl (k := .u64) (a := ((now : Nat) : Int)) (b := ((5 : Nat) : Int)) kr kr (i_addu64' (by omega)) w) ?_
  clear F; intro a F
  refine T_k F H (pt ag (0 + k * 3)) ?_
  clear F; intro a F
  refine T_k F H (pt ag ((0 + k * 3) + 1)) ?_
  clear F; intro a F
  refine T_set F H kr rfl 7 rfl _ (S_cell 7 rfl 48 (.tmp 26) (.tmp 24) rfl (0 + k * 3 + 1) kr (nu (now + 5)) kr rfl (ent_in he) _ Try.underlying48 rfl kr) [⟨true, lp, duRec fn tm D .busy none⟩, ⟨true, D, .deferred (some [])⟩, bk ob #[sc rq2.g 0 1 rq2.cap] 26, bk nb #[nu now] 48, bk pb #[pt xb 0] 44, bk qb #[nu now] 48, br xb #[sc ag 0 n cap] 47, bk ag (sl (entC (E.set k { (⟨ix, du, ⟨true, bg, bc, br_, []⟩⟩ : Ent) with due := now + 5 })) rest) 71, bk rq2.g (sl ([.slice none 0 0]) rq2.rest) 30] (by rw [ent_put _ he]; rfl) ?_
  clear F H; intro a v F H
  refine wpList_nil ?_
  refine inBn ?_
  refine round_on H (k := 0) rfl (fun v H => ?_)
  refine ⟨rfl, (⟨false, rq2.g, rq2.cap, rq2.rest, [] ++ [(⟨true, 0, 0, [], []⟩ : Cl)]⟩ : Ls), ⟨true, 0, 0, [], []⟩, ⟨(fun e => by cases e), (fun _ => by rw [List.nil_append]; exact Qrq2'), (fun c hc => by rw [List.mem_singleton.1 hc]; exact ⟨Nat.zero_le _, fun _ => rfl, fun e => by cases e⟩)⟩, rfl, ⟨Nat.zero_le _, fun _ => rfl, fun e => by cases e⟩, rfl, ?_⟩
  exact Hp.tailC (A := [⟨true, lp, duRec fn tm D .ready none⟩, ⟨true, D, .deferred (some [])⟩, bk ob #[sc rq2.g 0 ([] ++ [(⟨true, 0, 0, [], []⟩ : Cl)]).length rq2.cap] 26, bk nb #[nu now] 48, bk pb #[pt xb 0] 44, bk qb #[nu now] 48, br xb #[sc ag 0 n cap] 47, bk ag (sl (entC (E.set k { (⟨ix, du, ⟨true, bg, bc, br_, []⟩⟩ : Ent) with due := now + 5 })) rest) 71, bk rq2.g (sl (([⟨true, 0, 0, [], []⟩] : List Cl).map Cl.v) rq2.rest) 30]) (c := ⟨true, 0, 0, [], []⟩) (cs := []) H

set_option maxRecDepth 100000 in
set_option maxHeartbeats 4000000 in
theorem due_first_some (X : List Nat) (w0 : World) (m ob nb pb qb xb ag n cap fn D lp now : Nat) (rest : List Value) (hnow : now < 4611686018427387904) (a : Act) (F : Fm 28 [] [(5, .pointer (some ⟨ob, 0, none⟩)), (3, .pointer (some ⟨nb, 0, none⟩))] a) (tm : Array Value) (E : List Ent) (k ix du bg bc : Nat) (br_ : List Value) (l : List Nat) (hbig : l.length ≤ 140737488355328) (hb : Sv.RdK X w0 ⟨some ⟨bg, 0, none⟩, bc, l⟩) (he : E[k]? = some ⟨ix, du, ⟨false, bg, bc, br_, l⟩⟩) (w : World) (H : Hp X w0 [⟨true, lp, duRec fn tm D .ready none⟩, ⟨true, D, .deferred (some [])⟩, ⟨true, ob, .cells #[.slice none 0 0] 26 (0, 0)⟩, ⟨true, nb, .cells #[.int .u64 ((now : Nat) : Int)] 48 (0, 0)⟩, ⟨true, pb, .cells #[.pointer (some ⟨xb, 0, none⟩)] 44 (0, 0)⟩, ⟨true, qb, .cells #[.int .u64 ((now : Nat) : Int)] 48 (0, 0)⟩, ⟨false, xb, .cells #[.slice (some ⟨ag, 0, none⟩) n cap] 47 (0, 0)⟩, ⟨true, ag, .cells (sl (entC E) rest) 71 (0, 0)⟩] w) : RoundIn Fence.wide m Try.prog lp fn (a.tmps.setIfInBounds 10 (.pointer (some ⟨ag, 0 + k * 3, none⟩))) duAs duBd w fun e w' => e = .returned (.bool true) ∧ ∃ (o : Ls) (c : Cl), o.ok ∧ o.cs = [] ++ [c] ∧ c.ok ∧ c.l = l ∧ Hp X w0 (⟨true, lp, duRec fn tm D .ready none⟩ :: ⟨true, D, .deferred (some [])⟩ :: ⟨true, ob, .cells #[o.v] 26 (0, 0)⟩ :: ⟨true, nb, .cells #[.int .u64 ((now : Nat) : Int)] 48 (0, 0)⟩ :: ⟨true, pb, .cells #[.pointer (some ⟨xb, 0, none⟩)] 44 (0, 0)⟩ :: ⟨true, qb, .cells #[.int .u64 ((now : Nat) : Int)] 48 (0, 0)⟩ :: ⟨false, xb, .cells #[.slice (some ⟨ag, 0, none⟩) n cap] 47 (0, 0)⟩ :: ⟨true, ag, .cells (sl (entC (E.set k { (⟨ix, du, ⟨false, bg, bc, br_, l⟩⟩ : Ent) with due := now + 5 })) rest) 71 (0, 0)⟩ :: o.blks) w' := by
  refine roundIn_of_wpIn trivial ?_
  replace F := F.round (t := 10) kr (pt ag (0 + k * 3))
  replace H : Hp X w0 [⟨true, lp, duRec fn tm D .ready none⟩, ⟨true, D, .deferred (some [])⟩, bk ob #[.slice none 0 0] 26, bk nb #[nu now] 48, bk pb #[pt xb 0] 44, bk qb #[nu now] 48, br xb #[sc ag 0 n cap] 47, bk ag (sl (entC E) rest) 71] w := H
  refine CI_region ?_
  refine T_k F H (pt ag (0 + k * 3)) ?_
  clear F; intro a F
  refine wpList_nil ?_
  refine round_begin H (k := 0) rfl rfl (fun v H => ?_)
  replace H : Hp X w0 [⟨true, lp, duRec fn tm D .busy none⟩, ⟨true, D, .deferred (some [])⟩, bk ob #[.slice none 0 0] 26, bk nb #[nu now] 48, bk pb #[pt xb 0] 44, bk qb #[nu now] 48, br xb #[sc ag 0 n cap] 47, bk ag (sl (entC E) rest) 71] v := H
  replace F : Fm 28 [] [(6, pt ag (0 + k * 3)), (5, pt ob 0), (3, pt nb 0)] a := F.weak _ (subL_of kr)
  refine wpIn_block ?_
  refine CI_seqK (fun K1 hK1 => ?_)
  refine EI_region F H (fun β => [(11, .slice none 0 0), (12, pt ag (0 + k * 3)), (13, pt ag (0 + k * 3)), (14, pt ag ((0 + k * 3) + 2)), (15, sc bg 0 l.length bc), (16, sc ((β 5).g) 0 l.length (β 5).cap), (17, sc ((β 6).g) 0 1 1), (18, sc ((β 7).g) 0 1 (β 7).cap)]) [11, 12, 13, 14, 15, 16, 17, 18] [⟨some 5, none, 0, [5], fun q_ => ce (sl (oct (l)) (gh q_ 0).rest) 5, fun q_ => Own (oct (l)) (gh q_ 0).rest (l.length) (gh q_ 0).cap 1, []⟩,
    ⟨some 6, none, 0, [5], fun q_ => ce #[sc ((gh q_ 0).g) 0 l.length (gh q_ 0).cap] 30, gT, []⟩,
    ⟨some 7, none, 0, [5, 7], fun q_ => ce (sl ([sc ((gh q_ 0).g) 0 l.length (gh q_ 0).cap]) (gh q_ 1).rest) 30, fun q_ => Own ([sc ((gh q_ 0).g) 0 l.length (gh q_ 0).cap]) (gh q_ 1).rest (1) (gh q_ 1).cap 1, []⟩,
    ⟨none, none, ob, [], fun q_ => ce #[.slice none 0 0] 26, gT, [⟨8, [7], fun q_ => ce #[sc ((gh q_ 0).g) 0 1 (gh q_ 0).cap] 26, gT⟩]⟩] [⟨true, lp, duRec fn tm D .busy none⟩, ⟨true, D, .deferred (some [])⟩, bk nb #[nu now] 48, bk pb #[pt xb 0] 44, bk qb #[nu now] 48, br xb #[sc ag 0 n cap] 47, bk ag (sl (entC E) rest) 71] [2, 0, 1, 3, 4, 5, 6, 7] 2 [] kr kr kr (fun β => rfl) ⟨fun h _ => Bool.noConfusion h, ⟨fun h _ => Bool.noConfusion h, ⟨fun h _ => Bool.noConfusion h, ⟨fun _ _ => trivial, trivial⟩⟩⟩⟩ ⟨?_, ?_, ?_, ?_, ?_, ?_, ?_, ?_, ?_, trivial⟩ ?_
  · exact E_v 28 (fun β => .slice none 0 0) 11 2 [(3, 0)] (fun β w hk hl hq => R_cellH hl (own := true) (g := ob) (all := #[.slice none 0 0]) (t := 26) (fr := (0, 0)) 0 kr 26 (.tmp 5) rfl 0 kr (.slice none 0 0) kr _ Try.underlying26 rfl)
  · exact E_k 28 (fun β => pt ag (0 + k * 3)) 12 2
  · exact E_k 28 (fun β => pt ag (0 + k * 3)) 13 2
  · exact E_k 28 (fun β => pt ag ((0 + k * 3) + 2)) 14 2
  · exact E_v 28 (fun β => sc bg 0 l.length bc) 15 2 [] (fun β w hk hl hq => R_cellH hl (own := true) (g := ag) (all := (sl (entC E) rest)) (t := 71) (fr := (0, 0)) 6 kr 30 (.tmp 14) rfl ((0 + k * 3) + 2) kr (sc bg 0 l.length bc) (ent_b (e := ⟨ix, du, ⟨false, bg, bc, br_, l⟩⟩) he) _ Try.underlying30 rfl)
  · exact E_callS 28 kq (fun β => sc ((β 5).g) 0 l.length (β 5).cap) 16 rfl kq 2 (fun β r => offAt2_of kr kr) 29 (fun β => #[sc bg 0 l.length bc]) (fun β w => kr) 2 [] 0 _ rfl kr kr rfl (fun β w hk hl hq => clone_some ⟨bg, 0, none⟩ l.length bc l rfl hbig _ ((hb _ hk).rds rfl))
  · exact E_new 28 kq (fun β => sc ((β 6).g) 0 1 1) 17 rfl kq 2 (fun β r => offAt2_of kr kr) 2 [] 1 _ rfl kr kr rfl (fun β w hk hl hq => ⟨⟨w.heap.size, 0, [], 0⟩, _, (R_buildS (len := 1) rfl Try.underlying26 (#[sc ((β 5).g) 0 l.length (β 5).cap]) kr w), trivial, Nat.le_refl _, heap_alloc_new _ _, Kept.alloc _ _⟩)
  · exact E_new 28 kq (fun β => sc ((β 7).g) 0 1 (β 7).cap) 18 rfl kq 2 (fun β r => offAt2_of kr kr) 2 [(1, 0)] 2 _ rfl kr kr rfl (fun β w hk hl hq => let ⟨r, w', h1, h2, h3, h4, h5⟩ := run_appN (size := 1) (bytes := 24) (t := 26) (e := 30) kr kr (x := sc ((β 6).g) 0 1 1) (m := 1) (news := [sc ((β 5).g) 0 l.length (β 5).cap]) (RdS.all (hl.at_ (k := 0) rfl) (Nat.le_refl _)) rfl (by decide) (by simp only [maxLen]; decide) (by decide); ⟨r, w', exec_append (s := (.tmp 11)) (x := (.tmp 17)) rfl kr rfl h1, h2, h4, h3, h5⟩)
  · exact E_store 28 kq rfl 2 [] 3 0 _ _ rfl rfl kr rfl (fun _ => trivial) (fun β w hk hl hq hm => let ⟨w', h1, h2, h3⟩ := P_cell (off := 0) (old := #[.slice none 0 0]) (v := sc ((β 7).g) 0 1 (β 7).cap) (Z := ce #[.slice none 0 0] 26) (R := ce #[sc ((β 7).g) 0 1 (β 7).cap] 26) rfl rfl (ty := 26) (x := (.tmp 5)) (y := (.tmp 18)) rfl kr kr rfl (Nat.le_of_ble_eq_true rfl) Try.underlying26 rfl kr hm; ⟨w', h1, h2, h3⟩)
  clear F H; intro β a v Q F H
  replace H : Hp X w0 [bk ((β 5).g) (sl (oct (l)) (β 5).rest) 5, bk ((β 6).g) #[sc ((β 5).g) 0 l.length (β 5).cap] 30, bk ((β 7).g) (sl ([sc ((β 5).g) 0 l.length (β 5).cap]) (β 7).rest) 30, bk ob #[sc ((β 7).g) 0 1 (β 7).cap] 26, ⟨true, lp, duRec fn tm D .busy none⟩, ⟨true, D, .deferred (some [])⟩, bk nb #[nu now] 48, bk pb #[pt xb 0] 44, bk qb #[nu now] 48, br xb #[sc ag 0 n cap] 47, bk ag (sl (entC E) rest) 71] v := H
  replace F : Fm 28 [] [(18, sc ((β 7).g) 0 1 (β 7).cap), (17, sc ((β 6).g) 0 1 1), (16, sc ((β 5).g) 0 l.length (β 5).cap), (15, sc bg 0 l.length bc), (14, pt ag ((0 + k * 3) + 2)), (13, pt ag (0 + k * 3)), (12, pt ag (0 + k * 3)), (11, .slice none 0 0), (6, pt ag (0 + k * 3)), (5, pt ob 0), (3, pt nb 0)] a := F.weak _ (subL_of kr)
  have Qh3_0 : Own (oct (l)) (β 5).rest (l.length) (β 5).cap 1 := Q.1
  have Qh3_2 : Own ([sc ((β 5).g) 0 l.length (β 5).cap]) (β 7).rest (1) (β 7).cap 1 := Q.2.2.2.2.1
  clear Q
  generalize β 5 = rq1 at F H Qh3_0 Qh3_2
  generalize β 6 = rq2 at F H Qh3_0 Qh3_2
  generalize β 7 = rq3 at F H Qh3_0 Qh3_2
  skip
  refine ?_
  have Qrq3' := Qh3_2
  have Qrq1' := Qh3_0
  replace F : Fm 28 [] [(6, pt ag (0 + k * 3)), (5, pt ob 0), (3, pt nb 0)] a := F.weak _ (subL_of kr)
  replace H : Hp X w0 [⟨true, lp, duRec fn tm D .busy none⟩, ⟨true, D, .deferred (some [])⟩, bk ob #[sc rq3.g 0 1 rq3.cap] 26, bk nb #[nu now] 48, bk pb #[pt xb 0] 44, bk qb #[nu now] 48, br xb #[sc ag 0 n cap] 47, bk ag (sl (entC E) rest) 71, bk rq3.g (sl ([sc rq1.g 0 l.length rq1.cap]) rq3.rest) 30, bk rq1.g (sl (oct (l)) rq1.rest) 5] v := H.pick [4, 5, 3, 6, 7, 8, 9, 10, 2, 0] kr _ rfl
  refine hK1 _ _ ?_
  clear hK1
  try clear K1
  refine CI_region ?_
  refine T_k F H (pt ag (0 + k * 3)) ?_
  clear F; intro a F
  refine T_val F H kr (nu now) (R_cell (own := true) (g := nb) (all := #[nu now]) (t := 48) (fr := (0, 0)) 3 kr 48 (.tmp 3) rfl 0 kr (nu now) kr _ Try.underlying48 rfl) ?_
  clear F; intro a F
  refine T_val F H kr (nu now) (R_cell (own := true) (g := nb) (all := #[nu now]) (t := 48) (fr := (0, 0)) 3 kr 48 (.tmp 3) rfl 0 kr (nu now) kr _ Try.underlying48 rfl) ?_
  clear F; intro a F
  refine T_val F H kr (nu (18446744073709551615 - now)) (fun w _ => R_bin (x := (.const (.int .u64 18446744073709551615))) (y := (.tmp 21)) rfl (k := .u64) (a := ((18446744073709551615 : Nat) : Int)) (b := ((now : Nat) : Int)) kr kr (i_sub64m (by omega)) w) ?_
  clear F; intro a F
  refine T_val F H kr (nu 5) (fun w _ => R_min (x := (.const (.int .u64 5))) (y := (.tmp 22)) rfl (k := .u64) (a := ((5 : Nat) : Int)) (b := ((18446744073709551615 - now : Nat) : Int)) kr kr (by omega) w) ?_
  clear F; intro a F
  refine T_val F H kr (nu (now + 5)) (fun w _ => R_bin (x := (.tmp 20)) (y := (.tmp 23)) rfl (k := .u64) (a := ((now : Nat) : Int)) (b := ((5 : Nat) : Int)) kr kr (i_addu64' (by omega)) w) ?_
  clear F; intro a F
  refine T_k F H (pt ag (0 + k * 3)) ?_
  clear F; intro a F
  refine T_k F H (pt ag ((0 + k * 3) + 1)) ?_
  clear F; intro a F
  refine T_set F H kr rfl 7 rfl _ (S_cell 7 rfl 48 (.tmp 26) (.tmp 24) rfl (0 + k * 3 + 1) kr (nu (now + 5)) kr rfl (ent_in he) _ Try.underlying48 rfl kr) [⟨true, lp, duRec fn tm D .busy none⟩, ⟨true, D, .deferred (some [])⟩, bk ob #[sc rq3.g 0 1 rq3.cap] 26, bk nb #[nu now] 48, bk pb #[pt xb 0] 44, bk qb #[nu now] 48, br xb #[sc ag 0 n cap] 47, bk ag (sl (entC (E.set k { (⟨ix, du, ⟨false, bg, bc, br_, l⟩⟩ : Ent) with due := now + 5 })) rest) 71, bk rq3.g (sl ([sc rq1.g 0 l.length rq1.cap]) rq3.rest) 30, bk rq1.g (sl (oct (l)) rq1.rest) 5] (by rw [ent_put _ he]; rfl) ?_
  clear F H; intro a v F H
  refine wpList_nil ?_
  refine inBn ?_
  refine round_on H (k := 0) rfl (fun v H => ?_)
  refine ⟨rfl, (⟨false, rq3.g, rq3.cap, rq3.rest, [] ++ [(⟨false, rq1.g, rq1.cap, rq1.rest, l⟩ : Cl)]⟩ : Ls), ⟨false, rq1.g, rq1.cap, rq1.rest, l⟩, ⟨(fun e => by cases e), (fun _ => by rw [List.nil_append]; exact Qrq3'), (fun c hc => by rw [List.mem_singleton.1 hc]; exact ⟨hbig, (fun e => by cases e), fun _ => Qrq1'⟩)⟩, rfl, ⟨hbig, (fun e => by cases e), fun _ => Qrq1'⟩, rfl, ?_⟩
  exact Hp.tailC (A := [⟨true, lp, duRec fn tm D .ready none⟩, ⟨true, D, .deferred (some [])⟩, bk ob #[sc rq3.g 0 ([] ++ [(⟨false, rq1.g, rq1.cap, rq1.rest, l⟩ : Cl)]).length rq3.cap] 26, bk nb #[nu now] 48, bk pb #[pt xb 0] 44, bk qb #[nu now] 48, br xb #[sc ag 0 n cap] 47, bk ag (sl (entC (E.set k { (⟨ix, du, ⟨false, bg, bc, br_, l⟩⟩ : Ent) with due := now + 5 })) rest) 71, bk rq3.g (sl (([⟨false, rq1.g, rq1.cap, rq1.rest, l⟩] : List Cl).map Cl.v) rq3.rest) 30]) (c := ⟨false, rq1.g, rq1.cap, rq1.rest, l⟩) (cs := []) H

set_option maxRecDepth 100000 in
set_option maxHeartbeats 4000000 in
theorem due_later_nil (X : List Nat) (w0 : World) (m ob nb pb qb xb ag n cap fn D lp now : Nat) (rest : List Value) (hnow : now < 4611686018427387904) (a : Act) (F : Fm 28 [] [(5, .pointer (some ⟨ob, 0, none⟩)), (3, .pointer (some ⟨nb, 0, none⟩))] a) (tm : Array Value) (E : List Ent) (k ix du bg bc : Nat) (br_ : List Value) (he : E[k]? = some ⟨ix, du, ⟨true, bg, bc, br_, []⟩⟩) (og oc : Nat) (orest : List Value) (cs : List Cl) (hn3 : cs.length < 1000) (hOo : Own (cs.map Cl.v) orest cs.length oc 1) (hcs : ∀ c ∈ cs, c.ok) (w : World) (H : Hp X w0 (⟨true, lp, duRec fn tm D .ready none⟩ :: ⟨true, D, .deferred (some [])⟩ :: ⟨true, ob, .cells #[.slice (some ⟨og, 0, none⟩) cs.length oc] 26 (0, 0)⟩ :: ⟨true, nb, .cells #[.int .u64 ((now : Nat) : Int)] 48 (0, 0)⟩ :: ⟨true, pb, .cells #[.pointer (some ⟨xb, 0, none⟩)] 44 (0, 0)⟩ :: ⟨true, qb, .cells #[.int .u64 ((now : Nat) : Int)] 48 (0, 0)⟩ :: ⟨false, xb, .cells #[.slice (some ⟨ag, 0, none⟩) n cap] 47 (0, 0)⟩ :: ⟨true, ag, .cells (sl (entC E) rest) 71 (0, 0)⟩ :: ⟨true, og, .cells (sl (cs.map Cl.v) orest) 30 (0, 0)⟩ :: clB cs) w) : RoundIn Fence.wide m Try.prog lp fn (a.tmps.setIfInBounds 10 (.pointer (some ⟨ag, 0 + k * 3, none⟩))) duAs duBd w fun e w' => e = .returned (.bool true) ∧ ∃ (o : Ls) (c : Cl), o.ok ∧ o.cs = cs ++ [c] ∧ c.ok ∧ c.l = [] ∧ Hp X w0 (⟨true, lp, duRec fn tm D .ready none⟩ :: ⟨true, D, .deferred (some [])⟩ :: ⟨true, ob, .cells #[o.v] 26 (0, 0)⟩ :: ⟨true, nb, .cells #[.int .u64 ((now : Nat) : Int)] 48 (0, 0)⟩ :: ⟨true, pb, .cells #[.pointer (some ⟨xb, 0, none⟩)] 44 (0, 0)⟩ :: ⟨true, qb, .cells #[.int .u64 ((now : Nat) : Int)] 48 (0, 0)⟩ :: ⟨false, xb, .cells #[.slice (some ⟨ag, 0, none⟩) n cap] 47 (0, 0)⟩ :: ⟨true, ag, .cells (sl (entC (E.set k { (⟨ix, du, ⟨true, bg, bc, br_, []⟩⟩ : Ent) with due := now + 5 })) rest) 71 (0, 0)⟩ :: o.blks) w' := by
  refine roundIn_of_wpIn trivial ?_
  replace F := F.round (t := 10) kr (pt ag (0 + k * 3))
  replace H : Hp X w0 (⟨true, lp, duRec fn tm D .ready none⟩ :: ⟨true, D, .deferred (some [])⟩ :: (bk ob #[sc og 0 cs.length oc] 26) :: (bk nb #[nu now] 48) :: (bk pb #[pt xb 0] 44) :: (bk qb #[nu now] 48) :: (br xb #[sc ag 0 n cap] 47) :: (bk ag (sl (entC E) rest) 71) :: (bk og (sl (cs.map Cl.v) orest) 30) :: clB cs) w := H
  refine CI_region ?_
  refine T_k F H (pt ag (0 + k * 3)) ?_
  clear F; intro a F
  refine wpList_nil ?_
  refine round_begin H (k := 0) rfl rfl (fun v H => ?_)
  replace H : Hp X w0 (⟨true, lp, duRec fn tm D .busy none⟩ :: ⟨true, D, .deferred (some [])⟩ :: (bk ob #[sc og 0 cs.length oc] 26) :: (bk nb #[nu now] 48) :: (bk pb #[pt xb 0] 44) :: (bk qb #[nu now] 48) :: (br xb #[sc ag 0 n cap] 47) :: (bk ag (sl (entC E) rest) 71) :: (bk og (sl (cs.map Cl.v) orest) 30) :: clB cs) v := H
  replace F : Fm 28 [] [(6, pt ag (0 + k * 3)), (5, pt ob 0), (3, pt nb 0)] a := F.weak _ (subL_of kr)
  refine wpIn_block ?_
  refine CI_seqK (fun K1 hK1 => ?_)
  refine EI_regionH (A := [⟨true, lp, duRec fn tm D .busy none⟩, ⟨true, D, .deferred (some [])⟩, bk ob #[sc og 0 cs.length oc] 26, bk nb #[nu now] 48, bk pb #[pt xb 0] 44, bk qb #[nu now] 48, br xb #[sc ag 0 n cap] 47, bk ag (sl (entC E) rest) 71, bk og (sl (cs.map Cl.v) orest) 30]) (R := clB cs) F H (fun β => [(11, sc og 0 cs.length oc), (12, pt ag (0 + k * 3)), (13, pt ag (0 + k * 3)), (14, pt ag ((0 + k * 3) + 2)), (15, .slice none 0 0), (16, .slice none 0 0), (17, sc ((β 6).g) 0 1 1), (18, sc ((β 7).g) 0 (cs.length + 1) (β 7).cap)]) [11, 12, 13, 14, 15, 16, 17, 18] [⟨some 6, none, 0, [], fun q_ => ce #[.slice none 0 0] 30, gT, []⟩,
    ⟨some 7, none, 0, [7], fun q_ => ce (sl ((cs.map Cl.v) ++ ([.slice none 0 0])) (gh q_ 0).rest) 30, fun q_ => Own ((cs.map Cl.v) ++ ([.slice none 0 0])) (gh q_ 0).rest ((cs.length + 1)) (gh q_ 0).cap 1, []⟩,
    ⟨none, some 7, og, [], fun q_ => ce (sl (cs.map Cl.v) orest) 30, gT, []⟩,
    ⟨none, none, ob, [], fun q_ => ce #[sc og 0 cs.length oc] 26, gT, [⟨8, [7], fun q_ => ce #[sc ((gh q_ 0).g) 0 (cs.length + 1) (gh q_ 0).cap] 26, gT⟩]⟩] [⟨true, lp, duRec fn tm D .busy none⟩, ⟨true, D, .deferred (some [])⟩, bk nb #[nu now] 48, bk pb #[pt xb 0] 44, bk qb #[nu now] 48, br xb #[sc ag 0 n cap] 47, bk ag (sl (entC E) rest) 71] [8, 2, 0, 1, 3, 4, 5, 6, 7] 2 [] kr kr kr kr (fun β => rfl) ⟨fun h _ => Bool.noConfusion h, ⟨fun h _ => Bool.noConfusion h, ⟨fun _ _ => trivial, ⟨fun _ _ => trivial, trivial⟩⟩⟩⟩ ⟨?_, ?_, ?_, ?_, ?_, ?_, ?_, ?_, ?_, trivial⟩ ?_
  · exact E_v 28 (fun β => sc og 0 cs.length oc) 11 2 [(3, 0)] (fun β w hk hl hq => R_cellH hl (own := true) (g := ob) (all := #[sc og 0 cs.length oc]) (t := 26) (fr := (0, 0)) 0 kr 26 (.tmp 5) rfl 0 kr (sc og 0 cs.length oc) kr _ Try.underlying26 rfl)
  · exact E_k 28 (fun β => pt ag (0 + k * 3)) 12 2
  · exact E_k 28 (fun β => pt ag (0 + k * 3)) 13 2
  · exact E_k 28 (fun β => pt ag ((0 + k * 3) + 2)) 14 2
  · exact E_v 28 (fun β => .slice none 0 0) 15 2 [] (fun β w hk hl hq => R_cellH hl (own := true) (g := ag) (all := (sl (entC E) rest)) (t := 71) (fr := (0, 0)) 6 kr 30 (.tmp 14) rfl ((0 + k * 3) + 2) kr (.slice none 0 0) (ent_b (e := ⟨ix, du, ⟨true, bg, bc, br_, []⟩⟩) he) _ Try.underlying30 rfl)
  · exact E_call 28 kq (fun β => .slice none 0 0) 16 rfl kq 29 (fun β => #[.slice none 0 0]) (fun β w => kr) 2 [] kr rfl (fun β w hk hl hq => clone_nil _)
  · exact E_new 28 kq (fun β => sc ((β 6).g) 0 1 1) 17 rfl kq 2 (fun β r => offAt2_of kr kr) 2 [] 0 _ rfl kr kr rfl (fun β w hk hl hq => ⟨⟨w.heap.size, 0, [], 0⟩, _, (R_buildS (len := 1) rfl Try.underlying26 (#[.slice none 0 0]) kr w), trivial, Nat.le_refl _, heap_alloc_new _ _, Kept.alloc _ _⟩)
  · exact E_app 28 kq (fun β => sc ((β 7).g) 0 (cs.length + 1) (β 7).cap) 18 rfl kq 2 (fun β r => offAt2_of kr kr) 2 [(0, 0)] 1 1 _ _ rfl rfl kr kr rfl rfl (fun β w hk hl hq hm => let ⟨r, w', h1, h2, h3, h4⟩ := run_app (size := 1) (bytes := 24) (t := 26) (e := 30) kr kr hOo hm (x := sc ((β 6).g) 0 1 1) (m := 1) (news := [.slice none 0 0]) (RdS.all (hl.at_ (k := 0) rfl) (Nat.le_refl _)) rfl (by intro u hu; simp only [List.mem_cons, List.not_mem_nil, or_false] at hu; first | (subst hu; rfl) | (rcases hu with rfl | rfl | rfl <;> rfl)) (by simp only [maxLen]; omega) (by omega); ⟨r, w', exec_append (s := (.tmp 11)) (x := (.tmp 17)) rfl kr rfl h1, h2, h3, h4⟩)
  · exact E_store 28 kq rfl 2 [] 3 0 _ _ rfl rfl kr rfl (fun _ => trivial) (fun β w hk hl hq hm => let ⟨w', h1, h2, h3⟩ := P_cell (off := 0) (old := #[sc og 0 cs.length oc]) (v := sc ((β 7).g) 0 (cs.length + 1) (β 7).cap) (Z := ce #[sc og 0 cs.length oc] 26) (R := ce #[sc ((β 7).g) 0 (cs.length + 1) (β 7).cap] 26) rfl rfl (ty := 26) (x := (.tmp 5)) (y := (.tmp 18)) rfl kr kr rfl (Nat.le_of_ble_eq_true rfl) Try.underlying26 rfl kr hm; ⟨w', h1, h2, h3⟩)
  clear F H; intro β a v Q F H
  replace H : Hp X w0 ((bk ((β 6).g) #[.slice none 0 0] 30) :: (bk ((β 7).g) (sl ((cs.map Cl.v) ++ ([.slice none 0 0])) (β 7).rest) 30) :: (bk ob #[sc ((β 7).g) 0 (cs.length + 1) (β 7).cap] 26) :: ⟨true, lp, duRec fn tm D .busy none⟩ :: ⟨true, D, .deferred (some [])⟩ :: (bk nb #[nu now] 48) :: (bk pb #[pt xb 0] 44) :: (bk qb #[nu now] 48) :: (br xb #[sc ag 0 n cap] 47) :: (bk ag (sl (entC E) rest) 71) :: clB cs) v := H
  replace F : Fm 28 [] [(18, sc ((β 7).g) 0 (cs.length + 1) (β 7).cap), (17, sc ((β 6).g) 0 1 1), (16, .slice none 0 0), (15, .slice none 0 0), (14, pt ag ((0 + k * 3) + 2)), (13, pt ag (0 + k * 3)), (12, pt ag (0 + k * 3)), (11, sc og 0 cs.length oc), (6, pt ag (0 + k * 3)), (5, pt ob 0), (3, pt nb 0)] a := F.weak _ (subL_of kr)
  have Qh2_1 : Own ((cs.map Cl.v) ++ ([.slice none 0 0])) (β 7).rest ((cs.length + 1)) (β 7).cap 1 := Q.2.2.1
  clear Q
  generalize β 6 = rq1 at F H Qh2_1
  generalize β 7 = rq2 at F H Qh2_1
  skip
  refine ?_
  have Qrq2' := Qh2_1
  replace F : Fm 28 [] [(6, pt ag (0 + k * 3)), (5, pt ob 0), (3, pt nb 0)] a := F.weak _ (subL_of kr)
  replace H : Hp X w0 (⟨true, lp, duRec fn tm D .busy none⟩ :: ⟨true, D, .deferred (some [])⟩ :: (bk ob #[sc rq2.g 0 (cs.length + 1) rq2.cap] 26) :: (bk nb #[nu now] 48) :: (bk pb #[pt xb 0] 44) :: (bk qb #[nu now] 48) :: (br xb #[sc ag 0 n cap] 47) :: (bk ag (sl (entC E) rest) 71) :: (bk rq2.g (sl ((cs.map Cl.v) ++ ([.slice none 0 0])) rq2.rest) 30) :: clB cs) v := Hp.pickT (A := [bk rq1.g #[.slice none 0 0] 30, bk rq2.g (sl ((cs.map Cl.v) ++ ([.slice none 0 0])) rq2.rest) 30, bk ob #[sc rq2.g 0 (cs.length + 1) rq2.cap] 26, ⟨true, lp, duRec fn tm D .busy none⟩, ⟨true, D, .deferred (some [])⟩, bk nb #[nu now] 48, bk pb #[pt xb 0] 44, bk qb #[nu now] 48, br xb #[sc ag 0 n cap] 47, bk ag (sl (entC E) rest) 71]) (R := clB cs) H [3, 4, 2, 5, 6, 7, 8, 9, 1] kr _ rfl
  refine hK1 _ _ ?_
  clear hK1
  try clear K1
  refine CI_region ?_
  refine T_k F H (pt ag (0 + k * 3)) ?_
  clear F; intro a F
  refine T_val F H kr (nu now) (R_cell (own := true) (g := nb) (all := #[nu now]) (t := 48) (fr := (0, 0)) 3 kr 48 (.tmp 3) rfl 0 kr (nu now) kr _ Try.underlying48 rfl) ?_
  clear F; intro a F
  refine T_val F H kr (nu now) (R_cell (own := true) (g := nb) (all := #[nu now]) (t := 48) (fr := (0, 0)) 3 kr 48 (.tmp 3) rfl 0 kr (nu now) kr _ Try.underlying48 rfl) ?_
  clear F; intro a F
  refine T_val F H kr (nu (18446744073709551615 - now)) (fun w _ => R_bin (x := (.const (.int .u64 18446744073709551615))) (y := (.tmp 21)) rfl (k := .u64) (a := ((18446744073709551615 : Nat) : Int)) (b := ((now : Nat) : Int)) kr kr (i_sub64m (by omega)) w) ?_
  clear F; intro a F
  refine T_val F H kr (nu 5) (fun w _ => R_min (x := (.const (.int .u64 5))) (y := (.tmp 22)) rfl (k := .u64) (a := ((5 : Nat) : Int)) (b := ((18446744073709551615 - now : Nat) : Int)) kr kr (by omega) w) ?_
  clear F; intro a F
  refine T_val F H kr (nu (now + 5)) (fun w _ => R_bin (x := (.tmp 20)) (y := (.tmp 23)) rfl (k := .u64) (a := ((now : Nat) : Int)) (b := ((5 : Nat) : Int)) kr kr (i_addu64' (by omega)) w) ?_
  clear F; intro a F
  refine T_k F H (pt ag (0 + k * 3)) ?_
  clear F; intro a F
  refine T_k F H (pt ag ((0 + k * 3) + 1)) ?_
  clear F; intro a F
  refine T_set F H kr rfl 7 rfl _ (S_cell 7 rfl 48 (.tmp 26) (.tmp 24) rfl (0 + k * 3 + 1) kr (nu (now + 5)) kr rfl (ent_in he) _ Try.underlying48 rfl kr) (⟨true, lp, duRec fn tm D .busy none⟩ :: ⟨true, D, .deferred (some [])⟩ :: (bk ob #[sc rq2.g 0 (cs.length + 1) rq2.cap] 26) :: (bk nb #[nu now] 48) :: (bk pb #[pt xb 0] 44) :: (bk qb #[nu now] 48) :: (br xb #[sc ag 0 n cap] 47) :: (bk ag (sl (entC (E.set k { (⟨ix, du, ⟨true, bg, bc, br_, []⟩⟩ : Ent) with due := now + 5 })) rest) 71) :: (bk rq2.g (sl ((cs.map Cl.v) ++ ([.slice none 0 0])) rq2.rest) 30) :: clB cs) (by rw [ent_put _ he]; rfl) ?_
  clear F H; intro a v F H
  refine wpList_nil ?_
  refine inBn ?_
  refine round_on H (k := 0) rfl (fun v H => ?_)
  refine ⟨rfl, (⟨false, rq2.g, rq2.cap, rq2.rest, cs ++ [(⟨true, 0, 0, [], []⟩ : Cl)]⟩ : Ls), ⟨true, 0, 0, [], []⟩, ⟨(fun e => by cases e), (fun _ => by rw [List.map_append, List.length_append]; exact Qrq2'), (fun c hc => (List.mem_append.1 hc).elim (hcs c) (fun hc => by rw [List.mem_singleton.1 hc]; exact ⟨Nat.zero_le _, fun _ => rfl, fun e => by cases e⟩))⟩, rfl, ⟨Nat.zero_le _, fun _ => rfl, fun e => by cases e⟩, rfl, ?_⟩
  refine Hp.tailC (A := [⟨true, lp, duRec fn tm D .ready none⟩, ⟨true, D, .deferred (some [])⟩, bk ob #[sc rq2.g 0 (cs ++ [(⟨true, 0, 0, [], []⟩ : Cl)]).length rq2.cap] 26, bk nb #[nu now] 48, bk pb #[pt xb 0] 44, bk qb #[nu now] 48, br xb #[sc ag 0 n cap] 47, bk ag (sl (entC (E.set k { (⟨ix, du, ⟨true, bg, bc, br_, []⟩⟩ : Ent) with due := now + 5 })) rest) 71, bk rq2.g (sl ((cs ++ [(⟨true, 0, 0, [], []⟩ : Cl)]).map Cl.v) rq2.rest) 30]) (c := ⟨true, 0, 0, [], []⟩) (cs := cs) ?_
  rw [List.map_append, List.length_append]
  exact H

set_option maxRecDepth 100000 in
set_option maxHeartbeats 4000000 in
theorem due_later_some (X : List Nat) (w0 : World) (m ob nb pb qb xb ag n cap fn D lp now : Nat) (rest : List Value) (hnow : now < 4611686018427387904) (a : Act) (F : Fm 28 [] [(5, .pointer (some ⟨ob, 0, none⟩)), (3, .pointer (some ⟨nb, 0, none⟩))] a) (tm : Array Value) (E : List Ent) (k ix du bg bc : Nat) (br_ : List Value) (l : List Nat) (hbig : l.length ≤ 140737488355328) (hb : Sv.RdK X w0 ⟨some ⟨bg, 0, none⟩, bc, l⟩) (he : E[k]? = some ⟨ix, du, ⟨false, bg, bc, br_, l⟩⟩) (og oc : Nat) (orest : List Value) (cs : List Cl) (hn3 : cs.length < 1000) (hOo : Own (cs.map Cl.v) orest cs.length oc 1) (hcs : ∀ c ∈ cs, c.ok) (w : World) (H : Hp X w0 (⟨true, lp, duRec fn tm D .ready none⟩ :: ⟨true, D, .deferred (some [])⟩ :: ⟨true, ob, .cells #[.slice (some ⟨og, 0, none⟩) cs.length oc] 26 (0, 0)⟩ :: ⟨true, nb, .cells #[.int .u64 ((now : Nat) : Int)] 48 (0, 0)⟩ :: ⟨true, pb, .cells #[.pointer (some ⟨xb, 0, none⟩)] 44 (0, 0)⟩ :: ⟨true, qb, .cells #[.int .u64 ((now : Nat) : Int)] 48 (0, 0)⟩ :: ⟨false, xb, .cells #[.slice (some ⟨ag, 0, none⟩) n cap] 47 (0, 0)⟩ :: ⟨true, ag, .cells (sl (entC E) rest) 71 (0, 0)⟩ :: ⟨true, og, .cells (sl (cs.map Cl.v) orest) 30 (0, 0)⟩ :: clB cs) w) : RoundIn Fence.wide m Try.prog lp fn (a.tmps.setIfInBounds 10 (.pointer (some ⟨ag, 0 + k * 3, none⟩))) duAs duBd w fun e w' => e = .returned (.bool true) ∧ ∃ (o : Ls) (c : Cl), o.ok ∧ o.cs = cs ++ [c] ∧ c.ok ∧ c.l = l ∧ Hp X w0 (⟨true, lp, duRec fn tm D .ready none⟩ :: ⟨true, D, .deferred (some [])⟩ :: ⟨true, ob, .cells #[o.v] 26 (0, 0)⟩ :: ⟨true, nb, .cells #[.int .u64 ((now : Nat) : Int)] 48 (0, 0)⟩ :: ⟨true, pb, .cells #[.pointer (some ⟨xb, 0, none⟩)] 44 (0, 0)⟩ :: ⟨true, qb, .cells #[.int .u64 ((now : Nat) : Int)] 48 (0, 0)⟩ :: ⟨false, xb, .cells #[.slice (some ⟨ag, 0, none⟩) n cap] 47 (0, 0)⟩ :: ⟨true, ag, .cells (sl (entC (E.set k { (⟨ix, du, ⟨false, bg, bc, br_, l⟩⟩ : Ent) with due := now + 5 })) rest) 71 (0, 0)⟩ :: o.blks) w' := by
  refine roundIn_of_wpIn trivial ?_
  replace F := F.round (t := 10) kr (pt ag (0 + k * 3))
  replace H : Hp X w0 (⟨true, lp, duRec fn tm D .ready none⟩ :: ⟨true, D, .deferred (some [])⟩ :: (bk ob #[sc og 0 cs.length oc] 26) :: (bk nb #[nu now] 48) :: (bk pb #[pt xb 0] 44) :: (bk qb #[nu now] 48) :: (br xb #[sc ag 0 n cap] 47) :: (bk ag (sl (entC E) rest) 71) :: (bk og (sl (cs.map Cl.v) orest) 30) :: clB cs) w := H
  refine CI_region ?_
  refine T_k F H (pt ag (0 + k * 3)) ?_
  clear F; intro a F
  refine wpList_nil ?_
  refine round_begin H (k := 0) rfl rfl (fun v H => ?_)
  replace H : Hp X w0 (⟨true, lp, duRec fn tm D .busy none⟩ :: ⟨true, D, .deferred (some [])⟩ :: (bk ob #[sc og 0 cs.length oc] 26) :: (bk nb #[nu now] 48) :: (bk pb #[pt xb 0] 44) :: (bk qb #[nu now] 48) :: (br xb #[sc ag 0 n cap] 47) :: (bk ag (sl (entC E) rest) 71) :: (bk og (sl (cs.map Cl.v) orest) 30) :: clB cs) v := H
  replace F : Fm 28 [] [(6, pt ag (0 + k * 3)), (5, pt ob 0), (3, pt nb 0)] a := F.weak _ (subL_of kr)
  refine wpIn_block ?_
  refine CI_seqK (fun K1 hK1 => ?_)
  refine EI_regionH (A := [⟨true, lp, duRec fn tm D .busy none⟩, ⟨true, D, .deferred (some [])⟩, bk ob #[sc og 0 cs.length oc] 26, bk nb #[nu now] 48, bk pb #[pt xb 0] 44, bk qb #[nu now] 48, br xb #[sc ag 0 n cap] 47, bk ag (sl (entC E) rest) 71, bk og (sl (cs.map Cl.v) orest) 30]) (R := clB cs) F H (fun β => [(11, sc og 0 cs.length oc), (12, pt ag (0 + k * 3)), (13, pt ag (0 + k * 3)), (14, pt ag ((0 + k * 3) + 2)), (15, sc bg 0 l.length bc), (16, sc ((β 5).g) 0 l.length (β 5).cap), (17, sc ((β 6).g) 0 1 1), (18, sc ((β 7).g) 0 (cs.length + 1) (β 7).cap)]) [11, 12, 13, 14, 15, 16, 17, 18] [⟨some 5, none, 0, [5], fun q_ => ce (sl (oct (l)) (gh q_ 0).rest) 5, fun q_ => Own (oct (l)) (gh q_ 0).rest (l.length) (gh q_ 0).cap 1, []⟩,
    ⟨some 6, none, 0, [5], fun q_ => ce #[sc ((gh q_ 0).g) 0 l.length (gh q_ 0).cap] 30, gT, []⟩,
    ⟨some 7, none, 0, [5, 7], fun q_ => ce (sl ((cs.map Cl.v) ++ ([sc ((gh q_ 0).g) 0 l.length (gh q_ 0).cap])) (gh q_ 1).rest) 30, fun q_ => Own ((cs.map Cl.v) ++ ([sc ((gh q_ 0).g) 0 l.length (gh q_ 0).cap])) (gh q_ 1).rest ((cs.length + 1)) (gh q_ 1).cap 1, []⟩,
    ⟨none, some 7, og, [], fun q_ => ce (sl (cs.map Cl.v) orest) 30, gT, []⟩,
    ⟨none, none, ob, [], fun q_ => ce #[sc og 0 cs.length oc] 26, gT, [⟨8, [7], fun q_ => ce #[sc ((gh q_ 0).g) 0 (cs.length + 1) (gh q_ 0).cap] 26, gT⟩]⟩] [⟨true, lp, duRec fn tm D .busy none⟩, ⟨true, D, .deferred (some [])⟩, bk nb #[nu now] 48, bk pb #[pt xb 0] 44, bk qb #[nu now] 48, br xb #[sc ag 0 n cap] 47, bk ag (sl (entC E) rest) 71] [8, 2, 0, 1, 3, 4, 5, 6, 7] 2 [] kr kr kr kr (fun β => rfl) ⟨fun h _ => Bool.noConfusion h, ⟨fun h _ => Bool.noConfusion h, ⟨fun h _ => Bool.noConfusion h, ⟨fun _ _ => trivial, ⟨fun _ _ => trivial, trivial⟩⟩⟩⟩⟩ ⟨?_, ?_, ?_, ?_, ?_, ?_, ?_, ?_, ?_, trivial⟩ ?_
  · exact E_v 28 (fun β => sc og 0 cs.length oc) 11 2 [(4, 0)] (fun β w hk hl hq => R_cellH hl (own := true) (g := ob) (all := #[sc og 0 cs.length oc]) (t := 26) (fr := (0, 0)) 0 kr 26 (.tmp 5) rfl 0 kr (sc og 0 cs.length oc) kr _ Try.underlying26 rfl)
  · exact E_k 28 (fun β => pt ag (0 + k * 3)) 12 2
  · exact E_k 28 (fun β => pt ag (0 + k * 3)) 13 2
  · exact E_k 28 (fun β => pt ag ((0 + k * 3) + 2)) 14 2
  · exact E_v 28 (fun β => sc bg 0 l.length bc) 15 2 [] (fun β w hk hl hq => R_cellH hl (own := true) (g := ag) (all := (sl (entC E) rest)) (t := 71) (fr := (0, 0)) 6 kr 30 (.tmp 14) rfl ((0 + k * 3) + 2) kr (sc bg 0 l.length bc) (ent_b (e := ⟨ix, du, ⟨false, bg, bc, br_, l⟩⟩) he) _ Try.underlying30 rfl)
  · exact E_callS 28 kq (fun β => sc ((β 5).g) 0 l.length (β 5).cap) 16 rfl kq 2 (fun β r => offAt2_of kr kr) 29 (fun β => #[sc bg 0 l.length bc]) (fun β w => kr) 2 [] 0 _ rfl kr kr rfl (fun β w hk hl hq => clone_some ⟨bg, 0, none⟩ l.length bc l rfl hbig _ ((hb _ hk).rds rfl))
  · exact E_new 28 kq (fun β => sc ((β 6).g) 0 1 1) 17 rfl kq 2 (fun β r => offAt2_of kr kr) 2 [] 1 _ rfl kr kr rfl (fun β w hk hl hq => ⟨⟨w.heap.size, 0, [], 0⟩, _, (R_buildS (len := 1) rfl Try.underlying26 (#[sc ((β 5).g) 0 l.length (β 5).cap]) kr w), trivial, Nat.le_refl _, heap_alloc_new _ _, Kept.alloc _ _⟩)
  · exact E_app 28 kq (fun β => sc ((β 7).g) 0 (cs.length + 1) (β 7).cap) 18 rfl kq 2 (fun β r => offAt2_of kr kr) 2 [(1, 0)] 2 2 _ _ rfl rfl kr kr rfl rfl (fun β w hk hl hq hm => let ⟨r, w', h1, h2, h3, h4⟩ := run_app (size := 1) (bytes := 24) (t := 26) (e := 30) kr kr hOo hm (x := sc ((β 6).g) 0 1 1) (m := 1) (news := [sc ((β 5).g) 0 l.length (β 5).cap]) (RdS.all (hl.at_ (k := 0) rfl) (Nat.le_refl _)) rfl (by intro u hu; simp only [List.mem_cons, List.not_mem_nil, or_false] at hu; first | (subst hu; rfl) | (rcases hu with rfl | rfl | rfl <;> rfl)) (by simp only [maxLen]; omega) (by omega); ⟨r, w', exec_append (s := (.tmp 11)) (x := (.tmp 17)) rfl kr rfl h1, h2, h3, h4⟩)
  · exact E_store 28 kq rfl 2 [] 4 0 _ _ rfl rfl kr rfl (fun _ => trivial) (fun β w hk hl hq hm => let ⟨w', h1, h2, h3⟩ := P_cell (off := 0) (old := #[sc og 0 cs.length oc]) (v := sc ((β 7).g) 0 (cs.length + 1) (β 7).cap) (Z := ce #[sc og 0 cs.length oc] 26) (R := ce #[sc ((β 7).g) 0 (cs.length + 1) (β 7).cap] 26) rfl rfl (ty := 26) (x := (.tmp 5)) (y := (.tmp 18)) rfl kr kr rfl (Nat.le_of_ble_eq_true rfl) Try.underlying26 rfl kr hm; ⟨w', h1, h2, h3⟩)
  clear F H; intro β a v Q F H
  replace H : Hp X w0 ((bk ((β 5).g) (sl (oct (l)) (β 5).rest) 5) :: (bk ((β 6).g) #[sc ((β 5).g) 0 l.length (β 5).cap] 30) :: (bk ((β 7).g) (sl ((cs.map Cl.v) ++ ([sc ((β 5).g) 0 l.length (β 5).cap])) (β 7).rest) 30) :: (bk ob #[sc ((β 7).g) 0 (cs.length + 1) (β 7).cap] 26) :: ⟨true, lp, duRec fn tm D .busy none⟩ :: ⟨true, D, .deferred (some [])⟩ :: (bk nb #[nu now] 48) :: (bk pb #[pt xb 0] 44) :: (bk qb #[nu now] 48) :: (br xb #[sc ag 0 n cap] 47) :: (bk ag (sl (entC E) rest) 71) :: clB cs) v := H
  replace F : Fm 28 [] [(18, sc ((β 7).g) 0 (cs.length + 1) (β 7).cap), (17, sc ((β 6).g) 0 1 1), (16, sc ((β 5).g) 0 l.length (β 5).cap), (15, sc bg 0 l.length bc), (14, pt ag ((0 + k * 3) + 2)), (13, pt ag (0 + k * 3)), (12, pt ag (0 + k * 3)), (11, sc og 0 cs.length oc), (6, pt ag (0 + k * 3)), (5, pt ob 0), (3, pt nb 0)] a := F.weak _ (subL_of kr)
  have Qh3_0 : Own (oct (l)) (β 5).rest (l.length) (β 5).cap 1 := Q.1
  have Qh3_2 : Own ((cs.map Cl.v) ++ ([sc ((β 5).g) 0 l.length (β 5).cap])) (β 7).rest ((cs.length + 1)) (β 7).cap 1 := Q.2.2.2.2.1
  clear Q
  generalize β 5 = rq1 at F H Qh3_0 Qh3_2
  generalize β 6 = rq2 at F H Qh3_0 Qh3_2
  generalize β 7 = rq3 at F H Qh3_0 Qh3_2
  skip
  refine ?_
  have Qrq3' := Qh3_2
  have Qrq1' := Qh3_0
  replace F : Fm 28 [] [(6, pt ag (0 + k * 3)), (5, pt ob 0), (3, pt nb 0)] a := F.weak _ (subL_of kr)
  replace H : Hp X w0 (⟨true, lp, duRec fn tm D .busy none⟩ :: ⟨true, D, .deferred (some [])⟩ :: (bk ob #[sc rq3.g 0 (cs.length + 1) rq3.cap] 26) :: (bk nb #[nu now] 48) :: (bk pb #[pt xb 0] 44) :: (bk qb #[nu now] 48) :: (br xb #[sc ag 0 n cap] 47) :: (bk ag (sl (entC E) rest) 71) :: (bk rq3.g (sl ((cs.map Cl.v) ++ ([sc rq1.g 0 l.length rq1.cap])) rq3.rest) 30) :: (bk rq1.g (sl (oct (l)) rq1.rest) 5) :: clB cs) v := Hp.pickT (A := [bk rq1.g (sl (oct (l)) rq1.rest) 5, bk rq2.g #[sc rq1.g 0 l.length rq1.cap] 30, bk rq3.g (sl ((cs.map Cl.v) ++ ([sc rq1.g 0 l.length rq1.cap])) rq3.rest) 30, bk ob #[sc rq3.g 0 (cs.length + 1) rq3.cap] 26, ⟨true, lp, duRec fn tm D .busy none⟩, ⟨true, D, .deferred (some [])⟩, bk nb #[nu now] 48, bk pb #[pt xb 0] 44, bk qb #[nu now] 48, br xb #[sc ag 0 n cap] 47, bk ag (sl (entC E) rest) 71]) (R := clB cs) H [4, 5, 3, 6, 7, 8, 9, 10, 2, 0] kr _ rfl
  refine hK1 _ _ ?_
  clear hK1
  try clear K1
  refine CI_region ?_
  refine T_k F H (pt ag (0 + k * 3)) ?_
  clear F; intro a F
  refine T_val F H kr (nu now) (R_cell (own := true) (g := nb) (all := #[nu now]) (t := 48) (fr := (0, 0)) 3 kr 48 (.tmp 3) rfl 0 kr (nu now) kr _ Try.underlying48 rfl) ?_
  clear F; intro a F
  refine T_val F H kr (nu now) (R_cell (own := true) (g := nb) (all := #[nu now]) (t := 48) (fr := (0, 0)) 3 kr 48 (.tmp 3) rfl 0 kr (nu now) kr _ Try.underlying48 rfl) ?_
  clear F; intro a F
  refine T_val F H kr (nu (18446744073709551615 - now)) (fun w _ => R_bin (x := (.const (.int .u64 18446744073709551615))) (y := (.tmp 21)) rfl (k := .u64) (a := ((18446744073709551615 : Nat) : Int)) (b := ((now : Nat) : Int)) kr kr (i_sub64m (by omega)) w) ?_
  clear F; intro a F
  refine T_val F H kr (nu 5) (fun w _ => R_min (x := (.const (.int .u64 5))) (y := (.tmp 22)) rfl (k := .u64) (a := ((5 : Nat) : Int)) (b := ((18446744073709551615 - now : Nat) : Int)) kr kr (by omega) w) ?_
  clear F; intro a F
  refine T_val F H kr (nu (now + 5)) (fun w _ => R_bin (x := (.tmp 20)) (y := (.tmp 23)) rfl (k := .u64) (a := ((now : Nat) : Int)) (b := ((5 : Nat) : Int)) kr kr (i_addu64' (by omega)) w) ?_
  clear F; intro a F
  refine T_k F H (pt ag (0 + k * 3)) ?_
  clear F; intro a F
  refine T_k F H (pt ag ((0 + k * 3) + 1)) ?_
  clear F; intro a F
  refine T_set F H kr rfl 7 rfl _ (S_cell 7 rfl 48 (.tmp 26) (.tmp 24) rfl (0 + k * 3 + 1) kr (nu (now + 5)) kr rfl (ent_in he) _ Try.underlying48 rfl kr) (⟨true, lp, duRec fn tm D .busy none⟩ :: ⟨true, D, .deferred (some [])⟩ :: (bk ob #[sc rq3.g 0 (cs.length + 1) rq3.cap] 26) :: (bk nb #[nu now] 48) :: (bk pb #[pt xb 0] 44) :: (bk qb #[nu now] 48) :: (br xb #[sc ag 0 n cap] 47) :: (bk ag (sl (entC (E.set k { (⟨ix, du, ⟨false, bg, bc, br_, l⟩⟩ : Ent) with due := now + 5 })) rest) 71) :: (bk rq3.g (sl ((cs.map Cl.v) ++ ([sc rq1.g 0 l.length rq1.cap])) rq3.rest) 30) :: (bk rq1.g (sl (oct (l)) rq1.rest) 5) :: clB cs) (by rw [ent_put _ he]; rfl) ?_
  clear F H; intro a v F H
  refine wpList_nil ?_
  refine inBn ?_
  refine round_on H (k := 0) rfl (fun v H => ?_)
  refine ⟨rfl, (⟨false, rq3.g, rq3.cap, rq3.rest, cs ++ [(⟨false, rq1.g, rq1.cap, rq1.rest, l⟩ : Cl)]⟩ : Ls), ⟨false, rq1.g, rq1.cap, rq1.rest, l⟩, ⟨(fun e => by cases e), (fun _ => by rw [List.map_append, List.length_append]; exact Qrq3'), (fun c hc => (List.mem_append.1 hc).elim (hcs c) (fun hc => by rw [List.mem_singleton.1 hc]; exact ⟨hbig, (fun e => by cases e), fun _ => Qrq1'⟩))⟩, rfl, ⟨hbig, (fun e => by cases e), fun _ => Qrq1'⟩, rfl, ?_⟩
  refine Hp.tailC (A := [⟨true, lp, duRec fn tm D .ready none⟩, ⟨true, D, .deferred (some [])⟩, bk ob #[sc rq3.g 0 (cs ++ [(⟨false, rq1.g, rq1.cap, rq1.rest, l⟩ : Cl)]).length rq3.cap] 26, bk nb #[nu now] 48, bk pb #[pt xb 0] 44, bk qb #[nu now] 48, br xb #[sc ag 0 n cap] 47, bk ag (sl (entC (E.set k { (⟨ix, du, ⟨false, bg, bc, br_, l⟩⟩ : Ent) with due := now + 5 })) rest) 71, bk rq3.g (sl ((cs ++ [(⟨false, rq1.g, rq1.cap, rq1.rest, l⟩ : Cl)]).map Cl.v) rq3.rest) 30]) (c := ⟨false, rq1.g, rq1.cap, rq1.rest, l⟩) (cs := cs) ?_
  rw [List.map_append, List.length_append]
  exact H
end Go.Proofs.Ytlnlppmhiobgjaa
