/- Walks: outbox.Due. -/
import Derived.Test.YtlnlppmhiobgjaaGF
set_option linter.unusedVariables false
set_option linter.unusedSimpArgs false
namespace Go.Proofs.Ytlnlppmhiobgjaa
open Go Go.RowKit
theorem Hp.startRW {w : World} {x y : Nat} {p q : Obj} (hx : w.heap[x]? = some p) (hy : w.heap[y]? = some q) (hne : x ≠ y) : Hp [y] w [⟨false, x, p⟩, ⟨true, y, q⟩] w := by
  refine ⟨Kept.refl _ _, fun b hb => ?_, fun b hb ho => ?_, List.pairwise_cons.2 ⟨fun b hb => ?_, List.pairwise_singleton _ _⟩⟩
  · simp only [List.mem_cons, List.not_mem_nil, or_false] at hb
    rcases hb with rfl | rfl
    · exact hx
    · exact hy
  · simp only [List.mem_cons, List.not_mem_nil, or_false] at hb
    rcases hb with rfl | rfl
    · cases ho
    · simp
  · rw [List.mem_singleton.1 hb]; exact hne

set_option maxRecDepth 100000 in
set_option maxHeartbeats 4000000 in
theorem due_iter0 (X : List Nat) (w0 : World) (ob nb pb qb xb fn D lp now : Nat) (tm : Array Value) (w : World) (H : Hp X w0 [⟨true, lp, duRec fn tm D .ready none⟩, ⟨true, D, .deferred (some [])⟩, ⟨true, ob, .cells #[.slice none 0 0] 26 (0, 0)⟩, ⟨true, nb, .cells #[.int .u64 ((now : Nat) : Int)] 48 (0, 0)⟩, ⟨true, pb, .cells #[.pointer (some ⟨xb, 0, none⟩)] 44 (0, 0)⟩, ⟨true, qb, .cells #[.int .u64 ((now : Nat) : Int)] 48 (0, 0)⟩, ⟨false, xb, .cells #[.slice none 0 0] 47 (0, 0)⟩] w) : Calls Try.prog 37 (#[.func (.yield lp) #[] #[]] ++ #[.pointer (some ⟨pb, 0, none⟩), .pointer (some ⟨qb, 0, none⟩)]) w fun en w' => ∃ (u : Value) (_ : Unit), en = .returned u ∧ True ∧ Hp X w0 [⟨true, lp, duRec fn tm D .ready none⟩, ⟨true, D, .deferred (some [])⟩, ⟨true, ob, .cells #[.slice none 0 0] 26 (0, 0)⟩, ⟨true, nb, .cells #[.int .u64 ((now : Nat) : Int)] 48 (0, 0)⟩, ⟨true, pb, .cells #[.pointer (some ⟨xb, 0, none⟩)] 44 (0, 0)⟩, ⟨true, qb, .cells #[.int .u64 ((now : Nat) : Int)] 48 (0, 0)⟩, ⟨false, xb, .cells #[.slice none 0 0] 47 (0, 0)⟩] w' := by
  refine C_enter Try.func37 rfl 35 Try.ntmps37 (Nat.le_of_ble_eq_true rfl) (fun a F => ?_)
  replace F : Fm 35 [] [(0, .func (.yield lp) #[] #[]), (1, pt pb 0), (2, pt qb 0)] a := F.weak _ (subL_of kr)
  refine C_seqK (fun K1 hK1 => ?_)
  refine C_region ?_
  refine T_val F H kr (pt xb 0) (R_cell (own := true) (g := pb) (all := #[pt xb 0]) (t := 44) (fr := (0, 0)) 4 kr 44 (.tmp 1) rfl 0 kr (pt xb 0) kr _ Try.underlying44 rfl) ?_
  clear F; intro a F
  refine T_k F H (pt xb 0) ?_
  clear F; intro a F
  refine T_k F H (pt xb 0) ?_
  clear F; intro a F
  refine T_val F H kr (.slice none 0 0) (R_cell (own := false) (g := xb) (all := #[.slice none 0 0]) (t := 47) (fr := (0, 0)) 6 kr 45 (.tmp 7) rfl 0 kr (.slice none 0 0) kr _ Try.underlying45 rfl) ?_
  clear F; intro a F
  refine T_k F H (ni 0) ?_
  clear F; intro a F
  refine T_k F H (ni 0) ?_
  clear F; intro a F
  refine wpList_nil ?_
  refine hK1 _ _ ?_
  clear hK1
  try clear K1
  replace F : Fm 35 [] [(10, ni 0), (9, ni 0), (0, .func (.yield lp) #[] #[]), (1, pt pb 0), (2, pt qb 0)] a := F.weak _ (subL_of kr)
  refine wp_block ?_
  refine C_loop (fun m a v => Fm 35 [] [(10, ni 0), (9, ni 0), (0, .func (.yield lp) #[] #[]), (1, pt pb 0), (2, pt qb 0)] a ∧ Hp X w0 [⟨true, lp, duRec fn tm D .ready none⟩, ⟨true, D, .deferred (some [])⟩, bk ob #[.slice none 0 0] 26, bk nb #[nu now] 48, bk pb #[pt xb 0] 44, bk qb #[nu now] 48, br xb #[.slice none 0 0] 47] v) 0 ⟨F, H⟩ ?_
  clear F H
  intro m a v ⟨F, H⟩
  refine C_seqK (fun K2 hK2 => ?_)
  refine C_region ?_
  refine T_k F H (.bool false) ?_
  clear F; intro a F
  refine wpList_nil ?_
  refine hK2 _ _ ?_
  clear hK2
  try clear K2
  refine C_seqK (fun K3 hK3 => ?_)
  refine C_if F false rfl rfl ?_
  refine wp_exit ?_
  exact ⟨F.df, _, results_none rfl _ _ _, _, (), rfl, trivial, H⟩

set_option maxRecDepth 100000 in
set_option maxHeartbeats 4000000 in
theorem due_nil (xb now : Nat) (w : World) (hx : w.heap[xb]? = some (.cells #[.slice none 0 0] 47 (0, 0))) : Calls Try.prog 17 #[.pointer (some ⟨xb, 0, none⟩), .int .u64 ((now : Nat) : Int)] w fun e w' => e = .returned (.slice none 0 0) ∧ Kept [] w w' := by
  refine C_enterM Try.func17 rfl 28 Try.ntmps17 (Nat.le_of_ble_eq_true rfl) (fun a F => ?_)
  have H := Hp.start1 [] hx
  replace F : Fm 28 [] [(0, pt xb 0), (1, nu now)] a := F.weak _ (subL_of kr)
  refine C_seqK (fun K1 hK1 => ?_)
  refine C_region ?_
  refine T_new F H kr (fun ad => pt ad 0) (ce #[nu now] 48) (fun w => kr) ?_
  clear F H; intro aq2 a v F H
  refine T_k F H (.slice none 0 0) ?_
  clear F; intro a F
  refine wpList_nil ?_
  refine hK1 _ _ ?_
  clear hK1
  try clear K1
  refine C_seqK (fun K3 hK3 => ?_)
  refine C_region ?_
  refine T_new F H kr (fun ad => pt ad 0) (ce #[.slice none 0 0] 26) (fun w => kr) ?_
  clear F H; intro aq4 a v F H
  refine wpList_nil ?_
  refine hK3 _ _ ?_
  clear hK3
  try clear K3
  refine C_seqK (fun K5 hK5 => ?_)
  refine C_seqK (fun K6 hK6 => ?_)
  refine C_region ?_
  refine T_k F H (pt xb 0) ?_
  clear F; intro a F
  refine T_val F H kr (nu now) (R_cell (own := true) (g := aq2) (all := #[nu now]) (t := 48) (fr := (0, 0)) 1 kr 48 (.tmp 3) rfl 0 kr (nu now) kr _ Try.underlying48 rfl) ?_
  clear F; intro a F
  refine T_callX (α := SlR) F H kr 30 #[pt xb 0, nu now] (fun rX => .func (.func 37) #[] #[pt rX.g 0, pt rX.cap 0]) (fun rX => [bk rX.g #[pt xb 0] 44, bk rX.cap #[nu now] 48, bk aq4 #[.slice none 0 0] 26, bk aq2 #[nu now] 48, br xb #[.slice none 0 0] 47]) (fun rX => True) (fun w => kr) (fun w H => (due_clo xb now w).mono fun _ _ ⟨r, q1, q2⟩ => ⟨r, q1, trivial, H.merge q2 kr⟩) ?_
  clear F H; intro rq7 a v Qrq7 F H
  refine wpList_nil ?_
  replace F : Fm 28 [] [(9, .func (.func 37) #[] #[pt rq7.g 0, pt rq7.cap 0]), (5, pt aq4 0), (3, pt aq2 0)] a := F.weak _ (subL_of kr)
  replace H : Hp [] w [bk aq4 #[.slice none 0 0] 26, bk aq2 #[nu now] 48, bk rq7.g #[pt xb 0] 44, bk rq7.cap #[nu now] 48, br xb #[.slice none 0 0] 47] v := H.pick [2, 3, 0, 1, 4] kr _ rfl
  generalize aq4 = ob at F H
  generalize aq2 = nb at F H
  generalize rq7.g = pb at F H
  generalize rq7.cap = qb at F H
  replace F : Fm 28 [] [(9, .func (.func 37) #[] #[pt pb 0, pt qb 0]), (5, pt ob 0), (3, pt nb 0)] a := F
  replace H : Hp [] w [bk ob #[.slice none 0 0] 26, bk nb #[nu now] 48, bk pb #[pt xb 0] 44, bk qb #[nu now] 48, br xb #[.slice none 0 0] 47] v := H
  refine hK6 _ _ ?_
  clear hK6
  try clear K6
  refine wp_block ?_
  have FM : Fm 28 [] [(5, pt ob 0), (3, pt nb 0)] a := F.weak _ (subL_of kr)
  refine C_rangeN (α := Unit) F H rfl (gf := 37) (lb := #[pt pb 0, pt qb 0]) rfl (fun _ _ => kr) (fun _ => [bk ob #[.slice none 0 0] 26, bk nb #[nu now] 48, bk pb #[pt xb 0] 44, bk qb #[nu now] 48, br xb #[.slice none 0 0] 47]) (fun _ => True) (fun fn D lp v H => due_iter0 [] w ob nb pb qb xb fn D lp now a.tmps v H) (fun o D a v hO F H => ?_)
  refine hK5 _ _ ?_
  clear hK5
  try clear K5
  refine C_seqK (fun K8 hK8 => ?_)
  refine C_region ?_
  refine T_val F H kr (.slice none 0 0) (R_cell (own := true) (g := ob) (all := #[.slice none 0 0]) (t := 26) (fr := (0, 0)) 1 kr 26 (.tmp 5) rfl 0 kr (.slice none 0 0) kr _ Try.underlying26 rfl) ?_
  clear F; intro a F
  refine T_k F H (.slice none 0 0) ?_
  clear F; intro a F
  refine wpList_nil ?_
  refine hK8 _ _ ?_
  clear hK8
  try clear K8
  refine wp_ret ?_
  refine C_retM F H (k := 0) rfl (fun a v F H => ?_)
  replace H : Hp [] w [⟨true, D, .deferred none⟩, bk ob #[.slice none 0 0] 26, bk nb #[nu now] 48, bk pb #[pt xb 0] 44, bk qb #[nu now] 48, br xb #[.slice none 0 0] 47] v := H
  skip
  exact C_ret F H (rs := [.tmp 4]) rfl (vs := [.slice none 0 0]) (.tmp rfl .nil) (.slice none 0 0) rfl ⟨rfl, H.kept⟩

set_option maxRecDepth 100000 in
set_option maxHeartbeats 4000000 in
theorem due_any (xb ag cap now : Nat) (rest : List Value) (hnow : now < 4611686018427387904) (E : List Ent) (hn3 : E.length < 1000) (hok : ∀ e ∈ E, e.c.ok) (w : World) (hrd : ∀ e ∈ E, e.c.sv.RdK [ag] w) (hx : w.heap[xb]? = some (.cells #[.slice (some ⟨ag, 0, none⟩) E.length cap] 47 (0, 0))) (hag : w.heap[ag]? = some (.cells (sl (entC E) rest) 71 (0, 0))) (hne : xb ≠ ag) : Calls Try.prog 17 #[.pointer (some ⟨xb, 0, none⟩), .int .u64 ((now : Nat) : Int)] w fun e w' => ∃ o : Ls, e = .returned o.v ∧ o.ok ∧ o.ls = dueO now E ∧ o.cs.length ≤ E.length ∧ Hp [ag] w (⟨true, ag, .cells (sl (entC (E.map (dueU now))) rest) 71 (0, 0)⟩ :: o.blks) w' := by
  refine C_enterM Try.func17 rfl 28 Try.ntmps17 (Nat.le_of_ble_eq_true rfl) (fun a F => ?_)
  have H : Hp [ag] w [br xb #[sc ag 0 E.length cap] 47, bk ag (sl (entC E) rest) 71] w := Hp.startRW hx hag hne
  replace F : Fm 28 [] [(0, pt xb 0), (1, nu now)] a := F.weak _ (subL_of kr)
  refine C_seqK (fun K1 hK1 => ?_)
  refine C_region ?_
  refine T_new F H kr (fun ad => pt ad 0) (ce #[nu now] 48) (fun w => kr) ?_
  clear F H; intro aq2 a v F H
  refine T_k F H (.slice none 0 0) ?_
  clear F; intro a F
  refine wpList_nil ?_
  refine hK1 _ _ ?_
  clear hK1
  try clear K1
  refine C_seqK (fun K3 hK3 => ?_)
  refine C_region ?_
  refine T_new F H kr (fun ad => pt ad 0) (ce #[.slice none 0 0] 26) (fun w => kr) ?_
  clear F H; intro aq4 a v F H
  refine wpList_nil ?_
  refine hK3 _ _ ?_
  clear hK3
  try clear K3
  refine C_seqK (fun K5 hK5 => ?_)
  refine C_seqK (fun K6 hK6 => ?_)
  refine C_region ?_
  refine T_k F H (pt xb 0) ?_
  clear F; intro a F
  refine T_val F H kr (nu now) (R_cell (own := true) (g := aq2) (all := #[nu now]) (t := 48) (fr := (0, 0)) 1 kr 48 (.tmp 3) rfl 0 kr (nu now) kr _ Try.underlying48 rfl) ?_
  clear F; intro a F
  refine T_callX (α := SlR) F H kr 30 #[pt xb 0, nu now] (fun rX => .func (.func 37) #[] #[pt rX.g 0, pt rX.cap 0]) (fun rX => [bk rX.g #[pt xb 0] 44, bk rX.cap #[nu now] 48, bk aq4 #[.slice none 0 0] 26, bk aq2 #[nu now] 48, br xb #[sc ag 0 E.length cap] 47, bk ag (sl (entC E) rest) 71]) (fun rX => True) (fun w => kr) (fun w H => (due_clo xb now w).mono fun _ _ ⟨r, q1, q2⟩ => ⟨r, q1, trivial, H.merge q2 kr⟩) ?_
  clear F H; intro rq7 a v Qrq7 F H
  refine wpList_nil ?_
  replace F : Fm 28 [] [(9, .func (.func 37) #[] #[pt rq7.g 0, pt rq7.cap 0]), (5, pt aq4 0), (3, pt aq2 0)] a := F.weak _ (subL_of kr)
  replace H : Hp [ag] w [bk aq4 #[.slice none 0 0] 26, bk aq2 #[nu now] 48, bk rq7.g #[pt xb 0] 44, bk rq7.cap #[nu now] 48, br xb #[sc ag 0 E.length cap] 47, bk ag (sl (entC E) rest) 71] v := H.pick [2, 3, 0, 1, 4, 5] kr _ rfl
  generalize aq4 = ob at F H
  generalize aq2 = nb at F H
  generalize rq7.g = pb at F H
  generalize rq7.cap = qb at F H
  replace F : Fm 28 [] [(9, .func (.func 37) #[] #[pt pb 0, pt qb 0]), (5, pt ob 0), (3, pt nb 0)] a := F
  replace H : Hp [ag] w [bk ob #[((⟨true, 0, 0, [], []⟩ : Ls).v)] 26, bk nb #[nu now] 48, bk pb #[pt xb 0] 44, bk qb #[nu now] 48, br xb #[sc ag 0 E.length cap] 47, bk ag (sl (entC E) rest) 71] v := H
  refine hK6 _ _ ?_
  clear hK6
  try clear K6
  refine wp_block ?_
  have FM : Fm 28 [] [(5, pt ob 0), (3, pt nb 0)] a := F.weak _ (subL_of kr)
  refine C_rangeN (α := Ls) F H rfl (gf := 37) (lb := #[pt pb 0, pt qb 0]) rfl (fun _ _ => kr) (fun o => ((bk ob #[(o.v)] 26) :: (bk nb #[nu now] 48) :: (bk pb #[pt xb 0] 44) :: (bk qb #[nu now] 48) :: (br xb #[sc ag 0 E.length cap] 47) :: (bk ag (sl (entC (E.map (dueU now))) rest) 71) :: o.blks)) (fun o => o.ok ∧ o.ls = dueO now E ∧ o.cs.length ≤ E.length) (fun fn D lp v H => due_iter [ag] w ob nb pb qb xb ag E.length cap fn D lp now rest hnow E rfl hn3 hok hrd a FM v H) (fun o D a v hO F H => ?_)
  refine hK5 _ _ ?_
  clear hK5
  try clear K5
  refine C_seqK (fun K8 hK8 => ?_)
  refine C_region ?_
  refine T_val F H kr ((o.v)) (R_cell (own := true) (g := ob) (all := #[(o.v)]) (t := 26) (fr := (0, 0)) 1 kr 26 (.tmp 5) rfl 0 kr ((o.v)) kr _ Try.underlying26 rfl) ?_
  clear F; intro a F
  refine T_k F H ((o.v)) ?_
  clear F; intro a F
  refine wpList_nil ?_
  refine hK8 _ _ ?_
  clear hK8
  try clear K8
  refine wp_ret ?_
  refine C_retM F H (k := 0) rfl (fun a v F H => ?_)
  replace H : Hp [ag] w (⟨true, D, .deferred none⟩ :: (bk ob #[(o.v)] 26) :: (bk nb #[nu now] 48) :: (bk pb #[pt xb 0] 44) :: (bk qb #[nu now] 48) :: (br xb #[sc ag 0 E.length cap] 47) :: (bk ag (sl (entC (E.map (dueU now))) rest) 71) :: o.blks) v := H
  skip
  exact C_ret F H (rs := [.tmp 4]) rfl (vs := [(o.v)]) (.tmp rfl .nil) ((o.v)) rfl ⟨o, rfl, hO.1, hO.2.1, hO.2.2, Hp.pickT (A := [⟨true, D, .deferred none⟩, bk ob #[(o.v)] 26, bk nb #[nu now] 48, bk pb #[pt xb 0] 44, bk qb #[nu now] 48, br xb #[sc ag 0 E.length cap] 47, bk ag (sl (entC (E.map (dueU now))) rest) 71]) (R := o.blks) H [6] kr _ rfl⟩
end Go.Proofs.Ytlnlppmhiobgjaa
