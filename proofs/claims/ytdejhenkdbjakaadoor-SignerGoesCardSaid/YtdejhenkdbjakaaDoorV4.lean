/- Walks: the reference's log, keyed digest. -/
import Derived.Test.YtdejhenkdbjakaaDoorV3
import Derived.Test.YtdejhenkdbjakaaDoorWA
set_option linter.unusedVariables false
set_option linter.unusedSimpArgs false
namespace Go.Proofs.YtdejhenkdbjakaaDoor
open Go Go.RowKit
/-- A log that counted so many, and keeps nothing. -/
def lgr (n : Nat) : Array Value := #[.bool false, .int .i64 (IntKind.i64.wrap (n : Int)), .slice none 0 0]

set_option maxRecDepth 100000 in
set_option maxHeartbeats 4000000 in
theorem lsum_any (gl n : Nat) (p : SlP) (hn : p.l.length = p.n) (hl : p.n < 1099511627776) (hb : ∀ x ∈ p.l, x < 256) (w : World) (hrd : RdS w p.v p.n (oct p.l)) (hx : ∀ ad n c, p.v = .slice (some ad) n c → ad.block ∉ [gl]) (hm : w.heap[gl]? = some (.cells (lgr n) 32 (0, 0))) : Calls Tryd.prog 51 #[.pointer (some ⟨gl, 0, none⟩), p.v] w fun e w' => ∃ r : SlR, e = .returned (.agg (arrF .u8 32 (shaK p.l))) ∧ True ∧ Kept [gl] w w' ∧ w'.heap[gl]? = some (.cells (lgr r.n) 32 (0, 0)) := by
  obtain ⟨fk, hfk⟩ : ∃ fk, fk = shaK p.l := ⟨_, rfl⟩
  rw [← hfk]
  refine C_enter Tryd.func51 rfl 32 Tryd.ntmps51 (Nat.le_of_ble_eq_true rfl) (fun a F => ?_)
  have H := Hp.startX hm
  replace F : Fm 32 [] [(0, pt gl 0), (1, .slice p.ad p.n p.c)] a := F.weak _ (subL_of kr)
  refine C_seqK (fun K1 hK1 => ?_)
  refine C_region ?_
  refine T_new F H kr (fun ad => pt ad 0) (ce z8 23) (fun w => kr) ?_
  clear F H; intro aq2 a v F H
  refine wpList_nil ?_
  refine hK1 _ _ ?_
  clear hK1
  try clear K1
  refine C_seqK (fun K3 hK3 => ?_)
  refine C_region ?_
  refine T_k F H (pt gl 0) ?_
  clear F; intro a F
  refine T_k F H (pt gl 0) ?_
  clear F; intro a F
  refine T_k F H (pt gl 1) ?_
  clear F; intro a F
  refine T_val F H kr (.int .i64 (IntKind.i64.wrap ((n : Nat) : Int))) (R_cell (own := true) (g := gl) (all := (lgr n)) (t := 32) (fr := (0, 0)) 1 kr 3 (.tmp 7) rfl 1 kr (.int .i64 (IntKind.i64.wrap ((n : Nat) : Int))) kr _ Tryd.underlying3 rfl) ?_
  clear F; intro a F
  refine T_val F H kr (.int .i64 (IntKind.i64.wrap ((n + 1 : Nat) : Int))) (fun w _ => R_bin (x := (.tmp 8)) (y := (.const (.int .i64 1))) rfl (k := .i64) (a := IntKind.i64.wrap ((n : Nat) : Int)) (b := 1) kr kr (by rw [← mtr_next]; rfl) w) ?_
  clear F; intro a F
  refine T_k F H (pt gl 0) ?_
  clear F; intro a F
  refine T_k F H (pt gl 1) ?_
  clear F; intro a F
  refine T_set F H kr rfl 1 rfl _ (S_cell 1 rfl 3 (.tmp 11) (.tmp 9) rfl 1 kr (.int .i64 (IntKind.i64.wrap ((n + 1 : Nat) : Int))) kr rfl (Nat.le_of_ble_eq_true rfl) _ Tryd.underlying3 rfl kr) [bk aq2 z8 23, bk gl (lgr (n + 1)) 32] (by rfl) ?_
  clear F H; intro a v F H
  refine wpList_nil ?_
  refine hK3 _ _ ?_
  clear hK3
  try clear K3
  refine C_seqK (fun K4 hK4 => ?_)
  refine C_seqK (fun K5 hK5 => ?_)
  refine C_region ?_
  refine T_k F H (pt gl 0) ?_
  clear F; intro a F
  refine T_k F H (pt gl 0) ?_
  clear F; intro a F
  refine T_k F H (pt gl 0) ?_
  clear F; intro a F
  refine T_val F H kr (.bool false) (R_cell (own := true) (g := gl) (all := (lgr (n + 1))) (t := 32) (fr := (0, 0)) 1 kr 4 (.tmp 14) rfl 0 kr (.bool false) kr _ Tryd.underlying4 rfl) ?_
  clear F; intro a F
  refine wpList_nil ?_
  refine hK5 _ _ ?_
  clear hK5
  try clear K5
  refine C_if F false rfl rfl ?_
  refine wp_skip ?_
  refine hK4 _ _ ?_
  clear hK4
  try clear K4
  refine C_seqK (fun K6 hK6 => ?_)
  refine C_region ?_
  refine T_k F H (.slice p.ad p.n p.c) ?_
  clear F; intro a F
  refine T_call F H kr 82 #[.slice p.ad p.n p.c] (kyV fk) (fun w => kr) ((digestR_any p hn hl hb _ (hrd.kept H.kept hx)).mono (fun _ _ ⟨q1, q2⟩ => ⟨by rw [q1, hfk], q2⟩)) ?_
  clear F H; intro a v F H
  refine T_set F H kr rfl 0 rfl (arrF .u8 32 fk) (S_row 0 rfl 23 (.tmp 4) (.tmp 31) rfl kr (arrF .u8 32 fk) kr (by rw [arrF_size]; kernel_rfl) (by rw [arrF_size]; kernel_rfl) (arrF_one _ _ _)) [bk aq2 (arrF .u8 32 fk) 23, bk gl (lgr (n + 1)) 32] rfl ?_
  clear F H; intro a v F H
  refine wpList_nil ?_
  refine hK6 _ _ ?_
  clear hK6
  try clear K6
  refine wp_ret ?_
  exact C_ret F H (rs := [.cell 4 23]) rfl (vs := [kyV fk]) (.row 0 rfl rfl _ Tryd.underlying23 rfl kr .nil) (kyV fk) rfl ⟨⟨0, 0, [], n + 1⟩, rfl, trivial, H.kept, H.at_ (k := 1) rfl⟩

theorem lsum_blk (gl n g m cap : Nat) (l : List Nat) (rest : List Value) (hn : l.length = m) (hc : m ≤ cap) (hl : m < 1099511627776) (hb : ∀ x ∈ l, x < 256) (w : World) (hblk : w.heap[g]? = some (.cells (sl (oct l) rest) 5 (0, 0))) (hm : w.heap[gl]? = some (.cells (lgr n) 32 (0, 0))) : Calls Tryd.prog 51 #[.pointer (some ⟨gl, 0, none⟩), .slice (some ⟨g, 0, none⟩) m cap] w fun e w' => ∃ r : SlR, e = .returned (.agg (arrF .u8 32 (shaK l))) ∧ True ∧ Kept [gl] w w' ∧ w'.heap[gl]? = some (.cells (lgr r.n) 32 (0, 0)) :=
  lsum_any gl n ⟨some ⟨g, 0, none⟩, m, cap, l⟩ hn hl hb w (RdS.all hblk hc) (fun ad n c e h => by
    cases e
    exact ne_of_ty hblk hm rfl (List.mem_singleton.1 h)) hm

def xorQ (l : List Nat) (x k : Nat) : List Nat := (List.range k).map fun i => l.getD i 0 ^^^ x
theorem xorQ_next (l : List Nat) (x k : Nat) : xorQ l x k ++ [l.getD k 0 ^^^ x] = xorQ l x (k + 1) := by
  unfold xorQ; rw [List.range_succ, List.map_append]; rfl
theorem zero_next (l : List Nat) (k : Nat) : (l ++ List.replicate k 0) ++ [0] = l ++ List.replicate (k + 1) 0 := by
  rw [List.append_assoc, ← List.replicate_succ']
theorem zero_at (l : List Nat) (z k : Nat) (h : k < l.length + z) : (l ++ List.replicate z 0)[k]? = some (l.getD k 0) := by
  rw [List.getD_eq_getElem?_getD]
  rcases Nat.lt_or_ge k l.length with h1 | h1
  · rw [List.getElem?_append_left h1, List.getElem?_eq_getElem h1]; rfl
  · rw [List.getElem?_append_right h1, List.getElem?_replicate, if_pos (by omega), List.getElem?_eq_none h1]; rfl
theorem padQ_small (l : List Nat) (x : Nat) (h : l.length ≤ 64) : xorQ l x 64 = padK l x := by
  unfold xorQ padK
  rw [if_neg (by omega)]

set_option maxRecDepth 100000 in
set_option maxHeartbeats 4000000 in
theorem lmac_any (gl n : Nat) (p : SlP) (hpb : ∀ x ∈ p.l, x < 256) (hpn : p.l.length = p.n) (hps : p.n ≤ 64) (q : SlP) (hqb : ∀ x ∈ q.l, x < 256) (hqn : q.l.length = q.n) (hqs : q.n < 549755813888) (w : World) (hpr : RdS w p.v p.n (oct p.l)) (hpx : ∀ ad n c, p.v = .slice (some ad) n c → ad.block ∉ [gl]) (hqr : RdS w q.v q.n (oct q.l)) (hqx : ∀ ad n c, q.v = .slice (some ad) n c → ad.block ∉ [gl]) (hm : w.heap[gl]? = some (.cells (lgr n) 32 (0, 0))) : Calls Tryd.prog 72 #[.pointer (some ⟨gl, 0, none⟩), p.v, q.v] w fun e w' => ∃ r : SlR, e = .returned (.agg (arrF .u8 32 (macK p.l q.l))) ∧ True ∧ Kept [gl] w w' ∧ w'.heap[gl]? = some (.cells (lgr r.n) 32 (0, 0)) := by
  obtain ⟨f1, hf1⟩ : ∃ f1, f1 = shaK (padK p.l 54 ++ q.l) := ⟨_, rfl⟩
  have hf1l : ∀ i, i < 32 → f1 i < 256 := fun i _ => by rw [hf1]; exact shaK_lt _ _
  obtain ⟨f2, hf2⟩ : ∃ f2, f2 = shaK (padK p.l 92 ++ kl f1) := ⟨_, rfl⟩
  rw [show macK p.l q.l = f2 from by rw [hf2, hf1]; rfl]
  refine C_enter Tryd.func72 rfl 59 Tryd.ntmps72 (Nat.le_of_ble_eq_true rfl) (fun a F => ?_)
  have H := Hp.startX hm
  replace F : Fm 59 [] [(0, pt gl 0), (1, .slice p.ad p.n p.c), (2, .slice q.ad q.n q.c)] a := F.weak _ (subL_of kr)
  refine C_seqK (fun K1 hK1 => ?_)
  refine C_region ?_
  refine T_new F H kr (fun ad => pt ad 0) (ce z8 23) (fun w => kr) ?_
  clear F H; intro aq2 a v F H
  refine wpList_nil ?_
  refine hK1 _ _ ?_
  clear hK1
  try clear K1
  refine C_seqK (fun K3 hK3 => ?_)
  refine C_region ?_
  refine T_new F H kr (fun ad => sc ad 0 0 0) (ce (sl (ints .u8 []) []) 5) (fun w => R_build0 rfl Tryd.underlying54 kr w) ?_
  clear F H; intro aq4 a v F H
  refine T_k F H (.slice p.ad p.n p.c) ?_
  clear F; intro a F
  refine T_app F H kr 54 5 (.tmp 12) (.tmp 13) rfl 1 1 kr kr 0 rfl (own_all (m := 0) (by rfl) (by simp only [maxLen]; omega)) kr (p.n) (oct (p.l)) (fun w hk hl => (hpr.kept hk hpx)) (by rw [ints_len, Nat.mul_one]; exact hpn) (ints_one _ _) (by simp only [maxLen]; omega) (by omega) _ rfl ?_
  clear F H; intro rq5 a v Qrq5 F H
  refine T_k F H (sc rq5.g 0 (0 + p.n) rq5.cap) ?_
  clear F; intro a F
  refine wpList_nil ?_
  have hc9 : (ints .u8 []) ++ (oct (p.l)) = oct (p.l ++ List.replicate 0 0) := by simp [ints]
  rw [hc9] at H Qrq5
  have hln : (0 + p.n) = p.n + 0 := by omega
  rw [hln] at F Qrq5
  replace F : Fm 59 [] [(7, sc rq5.g 0 (p.n + 0) rq5.cap), (0, pt gl 0), (1, .slice p.ad p.n p.c), (2, .slice q.ad q.n q.c), (6, pt aq2 0)] a := F.weak _ (subL_of kr)
  replace H : Hp [gl] w [bk rq5.g (sl (oct (p.l ++ List.replicate 0 0)) rq5.rest) 5, bk gl (lgr n) 32, bk aq2 z8 23] v := H.pick [0, 2, 1] kr _ rfl
  refine hK3 _ _ ?_
  clear hK3
  try clear K3
  refine C_seqK (fun K6 hK6 => ?_)
  refine C_seqK (fun K7 hK7 => ?_)
  refine C_region ?_
  refine T_k F H (.slice p.ad p.n p.c) ?_
  clear F; intro a F
  refine T_k F H (ni p.n) ?_
  clear F; intro a F
  refine T_val F H kr (.bool false) (fun w _ => R_bin (x := (.tmp 16)) (y := (.const (.int .i64 64))) rfl (k := .i64) (a := ((p.n : Nat) : Int)) (b := ((64 : Nat) : Int)) kr kr (i_ngtn (by omega)) w) ?_
  clear F; intro a F
  refine wpList_nil ?_
  refine hK7 _ _ ?_
  clear hK7
  try clear K7
  refine C_if F false rfl rfl ?_
  refine wp_skip ?_
  refine hK6 _ _ ?_
  clear hK6
  try clear K6
  refine C_seqK (fun K8 hK8 => ?_)
  replace F : Fm 59 [] [(7, sc rq5.g 0 (p.n + 0) rq5.cap), (0, pt gl 0), (1, .slice p.ad p.n p.c), (2, .slice q.ad q.n q.c), (6, pt aq2 0)] a := F.weak _ (subL_of kr)
  refine wp_block ?_
  refine C_loop (fun m a v => ∃ (k : Nat) (r : SlR), k + m = (64 - p.n) ∧ Own (oct (p.l ++ List.replicate k 0)) r.rest (p.n + k) r.cap 1 ∧ Fm 59 [] [(7, sc r.g 0 (p.n + k) r.cap), (0, pt gl 0), (1, .slice p.ad p.n p.c), (2, .slice q.ad q.n q.c), (6, pt aq2 0)] a ∧ Hp [gl] w [bk r.g (sl (oct (p.l ++ List.replicate k 0)) r.rest) 5, bk gl (lgr n) 32, bk aq2 z8 23] v) ((64 - p.n)) ⟨0, rq5, Nat.zero_add _, Qrq5, F, H⟩ ?_
  clear F H
  intro m a v ⟨k, r, hk, hO, F, H⟩
  rcases m with _ | m
  rotate_left
  · skip
    refine C_seqK (fun K9 hK9 => ?_)
    refine C_seqK (fun K10 hK10 => ?_)
    refine C_region ?_
    refine T_k F H (sc r.g 0 (p.n + k) r.cap) ?_
    clear F; intro a F
    refine T_k F H (ni (p.n + k)) ?_
    clear F; intro a F
    refine T_val F H kr (.bool true) (fun w _ => R_bin (x := (.tmp 23)) (y := (.const (.int .i64 64))) rfl (k := .i64) (a := (((p.n + k) : Nat) : Int)) (b := ((64 : Nat) : Int)) kr kr (i_lt (by omega)) w) ?_
    clear F; intro a F
    refine wpList_nil ?_
    refine hK10 _ _ ?_
    clear hK10
    try clear K10
    refine C_if F true rfl rfl ?_
    refine wp_skip ?_
    refine hK9 _ _ ?_
    clear hK9
    try clear K9
    refine wp_block ?_
    refine C_region ?_
    refine T_k F H (sc r.g 0 (p.n + k) r.cap) ?_
    clear F; intro a F
    refine T_new F H kr (fun ad => sc ad 0 1 1) (ce (sl (ints .u8 [0]) []) 5) (fun w => R_buildS (len := 1) rfl Tryd.underlying54 ((sl (ints .u8 [0]) [])) kr w) ?_
    clear F H; intro aq11 a v F H
    refine T_app F H kr 54 5 (.tmp 25) (.tmp 26) rfl 1 1 kr kr 1 rfl hO kr (1) (ints .u8 [0]) (fun w hk hl => (RdS.all (hl.at_ (k := 0) rfl) (Nat.le_refl _))) (by rw [ints_len]; first | rfl | simp [highL_len, hb_len]) (ints_one _ _) (by simp only [maxLen]; omega) (by omega) _ rfl ?_
    clear F H; intro rq12 a v Qrq12 F H
    refine T_k F H (sc rq12.g 0 ((p.n + k) + 1) rq12.cap) ?_
    clear F; intro a F
    refine wpList_nil ?_
    have hc9 : (oct (p.l ++ List.replicate k 0)) ++ (ints .u8 [0]) = oct (p.l ++ List.replicate (k + 1) 0) := (ints_app .u8 _ _).symm.trans (congrArg _ (zero_next p.l k))
    rw [hc9] at H Qrq12
    replace Qrq12 : Own (oct (p.l ++ List.replicate (k + 1) 0)) rq12.rest (p.n + (k + 1)) rq12.cap 1 := Qrq12
    replace H : Hp [gl] w [bk rq12.g (sl (oct (p.l ++ List.replicate (k + 1) 0)) rq12.rest) 5, bk gl (lgr n) 32, bk aq2 z8 23] v := H.pick [0, 2, 3] kr _ rfl
    replace F : Fm 59 [] [(7, sc rq12.g 0 (p.n + (k + 1)) rq12.cap), (0, pt gl 0), (1, .slice p.ad p.n p.c), (2, .slice q.ad q.n q.c), (6, pt aq2 0)] a := F.weak _ (subL_of kr)
    replace H : Hp [gl] w [bk rq12.g (sl (oct (p.l ++ List.replicate (k + 1) 0)) rq12.rest) 5, bk gl (lgr n) 32, bk aq2 z8 23] v := H
    exact ⟨m, Nat.lt_succ_self m, k + 1, rq12, by omega, Qrq12, F, H⟩
  have hkt : k = 64 - p.n := by omega
  rw [hkt] at F H hO
  clear hk
  refine C_seqK (fun K13 hK13 => ?_)
  refine C_seqK (fun K14 hK14 => ?_)
  refine C_region ?_
  refine T_k F H (sc r.g 0 (p.n + ((64 - p.n))) r.cap) ?_
  clear F; intro a F
  refine T_k F H (ni (p.n + ((64 - p.n)))) ?_
  clear F; intro a F
  refine T_val F H kr (.bool false) (fun w _ => R_bin (x := (.tmp 23)) (y := (.const (.int .i64 64))) rfl (k := .i64) (a := (((p.n + ((64 - p.n))) : Nat) : Int)) (b := ((64 : Nat) : Int)) kr kr (i_nlt (by omega)) w) ?_
  clear F; intro a F
  refine wpList_nil ?_
  refine hK14 _ _ ?_
  clear hK14
  try clear K14
  refine C_if F false rfl rfl ?_
  refine wp_exit ?_
  refine hK8 _ _ ?_
  clear hK8
  try clear K8
  refine C_seqK (fun K15 hK15 => ?_)
  have hln : p.n + (64 - p.n) = 64 := by omega
  rw [hln] at F hO
  generalize r = rk at F H hO
  refine C_region ?_
  refine T_k F H (.slice none 0 0) ?_
  clear F; intro a F
  refine wpList_nil ?_
  refine hK15 _ _ ?_
  clear hK15
  try clear K15
  refine C_seqK (fun K16 hK16 => ?_)
  refine C_region ?_
  refine T_k F H (.slice none 0 0) ?_
  clear F; intro a F
  refine wpList_nil ?_
  refine hK16 _ _ ?_
  clear hK16
  try clear K16
  refine C_seqK (fun K17 hK17 => ?_)
  refine C_seqK (fun K18 hK18 => ?_)
  refine C_region ?_
  refine T_k F H (ni 0) ?_
  clear F; intro a F
  refine wpList_nil ?_
  replace F : Fm 59 [] [(10, ni 0), (8, .slice none 0 0), (9, .slice none 0 0), (7, sc rk.g 0 64 rk.cap), (0, pt gl 0), (2, .slice q.ad q.n q.c), (6, pt aq2 0)] a := F.weak _ (subL_of kr)
  refine hK18 _ _ ?_
  clear hK18
  try clear K18
  refine wp_block ?_
  refine C_loop (fun m a v => (m = 64 ∧ Fm 59 [] [(10, ni 0), (8, .slice none 0 0), (9, .slice none 0 0), (7, sc rk.g 0 64 rk.cap), (0, pt gl 0), (2, .slice q.ad q.n q.c), (6, pt aq2 0)] a ∧ Hp [gl] w [bk rk.g (sl (oct (p.l ++ List.replicate (64 - p.n) 0)) rk.rest) 5, bk gl (lgr n) 32, bk aq2 z8 23] v) ∨ (∃ (k : Nat) (r s : SlR), k + m = 64 ∧ 1 ≤ k ∧ Own (oct (xorQ p.l 54 k)) r.rest k r.cap 1 ∧ Own (oct (xorQ p.l 92 k)) s.rest k s.cap 1 ∧ Fm 59 [] [(10, ni k), (8, sc r.g 0 k r.cap), (9, sc s.g 0 k s.cap), (7, sc rk.g 0 64 rk.cap), (0, pt gl 0), (2, .slice q.ad q.n q.c), (6, pt aq2 0)] a ∧ Hp [gl] w [bk r.g (sl (oct (xorQ p.l 54 k)) r.rest) 5, bk s.g (sl (oct (xorQ p.l 92 k)) s.rest) 5, bk rk.g (sl (oct (p.l ++ List.replicate (64 - p.n) 0)) rk.rest) 5, bk gl (lgr n) 32, bk aq2 z8 23] v)) (64) (.inl ⟨rfl, F, H⟩) ?_
  clear F H
  intro m a v hS
  rcases hS with ⟨hk0, F, H⟩ | ⟨k, r, s, hk, hk1, hOr, hOs, F, H⟩
  · obtain ⟨m, rfl⟩ : ∃ q, m = q + 1 := ⟨m - 1, by omega⟩
    have hgl := getD_lt hpb 0
    refine C_seqK (fun K19 hK19 => ?_)
    refine C_seqK (fun K20 hK20 => ?_)
    refine C_region ?_
    refine T_k F H (ni 0) ?_
    clear F; intro a F
    refine T_val F H kr (.bool true) (fun w _ => R_bin (x := (.tmp 28)) (y := (.const (.int .i64 64))) rfl (k := .i64) (a := ((0 : Nat) : Int)) (b := ((64 : Nat) : Int)) kr kr (i_lt (by omega)) w) ?_
    clear F; intro a F
    refine wpList_nil ?_
    refine hK20 _ _ ?_
    clear hK20
    try clear K20
    refine C_if F true rfl rfl ?_
    refine wp_skip ?_
    refine hK19 _ _ ?_
    clear hK19
    try clear K19
    refine C_seqK (fun K21 hK21 => ?_)
    refine wp_block ?_
    refine C_seqK (fun K22 hK22 => ?_)
    refine C_region ?_
    refine T_k F H (.slice none 0 0) ?_
    clear F; intro a F
    refine T_k F H (sc rk.g 0 64 rk.cap) ?_
    clear F; intro a F
    refine T_k F H (ni 0) ?_
    clear F; intro a F
    refine T_val F H kr (pt rk.g (0 + (0) * 1)) (fun w _ => R_indexS (k := .i64) (g := rk.g) (off := 0) (len := 64) (cap := rk.cap) (x := (.tmp 33)) (y := (.tmp 34)) rfl Tryd.underlying54 kr (0) kr (by omega) (sz := 1) kr w) ?_
    clear F; intro a F
    refine T_val F H kr (nb (p.l.getD 0 0)) (R_cell (own := true) (g := rk.g) (all := (sl (oct (p.l ++ List.replicate (64 - p.n) 0)) rk.rest)) (t := 5) (fr := (0, 0)) 0 kr 5 (.tmp 35) rfl (0 + (0) * 1) kr (nb (p.l.getD 0 0)) ((congrArg (fun q => ((sl (oct (p.l ++ List.replicate (64 - p.n) 0)) rk.rest))[q]?) (show (0 + (0) * 1) = 0 by omega)).trans (sl_get (ints_get (zero_at p.l _ _ (by omega))))) _ Tryd.underlying5 rfl) ?_
    clear F; intro a F
    refine T_val F H kr (nb ((p.l.getD 0 0) ^^^ 54)) (fun w _ => R_bin (x := (.tmp 36)) (y := (.const (.int .u8 54))) rfl (k := .u8) (a := (((p.l.getD 0 0) : Nat) : Int)) (b := ((54 : Nat) : Int)) kr kr (i_xor8 (a := (p.l.getD 0 0)) (b := 54) (by omega) (by omega)) w) ?_
    clear F; intro a F
    refine T_new F H kr (fun ad => sc ad 0 1 1) (ce (sl (ints .u8 [((p.l.getD 0 0) ^^^ 54)]) []) 5) (fun w => R_buildS (len := 1) rfl Tryd.underlying54 ((sl (ints .u8 [((p.l.getD 0 0) ^^^ 54)]) [])) kr w) ?_
    clear F H; intro aq23 a v F H
    refine T_appN F H kr 54 5 (.tmp 32) (.tmp 38) rfl 1 1 kr kr kr (1) (ints .u8 [((p.l.getD 0 0) ^^^ 54)]) (fun w hk hl => (RdS.all (hl.at_ (k := 0) rfl) (Nat.le_refl _))) (by rw [ints_len]; first | rfl | simp [highL_len, hb_len]) (by decide) (by simp only [maxLen]; decide) (by decide) ?_
    clear F H; intro rq24 a v Qrq24 F H
    refine T_k F H (sc rq24.g 0 1 rq24.cap) ?_
    clear F; intro a F
    refine wpList_nil ?_
    have hc9 : ints .u8 [((p.l.getD 0 0) ^^^ 54)] = oct (xorQ p.l 54 1) := congrArg (ints .u8) (xorQ_next p.l 54 0)
    rw [hc9] at H Qrq24
    replace Qrq24 : Own (oct (xorQ p.l 54 1)) rq24.rest 1 rq24.cap 1 := Qrq24
    refine hK22 _ _ ?_
    clear hK22
    try clear K22
    refine C_region ?_
    refine T_k F H (.slice none 0 0) ?_
    clear F; intro a F
    refine T_k F H (sc rk.g 0 64 rk.cap) ?_
    clear F; intro a F
    refine T_k F H (ni 0) ?_
    clear F; intro a F
    refine T_val F H kr (pt rk.g (0 + (0) * 1)) (fun w _ => R_indexS (k := .i64) (g := rk.g) (off := 0) (len := 64) (cap := rk.cap) (x := (.tmp 41)) (y := (.tmp 42)) rfl Tryd.underlying54 kr (0) kr (by omega) (sz := 1) kr w) ?_
    clear F; intro a F
    refine T_val F H kr (nb (p.l.getD 0 0)) (R_cell (own := true) (g := rk.g) (all := (sl (oct (p.l ++ List.replicate (64 - p.n) 0)) rk.rest)) (t := 5) (fr := (0, 0)) 2 kr 5 (.tmp 43) rfl (0 + (0) * 1) kr (nb (p.l.getD 0 0)) ((congrArg (fun q => ((sl (oct (p.l ++ List.replicate (64 - p.n) 0)) rk.rest))[q]?) (show (0 + (0) * 1) = 0 by omega)).trans (sl_get (ints_get (zero_at p.l _ _ (by omega))))) _ Tryd.underlying5 rfl) ?_
    clear F; intro a F
    refine T_val F H kr (nb ((p.l.getD 0 0) ^^^ 92)) (fun w _ => R_bin (x := (.tmp 44)) (y := (.const (.int .u8 92))) rfl (k := .u8) (a := (((p.l.getD 0 0) : Nat) : Int)) (b := ((92 : Nat) : Int)) kr kr (i_xor8 (a := (p.l.getD 0 0)) (b := 92) (by omega) (by omega)) w) ?_
    clear F; intro a F
    refine T_new F H kr (fun ad => sc ad 0 1 1) (ce (sl (ints .u8 [((p.l.getD 0 0) ^^^ 92)]) []) 5) (fun w => R_buildS (len := 1) rfl Tryd.underlying54 ((sl (ints .u8 [((p.l.getD 0 0) ^^^ 92)]) [])) kr w) ?_
    clear F H; intro aq25 a v F H
    refine T_appN F H kr 54 5 (.tmp 40) (.tmp 46) rfl 1 1 kr kr kr (1) (ints .u8 [((p.l.getD 0 0) ^^^ 92)]) (fun w hk hl => (RdS.all (hl.at_ (k := 0) rfl) (Nat.le_refl _))) (by rw [ints_len]; first | rfl | simp [highL_len, hb_len]) (by decide) (by simp only [maxLen]; decide) (by decide) ?_
    clear F H; intro rq26 a v Qrq26 F H
    refine T_k F H (sc rq26.g 0 1 rq26.cap) ?_
    clear F; intro a F
    refine wpList_nil ?_
    have hc9 : ints .u8 [((p.l.getD 0 0) ^^^ 92)] = oct (xorQ p.l 92 1) := congrArg (ints .u8) (xorQ_next p.l 92 0)
    rw [hc9] at H Qrq26
    replace Qrq26 : Own (oct (xorQ p.l 92 1)) rq26.rest 1 rq26.cap 1 := Qrq26
    replace H : Hp [gl] w [bk rq24.g (sl (oct (xorQ p.l 54 1)) rq24.rest) 5, bk rq26.g (sl (oct (xorQ p.l 92 1)) rq26.rest) 5, bk rk.g (sl (oct (p.l ++ List.replicate (64 - p.n) 0)) rk.rest) 5, bk gl (lgr n) 32, bk aq2 z8 23] v := H.pick [2, 0, 4, 5, 6] kr _ rfl
    refine hK21 _ _ ?_
    clear hK21
    try clear K21
    refine C_region ?_
    refine T_k F H (ni 0) ?_
    clear F; intro a F
    refine T_k F H (ni 1) ?_
    clear F; intro a F
    refine T_k F H (ni 1) ?_
    clear F; intro a F
    refine wpList_nil ?_
    replace F : Fm 59 [] [(10, ni 1), (8, sc rq24.g 0 1 rq24.cap), (9, sc rq26.g 0 1 rq26.cap), (7, sc rk.g 0 64 rk.cap), (0, pt gl 0), (2, .slice q.ad q.n q.c), (6, pt aq2 0)] a := F.weak _ (subL_of kr)
    replace H : Hp [gl] w [bk rq24.g (sl (oct (xorQ p.l 54 1)) rq24.rest) 5, bk rq26.g (sl (oct (xorQ p.l 92 1)) rq26.rest) 5, bk rk.g (sl (oct (p.l ++ List.replicate (64 - p.n) 0)) rk.rest) 5, bk gl (lgr n) 32, bk aq2 z8 23] v := H
    exact ⟨m, Nat.lt_succ_self m, .inr ⟨1, rq24, rq26, by omega, by omega, Qrq24, Qrq26, F, H⟩⟩
  rcases m with _ | m
  rotate_left
  · skip
    have hgl := getD_lt hpb k
    refine C_seqK (fun K27 hK27 => ?_)
    refine C_seqK (fun K28 hK28 => ?_)
    refine C_region ?_
    refine T_k F H (ni k) ?_
    clear F; intro a F
    refine T_val F H kr (.bool true) (fun w _ => R_bin (x := (.tmp 28)) (y := (.const (.int .i64 64))) rfl (k := .i64) (a := ((k : Nat) : Int)) (b := ((64 : Nat) : Int)) kr kr (i_lt (by omega)) w) ?_
    clear F; intro a F
    refine wpList_nil ?_
    refine hK28 _ _ ?_
    clear hK28
    try clear K28
    refine C_if F true rfl rfl ?_
    refine wp_skip ?_
    refine hK27 _ _ ?_
    clear hK27
    try clear K27
    refine C_seqK (fun K29 hK29 => ?_)
    refine wp_block ?_
    refine C_seqK (fun K30 hK30 => ?_)
    refine C_region ?_
    refine T_k F H (sc r.g 0 k r.cap) ?_
    clear F; intro a F
    refine T_k F H (sc rk.g 0 64 rk.cap) ?_
    clear F; intro a F
    refine T_k F H (ni k) ?_
    clear F; intro a F
    refine T_val F H kr (pt rk.g (0 + (k) * 1)) (fun w _ => R_indexS (k := .i64) (g := rk.g) (off := 0) (len := 64) (cap := rk.cap) (x := (.tmp 33)) (y := (.tmp 34)) rfl Tryd.underlying54 kr (k) kr (by omega) (sz := 1) kr w) ?_
    clear F; intro a F
    refine T_val F H kr (nb (p.l.getD k 0)) (R_cell (own := true) (g := rk.g) (all := (sl (oct (p.l ++ List.replicate (64 - p.n) 0)) rk.rest)) (t := 5) (fr := (0, 0)) 2 kr 5 (.tmp 35) rfl (0 + (k) * 1) kr (nb (p.l.getD k 0)) ((congrArg (fun q => ((sl (oct (p.l ++ List.replicate (64 - p.n) 0)) rk.rest))[q]?) (show (0 + (k) * 1) = k by omega)).trans (sl_get (ints_get (zero_at p.l _ _ (by omega))))) _ Tryd.underlying5 rfl) ?_
    clear F; intro a F
    refine T_val F H kr (nb ((p.l.getD k 0) ^^^ 54)) (fun w _ => R_bin (x := (.tmp 36)) (y := (.const (.int .u8 54))) rfl (k := .u8) (a := (((p.l.getD k 0) : Nat) : Int)) (b := ((54 : Nat) : Int)) kr kr (i_xor8 (a := (p.l.getD k 0)) (b := 54) (by omega) (by omega)) w) ?_
    clear F; intro a F
    refine T_new F H kr (fun ad => sc ad 0 1 1) (ce (sl (ints .u8 [((p.l.getD k 0) ^^^ 54)]) []) 5) (fun w => R_buildS (len := 1) rfl Tryd.underlying54 ((sl (ints .u8 [((p.l.getD k 0) ^^^ 54)]) [])) kr w) ?_
    clear F H; intro aq31 a v F H
    refine T_app F H kr 54 5 (.tmp 32) (.tmp 38) rfl 1 1 kr kr 1 rfl hOr kr (1) (ints .u8 [((p.l.getD k 0) ^^^ 54)]) (fun w hk hl => (RdS.all (hl.at_ (k := 0) rfl) (Nat.le_refl _))) (by rw [ints_len]; first | rfl | simp [highL_len, hb_len]) (ints_one _ _) (by simp only [maxLen]; omega) (by omega) _ rfl ?_
    clear F H; intro rq32 a v Qrq32 F H
    refine T_k F H (sc rq32.g 0 (k + 1) rq32.cap) ?_
    clear F; intro a F
    refine wpList_nil ?_
    have hc9 : (oct (xorQ p.l 54 k)) ++ (ints .u8 [((p.l.getD k 0) ^^^ 54)]) = oct (xorQ p.l 54 (k + 1)) := (ints_app .u8 _ _).symm.trans (congrArg _ (xorQ_next p.l 54 k))
    rw [hc9] at H Qrq32
    replace Qrq32 : Own (oct (xorQ p.l 54 (k + 1))) rq32.rest (k + 1) rq32.cap 1 := Qrq32
    refine hK30 _ _ ?_
    clear hK30
    try clear K30
    refine C_region ?_
    refine T_k F H (sc s.g 0 k s.cap) ?_
    clear F; intro a F
    refine T_k F H (sc rk.g 0 64 rk.cap) ?_
    clear F; intro a F
    refine T_k F H (ni k) ?_
    clear F; intro a F
    refine T_val F H kr (pt rk.g (0 + (k) * 1)) (fun w _ => R_indexS (k := .i64) (g := rk.g) (off := 0) (len := 64) (cap := rk.cap) (x := (.tmp 41)) (y := (.tmp 42)) rfl Tryd.underlying54 kr (k) kr (by omega) (sz := 1) kr w) ?_
    clear F; intro a F
    refine T_val F H kr (nb (p.l.getD k 0)) (R_cell (own := true) (g := rk.g) (all := (sl (oct (p.l ++ List.replicate (64 - p.n) 0)) rk.rest)) (t := 5) (fr := (0, 0)) 3 kr 5 (.tmp 43) rfl (0 + (k) * 1) kr (nb (p.l.getD k 0)) ((congrArg (fun q => ((sl (oct (p.l ++ List.replicate (64 - p.n) 0)) rk.rest))[q]?) (show (0 + (k) * 1) = k by omega)).trans (sl_get (ints_get (zero_at p.l _ _ (by omega))))) _ Tryd.underlying5 rfl) ?_
    clear F; intro a F
    refine T_val F H kr (nb ((p.l.getD k 0) ^^^ 92)) (fun w _ => R_bin (x := (.tmp 44)) (y := (.const (.int .u8 92))) rfl (k := .u8) (a := (((p.l.getD k 0) : Nat) : Int)) (b := ((92 : Nat) : Int)) kr kr (i_xor8 (a := (p.l.getD k 0)) (b := 92) (by omega) (by omega)) w) ?_
    clear F; intro a F
    refine T_new F H kr (fun ad => sc ad 0 1 1) (ce (sl (ints .u8 [((p.l.getD k 0) ^^^ 92)]) []) 5) (fun w => R_buildS (len := 1) rfl Tryd.underlying54 ((sl (ints .u8 [((p.l.getD k 0) ^^^ 92)]) [])) kr w) ?_
    clear F H; intro aq33 a v F H
    refine T_app F H kr 54 5 (.tmp 40) (.tmp 46) rfl 1 1 kr kr 3 rfl hOs kr (1) (ints .u8 [((p.l.getD k 0) ^^^ 92)]) (fun w hk hl => (RdS.all (hl.at_ (k := 0) rfl) (Nat.le_refl _))) (by rw [ints_len]; first | rfl | simp [highL_len, hb_len]) (ints_one _ _) (by simp only [maxLen]; omega) (by omega) _ rfl ?_
    clear F H; intro rq34 a v Qrq34 F H
    refine T_k F H (sc rq34.g 0 (k + 1) rq34.cap) ?_
    clear F; intro a F
    refine wpList_nil ?_
    have hc9 : (oct (xorQ p.l 92 k)) ++ (ints .u8 [((p.l.getD k 0) ^^^ 92)]) = oct (xorQ p.l 92 (k + 1)) := (ints_app .u8 _ _).symm.trans (congrArg _ (xorQ_next p.l 92 k))
    rw [hc9] at H Qrq34
    replace Qrq34 : Own (oct (xorQ p.l 92 (k + 1))) rq34.rest (k + 1) rq34.cap 1 := Qrq34
    replace H : Hp [gl] w [bk rq32.g (sl (oct (xorQ p.l 54 (k + 1))) rq32.rest) 5, bk rq34.g (sl (oct (xorQ p.l 92 (k + 1))) rq34.rest) 5, bk rk.g (sl (oct (p.l ++ List.replicate (64 - p.n) 0)) rk.rest) 5, bk gl (lgr n) 32, bk aq2 z8 23] v := H.pick [2, 0, 4, 5, 6] kr _ rfl
    refine hK29 _ _ ?_
    clear hK29
    try clear K29
    refine C_region ?_
    refine T_k F H (ni k) ?_
    clear F; intro a F
    refine T_val F H kr (ni (k + 1)) (fun w _ => R_bin (x := (.tmp 30)) (y := (.const (.int .i64 1))) rfl (k := .i64) (a := ((k : Nat) : Int)) (b := ((1 : Nat) : Int)) kr kr (i_addn64 (a := k) (b := 1) (by omega)) w) ?_
    clear F; intro a F
    refine T_k F H (ni (k + 1)) ?_
    clear F; intro a F
    refine wpList_nil ?_
    replace F : Fm 59 [] [(10, ni (k + 1)), (8, sc rq32.g 0 (k + 1) rq32.cap), (9, sc rq34.g 0 (k + 1) rq34.cap), (7, sc rk.g 0 64 rk.cap), (0, pt gl 0), (2, .slice q.ad q.n q.c), (6, pt aq2 0)] a := F.weak _ (subL_of kr)
    replace H : Hp [gl] w [bk rq32.g (sl (oct (xorQ p.l 54 (k + 1))) rq32.rest) 5, bk rq34.g (sl (oct (xorQ p.l 92 (k + 1))) rq34.rest) 5, bk rk.g (sl (oct (p.l ++ List.replicate (64 - p.n) 0)) rk.rest) 5, bk gl (lgr n) 32, bk aq2 z8 23] v := H
    exact ⟨m, Nat.lt_succ_self m, .inr ⟨k + 1, rq32, rq34, by omega, by omega, Qrq32, Qrq34, F, H⟩⟩
  have hkt : k = 64 := by omega
  rw [hkt] at F H hOr hOs
  clear hk hk1
  refine C_seqK (fun K35 hK35 => ?_)
  refine C_seqK (fun K36 hK36 => ?_)
  refine C_region ?_
  refine T_k F H (ni 64) ?_
  clear F; intro a F
  refine T_val F H kr (.bool false) (fun w _ => R_bin (x := (.tmp 28)) (y := (.const (.int .i64 64))) rfl (k := .i64) (a := ((64 : Nat) : Int)) (b := ((64 : Nat) : Int)) kr kr (i_nlt (by omega)) w) ?_
  clear F; intro a F
  refine wpList_nil ?_
  refine hK36 _ _ ?_
  clear hK36
  try clear K36
  refine C_if F false rfl rfl ?_
  refine wp_exit ?_
  refine hK17 _ _ ?_
  clear hK17
  try clear K17
  refine C_seqK (fun K37 hK37 => ?_)
  have hz4 := padQ_small p.l 54 (by omega)
  have hz2 := padQ_small p.l 92 (by omega)
  rw [hz4] at H hOr
  rw [hz2] at H hOs
  have hq54 := padK_lt hpb (x := 54) (by decide)
  have hq92 := padK_lt hpb (x := 92) (by decide)
  refine C_region ?_
  refine T_k F H (pt gl 0) ?_
  clear F; intro a F
  refine T_k F H (sc r.g 0 64 r.cap) ?_
  clear F; intro a F
  refine T_k F H (.slice q.ad q.n q.c) ?_
  clear F; intro a F
  refine T_app F H kr 54 5 (.tmp 49) (.tmp 50) rfl 1 1 kr kr 0 rfl hOr kr (q.n) (oct (q.l)) (fun w hk hl => (hqr.kept hk hqx)) (by rw [ints_len, Nat.mul_one]; exact hqn) (ints_one _ _) (by simp only [maxLen]; omega) (by omega) _ rfl ?_
  clear F H; intro rq38 a v Qrq38 F H
  have hc9 : (oct (padK p.l 54)) ++ (oct (q.l)) = oct (padK p.l 54 ++ q.l) := (ints_app .u8 _ _).symm
  rw [hc9] at H Qrq38
  refine T_callX (α := SlR) F H kr 51 #[pt gl 0, sc rq38.g 0 (64 + q.n) rq38.cap] (fun rX => kyV f1) (fun rX => [bk rq38.g (sl (oct (padK p.l 54 ++ q.l)) rq38.rest) 5, bk s.g (sl (oct (padK p.l 92)) s.rest) 5, bk rk.g (sl (oct (p.l ++ List.replicate (64 - p.n) 0)) rk.rest) 5, bk gl (lgr rX.n) 32, bk aq2 z8 23]) (fun rX => True) (fun w => kr) (fun w H => callsX_putV H (k := 3) rfl ((lsum_blk gl n rq38.g ((64 + q.n)) (rq38.cap) (padK p.l 54 ++ q.l) _ (by rw [List.length_append, padK_len, hqn]) (Qrq38).le (by omega) (fun x hx => (List.mem_append.1 hx).elim (hq54 x) (hqb x)) _ (H.at_ (k := 0) rfl) (H.at_ (k := 3) rfl)).mono (fun _ _ ⟨r, q1, q2⟩ => ⟨r, by rw [q1, ← hf1], q2⟩))) ?_
  clear F H; intro rq39 a v Qrq39 F H
  refine T_new F H kr (fun ad => pt ad 0) (ce z8 23) (fun w => kr) ?_
  clear F H; intro aq40 a v F H
  refine T_set F H kr rfl 0 rfl (arrF .u8 32 f1) (S_row 0 rfl 23 (.tmp 11) (.tmp 52) rfl kr (arrF .u8 32 f1) kr (by rw [arrF_size]; kernel_rfl) (by rw [arrF_size]; kernel_rfl) (arrF_one _ _ _)) [bk aq40 (arrF .u8 32 f1) 23, bk rq38.g (sl (oct (padK p.l 54 ++ q.l)) rq38.rest) 5, bk s.g (sl (oct (padK p.l 92)) s.rest) 5, bk rk.g (sl (oct (p.l ++ List.replicate (64 - p.n) 0)) rk.rest) 5, bk gl (lgr rq39.n) 32, bk aq2 z8 23] rfl ?_
  clear F H; intro a v F H
  refine wpList_nil ?_
  refine hK37 _ _ ?_
  clear hK37
  try clear K37
  refine C_seqK (fun K41 hK41 => ?_)
  refine C_region ?_
  refine T_k F H (pt gl 0) ?_
  clear F; intro a F
  refine T_k F H (sc s.g 0 64 s.cap) ?_
  clear F; intro a F
  refine T_val F H kr (kyV f1) (R_load (own := true) (g := aq40) (all := (arrF .u8 32 f1)) (t := 23) (fr := (0, 0)) 0 kr 23 (.tmp 11) rfl 0 kr (arrF .u8 32 f1) (part_all _) _ Tryd.underlying23 rfl (by rw [arrF_size]; kernel_rfl)) ?_
  clear F; intro a F
  refine T_callX (α := SlR) F H kr 47 #[kyV f1] (fun rX => sc rX.g 0 32 rX.cap) (fun rX => [bk rX.g (sl (oct (kl f1)) rX.rest) 5, bk aq40 (arrF .u8 32 f1) 23, bk rq38.g (sl (oct (padK p.l 54 ++ q.l)) rq38.rest) 5, bk s.g (sl (oct (padK p.l 92)) s.rest) 5, bk rk.g (sl (oct (p.l ++ List.replicate (64 - p.n) 0)) rk.rest) 5, bk gl (lgr rq39.n) 32, bk aq2 z8 23]) (fun rX => Own (oct (kl f1)) rX.rest (32) rX.cap 1) (fun w => kr) (fun w H => callsX_newV H (bytesR_any f1 _)) ?_
  clear F H; intro rq42 a v Qrq42 F H
  refine T_app F H kr 54 5 (.tmp 54) (.tmp 56) rfl 1 1 kr kr 3 rfl hOs kr (32) (oct (kl f1)) (fun w hk hl => (RdS.all (hl.at_ (k := 0) rfl) (Own.le Qrq42))) (by rw [ints_len]; first | rfl | simp [highL_len, hb_len]) (ints_one _ _) (by simp only [maxLen]; omega) (by omega) _ rfl ?_
  clear F H; intro rq43 a v Qrq43 F H
  have hc9 : (oct (padK p.l 92)) ++ (oct (kl f1)) = oct (padK p.l 92 ++ kl f1) := (ints_app .u8 _ _).symm
  rw [hc9] at H Qrq43
  refine T_callX (α := SlR) F H kr 51 #[pt gl 0, sc rq43.g 0 (64 + 32) rq43.cap] (fun rX => kyV f2) (fun rX => [bk rq43.g (sl (oct (padK p.l 92 ++ kl f1)) rq43.rest) 5, bk rq42.g (sl (oct (kl f1)) rq42.rest) 5, bk aq40 (arrF .u8 32 f1) 23, bk rq38.g (sl (oct (padK p.l 54 ++ q.l)) rq38.rest) 5, bk rk.g (sl (oct (p.l ++ List.replicate (64 - p.n) 0)) rk.rest) 5, bk gl (lgr rX.n) 32, bk aq2 z8 23]) (fun rX => True) (fun w => kr) (fun w H => callsX_putV H (k := 5) rfl ((lsum_blk gl rq39.n rq43.g ((64 + 32)) (rq43.cap) (padK p.l 92 ++ kl f1) _ (by rw [List.length_append, padK_len, kl_len]) (Qrq43).le (by decide) (fun x hx => (List.mem_append.1 hx).elim (hq92 x) (kl_lt hf1l x)) _ (H.at_ (k := 0) rfl) (H.at_ (k := 5) rfl)).mono (fun _ _ ⟨r, q1, q2⟩ => ⟨r, by rw [q1, ← hf2], q2⟩))) ?_
  clear F H; intro rq44 a v Qrq44 F H
  refine T_set F H kr rfl 6 rfl (arrF .u8 32 f2) (S_row 6 rfl 23 (.tmp 6) (.tmp 58) rfl kr (arrF .u8 32 f2) kr (by rw [arrF_size]; kernel_rfl) (by rw [arrF_size]; kernel_rfl) (arrF_one _ _ _)) [bk rq43.g (sl (oct (padK p.l 92 ++ kl f1)) rq43.rest) 5, bk rq42.g (sl (oct (kl f1)) rq42.rest) 5, bk aq40 (arrF .u8 32 f1) 23, bk rq38.g (sl (oct (padK p.l 54 ++ q.l)) rq38.rest) 5, bk rk.g (sl (oct (p.l ++ List.replicate (64 - p.n) 0)) rk.rest) 5, bk gl (lgr rq44.n) 32, bk aq2 (arrF .u8 32 f2) 23] rfl ?_
  clear F H; intro a v F H
  refine wpList_nil ?_
  refine hK41 _ _ ?_
  clear hK41
  try clear K41
  refine wp_ret ?_
  exact C_ret F H (rs := [.cell 6 23]) rfl (vs := [kyV f2]) (.row 6 rfl rfl _ Tryd.underlying23 rfl kr .nil) (kyV f2) rfl ⟨⟨0, 0, [], rq44.n⟩, rfl, trivial, H.kept, H.at_ (k := 5) rfl⟩
end Go.Proofs.YtdejhenkdbjakaaDoor
