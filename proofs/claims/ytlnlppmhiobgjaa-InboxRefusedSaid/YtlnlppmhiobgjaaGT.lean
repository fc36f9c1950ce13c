/- Walk: InboxFifo. -/
import Derived.Test.YtlnlppmhiobgjaaGQ
import Derived.Test.YtlnlppmhiobgjaaGK
set_option linter.unusedVariables false
set_option linter.unusedSimpArgs false
namespace Go.Proofs.Ytlnlppmhiobgjaa
open Go Go.RowKit
/-- What is wanted yet: octets that came in. -/
structure Wt where
  nb : Bool
  ad : Option Addr
  r : SlR
  ss : List Sv
def Wt.v (t : Wt) : Value := match t.nb with | true => .slice t.ad 0 0 | false => .slice (some ⟨t.r.g, t.r.n, none⟩) t.ss.length t.r.cap
def Wt.blks (t : Wt) : List Blk := match t.nb with | true => [] | false => [⟨true, t.r.g, .cells t.r.rest.toArray 30 (0, 0)⟩]
structure Wt.ok (t : Wt) (w0 : World) : Prop where
  nil : t.nb = true → t.ss = []
  own : t.nb = false → OwnO (t.ss.map Sv.v) t.r t.ss.length
  each : ∀ s ∈ t.ss, s.Rd w0
def Wt.lv (t : Wt) : Lv := match t.nb with | true => ⟨t.ad, 0, t.ss⟩ | false => ⟨some ⟨t.r.g, t.r.n, none⟩, t.r.cap, t.ss⟩
theorem Wt.lv_v {t : Wt} {w0 : World} (h : t.ok w0) : t.lv.v = t.v := by
  obtain ⟨nb, ad, r, ss⟩ := t
  cases nb with
  | true => have h0 : ss = [] := h.nil rfl; subst h0; rfl
  | false => rfl
theorem Wt.lv_ss (t : Wt) : t.lv.ss = t.ss := by unfold Wt.lv; split <;> rfl
theorem Wt.rd {w0 w : World} {t : Wt} (h : t.ok w0) (k : Kept [] w0 w) (hn : t.ss.length < 1000000) (hb : HeldB t.blks w) : t.lv.Rd w := by
  obtain ⟨nb, ad, r, ss⟩ := t
  cases nb with
  | true =>
    have h0 : ss = [] := h.nil rfl
    subst h0
    exact ⟨Nat.le_refl _, by show 0 < 1000000; omega, fun hl => absurd rfl hl, fun x hx => by cases hx⟩
  | false => exact ⟨(h.own rfl).le, hn, fun _ => ⟨r.g, r.n, rfl, (h.own rfl).rdb (hb _ (List.mem_singleton.2 rfl))⟩, fun x hx => (h.each x hx).kept k⟩
/-- An operation of a script for the inbox. -/
structure OpJ where
  do_ : Int
  nx : Nat
  ix : Nat
  b : Sv
  hv : Value
  uv : Value
def OpJ.cells (o : OpJ) : List Value := [.int .i64 o.do_, .int .u32 ((o.nx : Nat) : Int), .int .u32 ((o.ix : Nat) : Int), .slice o.b.ad o.b.l.length o.b.c, o.hv, o.uv]
structure OpsJ (w : World) (la : Option Addr) (c : Nat) (ops : List OpJ) : Prop where
  le : ops.length ≤ c
  at_ : ops ≠ [] → ∃ g off, la = some ⟨g, off, none⟩ ∧ RdB w g off (ops.flatMap OpJ.cells)
  each : ∀ o ∈ ops, o.b.Rd w ∧ o.nx < 4294967296 ∧ o.ix < 4294967296
theorem opj_cell {w : World} {g off k j : Nat} {ops : List OpJ} {op : OpJ} {v : Value} (h : RdB w g off (ops.flatMap OpJ.cells)) (hk : ops[k]? = some op) (hj : op.cells[j]? = some v) : w.cell? ⟨g, off + k * 6 + j, none⟩ = some v := by
  have hj6 : j < 6 := (List.getElem?_eq_some_iff.1 hj).1
  rw [Nat.add_assoc]
  exact h _ _ ((flat_at (f := OpJ.cells) (n := 6) (fun _ => rfl) hk hj6).trans hj)
theorem i_eqI' {k : IntKind} {a b : Int} : intRes .eql k a b = some (.bool (decide (a = b))) := rfl
theorem ix_weak {w0 w : World} {xb : Nat} {s : InS} {T R : List Blk} (H : Hp [] w0 (T ++ (s.blks xb ++ R)) w) : Hp [] w0 (T ++ (s.blks xb ++ [])) w := H.weak (List.Sublist.append (List.Sublist.refl _) (List.Sublist.append (List.Sublist.refl _) (List.nil_sublist _)))

set_option maxRecDepth 100000 in
set_option maxHeartbeats 4000000 in
theorem inboxFifo_any (la : Option Addr) (c : Nat) (ops : List OpJ) (w : World) (hI : OpsJ w la c ops) : Calls Try.prog 3 #[.slice la ops.length c] w fun e w' => e = .returned (.bool true) ∧ Kept [] w w' := by
  refine C_enter Try.func3 rfl 85 Try.ntmps3 (Nat.le_of_ble_eq_true rfl) (fun a F => ?_)
  have H := Hp.start [] w
  replace F : Fm 85 [] [(0, .slice la ops.length c)] a := F.weak _ (subL_of kr)
  refine C_seqK (fun K1 hK1 => ?_)
  refine C_region ?_
  refine T_k F H (.bool false) ?_
  clear F; intro a F
  refine wpList_nil ?_
  refine hK1 _ _ ?_
  clear hK1
  try clear K1
  refine C_seqK (fun K2 hK2 => ?_)
  refine C_region ?_
  refine T_call F H kr 8 #[] (.bool true) (fun w => kr) (awake22_any _) ?_
  clear F H; intro a v F H
  refine T_k F H (.bool true) ?_
  clear F; intro a F
  refine wpList_nil ?_
  refine hK2 _ _ ?_
  clear hK2
  try clear K2
  refine C_seqK (fun K3 hK3 => ?_)
  refine C_region ?_
  refine T_k F H (.agg #[.map none, .slice none 0 0]) ?_
  clear F; intro a F
  refine T_new F H kr (fun ad => pt ad 0) (ce #[.map none, .slice none 0 0] 28) (fun w => kr) ?_
  clear F H; intro aq4 a v F H
  refine T_k F H (pt aq4 0) ?_
  clear F; intro a F
  refine wpList_nil ?_
  replace H : Hp [] w [bk aq4 #[.map none, .slice none 0 0] 28] v := H.pick [0] kr _ rfl
  generalize aq4 = xb at F H
  replace H : Hp [] w ((⟨true, 0, 0, [], true, none, r0, []⟩ : InS).blks xb ++ []) v := H
  refine hK3 _ _ ?_
  clear hK3
  try clear K3
  refine C_seqK (fun K5 hK5 => ?_)
  refine C_seqK (fun K6 hK6 => ?_)
  refine C_region ?_
  refine T_k F H (.slice la ops.length c) ?_
  clear F; intro a F
  refine T_k F H (ni ops.length) ?_
  clear F; intro a F
  refine T_val F H kr (.bool (decide (80 < ops.length))) (fun w _ => R_bin (x := (.tmp 16)) (y := (.const (.int .i64 80))) rfl (k := .i64) (a := ((ops.length : Nat) : Int)) (b := ((80 : Nat) : Int)) kr kr i_gtrd w) ?_
  clear F; intro a F
  refine wpList_nil ?_
  refine hK6 _ _ ?_
  clear hK6
  try clear K6
  by_cases hc : 80 < ops.length
  · rw [decide_eq_true hc] at F
    refine C_if F true rfl rfl ?_
    refine C_seqK (fun K7 hK7 => ?_)
    refine C_region ?_
    refine T_k F H (.bool true) ?_
    clear F; intro a F
    refine T_k F H (.bool true) ?_
    clear F; intro a F
    refine wpList_nil ?_
    refine hK7 _ _ ?_
    clear hK7
    try clear K7
    refine wp_ret ?_
    repeat (first | with_reducible refine then_ret ?_ | with_reducible refine inB_ret ?_)
    exact C_ret F H (rs := [.tmp 2]) rfl (vs := [.bool true]) (.tmp rfl .nil) (.bool true) rfl ⟨rfl, H.kept⟩
  rw [decide_eq_false hc] at F
  refine C_if F false rfl rfl ?_
  refine wp_skip ?_
  refine hK5 _ _ ?_
  clear hK5
  try clear K5
  refine C_seqK (fun K8 hK8 => ?_)
  refine C_region ?_
  refine T_k F H (.slice none 0 0) ?_
  clear F; intro a F
  refine wpList_nil ?_
  refine hK8 _ _ ?_
  clear hK8
  try clear K8
  refine C_seqK (fun K9 hK9 => ?_)
  refine C_seqK (fun K10 hK10 => ?_)
  refine C_region ?_
  refine T_k F H (ni 0) ?_
  clear F; intro a F
  refine wpList_nil ?_
  refine hK10 _ _ ?_
  clear hK10
  try clear K10
  replace F : Fm 85 [] [(6, ni 0), (0, .slice la ops.length c), (3, .bool true), (4, pt xb 0), (5, .slice none 0 0)] a := F.weak _ (subL_of kr)
  have hlen : ops.length ≤ 80 := Nat.not_lt.1 hc
  clear hc
  refine wp_block ?_
  refine C_loop (fun m a v => ∃ (k : Nat) (s : InS) (wt : Wt), k + m = ops.length ∧ (s.ok ∧ wt.ok w ∧ s.U = wt.ss.map (·.l)) ∧ Fm 85 [] [(6, ni k), (0, .slice la ops.length c), (3, .bool true), (4, pt xb 0), (5, (wt.v))] a ∧ Hp [] w (wt.blks ++ (s.blks xb ++ [])) v) ops.length ⟨0, (⟨true, 0, 0, [], true, none, r0, []⟩ : InS), (⟨true, none, r0, []⟩ : Wt), Nat.zero_add _, ⟨i0_ok, ⟨fun _ => rfl, (fun h => by cases h), fun s hs => by cases hs⟩, rfl⟩, F, H⟩ ?_
  clear F H
  intro m a v ⟨k, s, wt, hk, ⟨hs, hw, hU⟩, F, H⟩
  rcases m with _ | m
  rotate_left
  · obtain ⟨op, hop⟩ : ∃ op, ops[k]? = some op := ⟨_, List.getElem?_eq_getElem (show k < ops.length by omega)⟩
    obtain ⟨ga, oa, e1, hr⟩ := hI.at_ (fun e => by rw [e] at hop; cases hop)
    subst e1
    obtain ⟨hob, hnx, hix⟩ := hI.each op (List.mem_of_getElem? hop)
    have hU8 : s.U.length ≤ 8 := by rw [InS.U_len]; exact hs.room
    have hWl : wt.ss.length = s.U.length := by rw [hU, List.length_map]
    have hcase : (op.do_ = 3 ∧ (s.U.length = 8 ∨ s.U.length < 8)) ∨ op.do_ ≠ 3 := by omega
    obtain ⟨wnb, wad, wr, ss⟩ := wt
    rcases hcase with ⟨hd, h8 | h8⟩ | hd
    · cases wnb
      · skip
        replace F : Fm 85 [] [(6, ni k), (0, sc ga oa ops.length c), (3, .bool true), (4, pt xb 0), (5, sc wr.g wr.n ss.length wr.cap)] a := F
        replace H : Hp [] w ((bk wr.g (wr.rest.toArray) 30) :: (s.blks xb ++ [])) v := H
        refine C_seqK (fun K11 hK11 => ?_)
        refine C_seqK (fun K12 hK12 => ?_)
        refine C_region ?_
        refine T_k F H (ni k) ?_
        clear F; intro a F
        refine T_k F H (sc ga oa ops.length c) ?_
        clear F; intro a F
        refine T_k F H (ni ops.length) ?_
        clear F; intro a F
        refine T_val F H kr (.bool true) (fun w _ => R_bin (x := (.tmp 19)) (y := (.tmp 21)) rfl (k := .i64) (a := ((k : Nat) : Int)) (b := ((ops.length : Nat) : Int)) kr kr (i_lt (by omega)) w) ?_
        clear F; intro a F
        refine wpList_nil ?_
        refine hK12 _ _ ?_
        clear hK12
        try clear K12
        refine C_if F true rfl rfl ?_
        refine wp_skip ?_
        refine hK11 _ _ ?_
        clear hK11
        try clear K11
        refine C_seqK (fun K13 hK13 => ?_)
        refine wp_block ?_
        refine C_seqK (fun K14 hK14 => ?_)
        refine C_region ?_
        refine T_k F H (sc ga oa ops.length c) ?_
        clear F; intro a F
        refine T_k F H (ni k) ?_
        clear F; intro a F
        refine T_val F H kr (pt ga (oa + (k) * 6)) (fun w _ => R_indexS (k := .i64) (g := ga) (off := oa) (len := ops.length) (cap := c) (x := (.tmp 25)) (y := (.tmp 26)) rfl Try.underlying22 kr (k) kr (by omega) (sz := 6) kr w) ?_
        clear F; intro a F
        refine T_k F H (pt ga ((oa + (k) * 6) + 0)) ?_
        clear F; intro a F
        refine T_valK F H kr (.int .i64 op.do_) (fun w hk hl => R_ld (y := (.tmp 28)) rfl (g := ga) (off := ((oa + (k) * 6) + 0)) kr (opj_cell (j := 0) (hr.kept hk List.not_mem_nil) hop rfl) _ Try.underlying3 rfl) ?_
        clear F; intro a F
        refine T_val F H kr (.bool true) (fun w _ => R_bin (x := (.tmp 29)) (y := (.const (.int .i64 3))) rfl (k := .i64) (a := op.do_) (b := 3) kr kr (i_eqI'.trans (by rw [decide_eq_true (by omega)])) w) ?_
        clear F; intro a F
        refine wpList_nil ?_
        refine hK14 _ _ ?_
        clear hK14
        try clear K14
        refine C_if F true rfl rfl ?_
        refine C_seqK (fun K15 hK15 => ?_)
        refine C_region ?_
        refine T_k F H (pt xb 0) ?_
        clear F; intro a F
        replace H : Hp [] w (s.blks xb ++ ((bk wr.g (wr.rest.toArray) 30) :: [])) v := H.perm List.perm_middle.symm
        refine T_call F H kr 9 #[pt xb 0] (ni (8 - s.U.length)) (fun w => kr) (room_S hs H) ?_
        clear F H; intro a v F H
        refine T_k F H (ni (8 - s.U.length)) ?_
        clear F; intro a F
        refine wpList_nil ?_
        refine hK15 _ _ ?_
        clear hK15
        try clear K15
        refine C_seqK (fun K16 hK16 => ?_)
        refine C_region ?_
        refine T_k F H (pt xb 0) ?_
        clear F; intro a F
        refine T_k F H (sc ga oa ops.length c) ?_
        clear F; intro a F
        refine T_k F H (ni k) ?_
        clear F; intro a F
        refine T_val F H kr (pt ga (oa + (k) * 6)) (fun w _ => R_indexS (k := .i64) (g := ga) (off := oa) (len := ops.length) (cap := c) (x := (.tmp 34)) (y := (.tmp 35)) rfl Try.underlying22 kr (k) kr (by omega) (sz := 6) kr w) ?_
        clear F; intro a F
        refine T_k F H (pt ga ((oa + (k) * 6) + 3)) ?_
        clear F; intro a F
        refine T_valK F H kr (.slice op.b.ad op.b.l.length op.b.c) (fun w hk hl => R_ld (y := (.tmp 37)) rfl (g := ga) (off := ((oa + (k) * 6) + 3)) kr (opj_cell (j := 3) (hr.kept hk List.not_mem_nil) hop rfl) _ Try.underlying30 rfl) ?_
        clear F; intro a F
        refine T_callX (α := InS) F H kr 10 #[pt xb 0, .slice op.b.ad op.b.l.length op.b.c] (fun rX => .int .i64 63) (fun rX => rX.blks xb ++ ((bk wr.g (wr.rest.toArray) 30) :: [])) (fun rX => rX.ok ∧ rX.U = s.U ∧ rX.M = s.M) (fun w => kr) (fun w H => (put_S hs H op.b (ix_rd0 H hob)).mono fun _ _ ⟨s', q1, q2, q3⟩ => ⟨s', by rw [q1, if_pos h8], by rw [if_pos h8] at q2; exact q2, q3⟩) ?_
        clear F H; intro s17 a v Qs17 F H
        refine T_k F H (.int .i64 63) ?_
        clear F; intro a F
        refine wpList_nil ?_
        refine hK16 _ _ ?_
        clear hK16
        try clear K16
        refine C_seqK (fun K18 hK18 => ?_)
        refine C_seqK (fun K19 hK19 => ?_)
        refine C_region ?_
        refine T_k F H (.int .i64 63) ?_
        clear F; intro a F
        refine T_k F H (.bool false) ?_
        clear F; intro a F
        refine T_k F H (ni (8 - s.U.length)) ?_
        clear F; intro a F
        refine T_val F H kr (.bool false) (fun w _ => R_bin (x := (.tmp 42)) (y := (.const (.int .i64 0))) rfl (k := .i64) (a := (((8 - s.U.length) : Nat) : Int)) (b := ((0 : Nat) : Int)) kr kr (i_gtrd.trans (by rw [decide_eq_false (by omega)])) w) ?_
        clear F; intro a F
        refine T_k F H (.bool false) ?_
        clear F; intro a F
        refine wpList_nil ?_
        refine hK19 _ _ ?_
        clear hK19
        try clear K19
        refine C_if F false rfl rfl ?_
        refine wp_skip ?_
        refine hK18 _ _ ?_
        clear hK18
        try clear K18
        refine C_seqK (fun K20 hK20 => ?_)
        refine C_region ?_
        refine T_k F H (.int .i64 63) ?_
        clear F; intro a F
        refine T_k F H (.bool false) ?_
        clear F; intro a F
        refine wpList_nil ?_
        refine hK20 _ _ ?_
        clear hK20
        try clear K20
        refine C_if F false rfl rfl ?_
        refine wp_skip ?_
        refine hK13 _ _ ?_
        clear hK13
        try clear K13
        refine C_region ?_
        refine T_k F H (ni k) ?_
        clear F; intro a F
        refine T_val F H kr (ni (k + 1)) (fun w _ => R_bin (x := (.tmp 23)) (y := (.const (.int .i64 1))) rfl (k := .i64) (a := ((k : Nat) : Int)) (b := ((1 : Nat) : Int)) kr kr (i_addn64 (a := k) (b := 1) (by omega)) w) ?_
        clear F; intro a F
        refine T_k F H (ni (k + 1)) ?_
        clear F; intro a F
        refine wpList_nil ?_
        refine ⟨m, Nat.lt_succ_self m, k + 1, s17, ⟨false, wad, wr, ss⟩, by omega, ⟨Qs17.1, hw, by rw [Qs17.2.1]; exact hU⟩, ?_, ?_⟩
        · show Fm 85 [] [(6, ni (k + 1)), (0, sc ga oa ops.length c), (3, .bool true), (4, pt xb 0), (5, ((⟨false, wad, wr, ss⟩ : Wt).v))] a
          exact F.weak _ (subL_of kr)
        · exact ix_weak (T := [bk wr.g (wr.rest.toArray) 30]) (R := []) (H.perm List.perm_middle)
      · skip
        replace F : Fm 85 [] [(6, ni k), (0, sc ga oa ops.length c), (3, .bool true), (4, pt xb 0), (5, .slice wad 0 0)] a := F
        replace H : Hp [] w (s.blks xb ++ []) v := H
        refine C_seqK (fun K21 hK21 => ?_)
        refine C_seqK (fun K22 hK22 => ?_)
        refine C_region ?_
        refine T_k F H (ni k) ?_
        clear F; intro a F
        refine T_k F H (sc ga oa ops.length c) ?_
        clear F; intro a F
        refine T_k F H (ni ops.length) ?_
        clear F; intro a F
        refine T_val F H kr (.bool true) (fun w _ => R_bin (x := (.tmp 19)) (y := (.tmp 21)) rfl (k := .i64) (a := ((k : Nat) : Int)) (b := ((ops.length : Nat) : Int)) kr kr (i_lt (by omega)) w) ?_
        clear F; intro a F
        refine wpList_nil ?_
        refine hK22 _ _ ?_
        clear hK22
        try clear K22
        refine C_if F true rfl rfl ?_
        refine wp_skip ?_
        refine hK21 _ _ ?_
        clear hK21
        try clear K21
        refine C_seqK (fun K23 hK23 => ?_)
        refine wp_block ?_
        refine C_seqK (fun K24 hK24 => ?_)
        refine C_region ?_
        refine T_k F H (sc ga oa ops.length c) ?_
        clear F; intro a F
        refine T_k F H (ni k) ?_
        clear F; intro a F
        refine T_val F H kr (pt ga (oa + (k) * 6)) (fun w _ => R_indexS (k := .i64) (g := ga) (off := oa) (len := ops.length) (cap := c) (x := (.tmp 25)) (y := (.tmp 26)) rfl Try.underlying22 kr (k) kr (by omega) (sz := 6) kr w) ?_
        clear F; intro a F
        refine T_k F H (pt ga ((oa + (k) * 6) + 0)) ?_
        clear F; intro a F
        refine T_valK F H kr (.int .i64 op.do_) (fun w hk hl => R_ld (y := (.tmp 28)) rfl (g := ga) (off := ((oa + (k) * 6) + 0)) kr (opj_cell (j := 0) (hr.kept hk List.not_mem_nil) hop rfl) _ Try.underlying3 rfl) ?_
        clear F; intro a F
        refine T_val F H kr (.bool true) (fun w _ => R_bin (x := (.tmp 29)) (y := (.const (.int .i64 3))) rfl (k := .i64) (a := op.do_) (b := 3) kr kr (i_eqI'.trans (by rw [decide_eq_true (by omega)])) w) ?_
        clear F; intro a F
        refine wpList_nil ?_
        refine hK24 _ _ ?_
        clear hK24
        try clear K24
        refine C_if F true rfl rfl ?_
        refine C_seqK (fun K25 hK25 => ?_)
        refine C_region ?_
        refine T_k F H (pt xb 0) ?_
        clear F; intro a F
        refine T_call F H kr 9 #[pt xb 0] (ni (8 - s.U.length)) (fun w => kr) (room_S hs H) ?_
        clear F H; intro a v F H
        refine T_k F H (ni (8 - s.U.length)) ?_
        clear F; intro a F
        refine wpList_nil ?_
        refine hK25 _ _ ?_
        clear hK25
        try clear K25
        refine C_seqK (fun K26 hK26 => ?_)
        refine C_region ?_
        refine T_k F H (pt xb 0) ?_
        clear F; intro a F
        refine T_k F H (sc ga oa ops.length c) ?_
        clear F; intro a F
        refine T_k F H (ni k) ?_
        clear F; intro a F
        refine T_val F H kr (pt ga (oa + (k) * 6)) (fun w _ => R_indexS (k := .i64) (g := ga) (off := oa) (len := ops.length) (cap := c) (x := (.tmp 34)) (y := (.tmp 35)) rfl Try.underlying22 kr (k) kr (by omega) (sz := 6) kr w) ?_
        clear F; intro a F
        refine T_k F H (pt ga ((oa + (k) * 6) + 3)) ?_
        clear F; intro a F
        refine T_valK F H kr (.slice op.b.ad op.b.l.length op.b.c) (fun w hk hl => R_ld (y := (.tmp 37)) rfl (g := ga) (off := ((oa + (k) * 6) + 3)) kr (opj_cell (j := 3) (hr.kept hk List.not_mem_nil) hop rfl) _ Try.underlying30 rfl) ?_
        clear F; intro a F
        refine T_callX (α := InS) F H kr 10 #[pt xb 0, .slice op.b.ad op.b.l.length op.b.c] (fun rX => .int .i64 63) (fun rX => rX.blks xb ++ []) (fun rX => rX.ok ∧ rX.U = s.U ∧ rX.M = s.M) (fun w => kr) (fun w H => (put_S hs H op.b (ix_rd0 H hob)).mono fun _ _ ⟨s', q1, q2, q3⟩ => ⟨s', by rw [q1, if_pos h8], by rw [if_pos h8] at q2; exact q2, q3⟩) ?_
        clear F H; intro s27 a v Qs27 F H
        refine T_k F H (.int .i64 63) ?_
        clear F; intro a F
        refine wpList_nil ?_
        refine hK26 _ _ ?_
        clear hK26
        try clear K26
        refine C_seqK (fun K28 hK28 => ?_)
        refine C_seqK (fun K29 hK29 => ?_)
        refine C_region ?_
        refine T_k F H (.int .i64 63) ?_
        clear F; intro a F
        refine T_k F H (.bool false) ?_
        clear F; intro a F
        refine T_k F H (ni (8 - s.U.length)) ?_
        clear F; intro a F
        refine T_val F H kr (.bool false) (fun w _ => R_bin (x := (.tmp 42)) (y := (.const (.int .i64 0))) rfl (k := .i64) (a := (((8 - s.U.length) : Nat) : Int)) (b := ((0 : Nat) : Int)) kr kr (i_gtrd.trans (by rw [decide_eq_false (by omega)])) w) ?_
        clear F; intro a F
        refine T_k F H (.bool false) ?_
        clear F; intro a F
        refine wpList_nil ?_
        refine hK29 _ _ ?_
        clear hK29
        try clear K29
        refine C_if F false rfl rfl ?_
        refine wp_skip ?_
        refine hK28 _ _ ?_
        clear hK28
        try clear K28
        refine C_seqK (fun K30 hK30 => ?_)
        refine C_region ?_
        refine T_k F H (.int .i64 63) ?_
        clear F; intro a F
        refine T_k F H (.bool false) ?_
        clear F; intro a F
        refine wpList_nil ?_
        refine hK30 _ _ ?_
        clear hK30
        try clear K30
        refine C_if F false rfl rfl ?_
        refine wp_skip ?_
        refine hK23 _ _ ?_
        clear hK23
        try clear K23
        refine C_region ?_
        refine T_k F H (ni k) ?_
        clear F; intro a F
        refine T_val F H kr (ni (k + 1)) (fun w _ => R_bin (x := (.tmp 23)) (y := (.const (.int .i64 1))) rfl (k := .i64) (a := ((k : Nat) : Int)) (b := ((1 : Nat) : Int)) kr kr (i_addn64 (a := k) (b := 1) (by omega)) w) ?_
        clear F; intro a F
        refine T_k F H (ni (k + 1)) ?_
        clear F; intro a F
        refine wpList_nil ?_
        refine ⟨m, Nat.lt_succ_self m, k + 1, s27, ⟨true, wad, wr, ss⟩, by omega, ⟨Qs27.1, hw, by rw [Qs27.2.1]; exact hU⟩, ?_, ?_⟩
        · show Fm 85 [] [(6, ni (k + 1)), (0, sc ga oa ops.length c), (3, .bool true), (4, pt xb 0), (5, ((⟨true, wad, wr, ss⟩ : Wt).v))] a
          exact F.weak _ (subL_of kr)
        · exact ix_weak (T := []) H
    · cases wnb
      · skip
        replace F : Fm 85 [] [(6, ni k), (0, sc ga oa ops.length c), (3, .bool true), (4, pt xb 0), (5, sc wr.g wr.n ss.length wr.cap)] a := F
        replace H : Hp [] w ((bk wr.g (wr.rest.toArray) 30) :: (s.blks xb ++ [])) v := H
        have hOw : OwnO (ss.map Sv.v) wr ss.length := hw.own rfl
        replace hWl : ss.length = s.U.length := hWl
        refine C_seqK (fun K31 hK31 => ?_)
        refine C_seqK (fun K32 hK32 => ?_)
        refine C_region ?_
        refine T_k F H (ni k) ?_
        clear F; intro a F
        refine T_k F H (sc ga oa ops.length c) ?_
        clear F; intro a F
        refine T_k F H (ni ops.length) ?_
        clear F; intro a F
        refine T_val F H kr (.bool true) (fun w _ => R_bin (x := (.tmp 19)) (y := (.tmp 21)) rfl (k := .i64) (a := ((k : Nat) : Int)) (b := ((ops.length : Nat) : Int)) kr kr (i_lt (by omega)) w) ?_
        clear F; intro a F
        refine wpList_nil ?_
        refine hK32 _ _ ?_
        clear hK32
        try clear K32
        refine C_if F true rfl rfl ?_
        refine wp_skip ?_
        refine hK31 _ _ ?_
        clear hK31
        try clear K31
        refine C_seqK (fun K33 hK33 => ?_)
        refine wp_block ?_
        refine C_seqK (fun K34 hK34 => ?_)
        refine C_region ?_
        refine T_k F H (sc ga oa ops.length c) ?_
        clear F; intro a F
        refine T_k F H (ni k) ?_
        clear F; intro a F
        refine T_val F H kr (pt ga (oa + (k) * 6)) (fun w _ => R_indexS (k := .i64) (g := ga) (off := oa) (len := ops.length) (cap := c) (x := (.tmp 25)) (y := (.tmp 26)) rfl Try.underlying22 kr (k) kr (by omega) (sz := 6) kr w) ?_
        clear F; intro a F
        refine T_k F H (pt ga ((oa + (k) * 6) + 0)) ?_
        clear F; intro a F
        refine T_valK F H kr (.int .i64 op.do_) (fun w hk hl => R_ld (y := (.tmp 28)) rfl (g := ga) (off := ((oa + (k) * 6) + 0)) kr (opj_cell (j := 0) (hr.kept hk List.not_mem_nil) hop rfl) _ Try.underlying3 rfl) ?_
        clear F; intro a F
        refine T_val F H kr (.bool true) (fun w _ => R_bin (x := (.tmp 29)) (y := (.const (.int .i64 3))) rfl (k := .i64) (a := op.do_) (b := 3) kr kr (i_eqI'.trans (by rw [decide_eq_true (by omega)])) w) ?_
        clear F; intro a F
        refine wpList_nil ?_
        refine hK34 _ _ ?_
        clear hK34
        try clear K34
        refine C_if F true rfl rfl ?_
        refine C_seqK (fun K35 hK35 => ?_)
        refine C_region ?_
        refine T_k F H (pt xb 0) ?_
        clear F; intro a F
        replace H : Hp [] w (s.blks xb ++ ((bk wr.g (wr.rest.toArray) 30) :: [])) v := H.perm List.perm_middle.symm
        refine T_call F H kr 9 #[pt xb 0] (ni (8 - s.U.length)) (fun w => kr) (room_S hs H) ?_
        clear F H; intro a v F H
        refine T_k F H (ni (8 - s.U.length)) ?_
        clear F; intro a F
        refine wpList_nil ?_
        refine hK35 _ _ ?_
        clear hK35
        try clear K35
        refine C_seqK (fun K36 hK36 => ?_)
        refine C_region ?_
        refine T_k F H (pt xb 0) ?_
        clear F; intro a F
        refine T_k F H (sc ga oa ops.length c) ?_
        clear F; intro a F
        refine T_k F H (ni k) ?_
        clear F; intro a F
        refine T_val F H kr (pt ga (oa + (k) * 6)) (fun w _ => R_indexS (k := .i64) (g := ga) (off := oa) (len := ops.length) (cap := c) (x := (.tmp 34)) (y := (.tmp 35)) rfl Try.underlying22 kr (k) kr (by omega) (sz := 6) kr w) ?_
        clear F; intro a F
        refine T_k F H (pt ga ((oa + (k) * 6) + 3)) ?_
        clear F; intro a F
        refine T_valK F H kr (.slice op.b.ad op.b.l.length op.b.c) (fun w hk hl => R_ld (y := (.tmp 37)) rfl (g := ga) (off := ((oa + (k) * 6) + 3)) kr (opj_cell (j := 3) (hr.kept hk List.not_mem_nil) hop rfl) _ Try.underlying30 rfl) ?_
        clear F; intro a F
        refine T_callX (α := InS) F H kr 10 #[pt xb 0, .slice op.b.ad op.b.l.length op.b.c] (fun rX => .int .i64 0) (fun rX => rX.blks xb ++ ((bk wr.g (wr.rest.toArray) 30) :: [])) (fun rX => rX.ok ∧ rX.U = s.U ++ [op.b.l] ∧ rX.M = s.M) (fun w => kr) (fun w H => (put_S hs H op.b (ix_rd0 H hob)).mono fun _ _ ⟨s', q1, q2, q3⟩ => ⟨s', by rw [q1, if_neg (by omega)], by rw [if_neg (by omega)] at q2; exact q2, q3⟩) ?_
        clear F H; intro s37 a v Qs37 F H
        refine T_k F H (.int .i64 0) ?_
        clear F; intro a F
        refine wpList_nil ?_
        refine hK36 _ _ ?_
        clear hK36
        try clear K36
        refine C_seqK (fun K38 hK38 => ?_)
        refine C_seqK (fun K39 hK39 => ?_)
        refine C_region ?_
        refine T_k F H (.int .i64 0) ?_
        clear F; intro a F
        refine T_k F H (.bool true) ?_
        clear F; intro a F
        refine T_k F H (ni (8 - s.U.length)) ?_
        clear F; intro a F
        refine T_val F H kr (.bool true) (fun w _ => R_bin (x := (.tmp 42)) (y := (.const (.int .i64 0))) rfl (k := .i64) (a := (((8 - s.U.length) : Nat) : Int)) (b := ((0 : Nat) : Int)) kr kr (i_gtrd.trans (by rw [decide_eq_true (by omega)])) w) ?_
        clear F; intro a F
        refine T_k F H (.bool false) ?_
        clear F; intro a F
        refine wpList_nil ?_
        refine hK39 _ _ ?_
        clear hK39
        try clear K39
        refine C_if F false rfl rfl ?_
        refine wp_skip ?_
        refine hK38 _ _ ?_
        clear hK38
        try clear K38
        refine C_seqK (fun K40 hK40 => ?_)
        refine C_region ?_
        refine T_k F H (.int .i64 0) ?_
        clear F; intro a F
        refine T_k F H (.bool true) ?_
        clear F; intro a F
        refine wpList_nil ?_
        refine hK40 _ _ ?_
        clear hK40
        try clear K40
        refine C_if F true rfl rfl ?_
        replace H : Hp [] w ((bk wr.g (wr.rest.toArray) 30) :: (s37.blks xb ++ [])) v := H.perm List.perm_middle
        refine C_region ?_
        refine T_k F H (sc wr.g wr.n ss.length wr.cap) ?_
        clear F; intro a F
        refine T_k F H (sc ga oa ops.length c) ?_
        clear F; intro a F
        refine T_k F H (ni k) ?_
        clear F; intro a F
        refine T_val F H kr (pt ga (oa + (k) * 6)) (fun w _ => R_indexS (k := .i64) (g := ga) (off := oa) (len := ops.length) (cap := c) (x := (.tmp 48)) (y := (.tmp 49)) rfl Try.underlying22 kr (k) kr (by omega) (sz := 6) kr w) ?_
        clear F; intro a F
        refine T_k F H (pt ga ((oa + (k) * 6) + 3)) ?_
        clear F; intro a F
        refine T_valK F H kr (.slice op.b.ad op.b.l.length op.b.c) (fun w hk hl => R_ld (y := (.tmp 51)) rfl (g := ga) (off := ((oa + (k) * 6) + 3)) kr (opj_cell (j := 3) (hr.kept hk List.not_mem_nil) hop rfl) _ Try.underlying30 rfl) ?_
        clear F; intro a F
        refine T_new F H kr (fun ad => sc ad 0 1 1) (ce #[.slice op.b.ad op.b.l.length op.b.c] 30) (fun w => R_buildS (len := 1) rfl Try.underlying26 (#[.slice op.b.ad op.b.l.length op.b.c]) kr w) ?_
        clear F H; intro aq41 a v F H
        refine T_appO F H kr 26 30 (.tmp 47) (.tmp 53) rfl 24 kr kr 1 (r := wr) rfl hOw kr 1 [.slice op.b.ad op.b.l.length op.b.c] (fun w hk hl => (RdS.all (hl.at_ (k := 0) rfl) (Nat.le_refl _))) rfl (by intro u hu; rw [List.mem_singleton.1 hu]; rfl) (by simp only [maxLen]; omega) (by omega) _ rfl ?_
        clear F H; intro rq42 a v Qrq42 F H
        refine T_k F H (sc rq42.g rq42.n (ss.length + 1) rq42.cap) ?_
        clear F; intro a F
        refine wpList_nil ?_
        refine hK33 _ _ ?_
        clear hK33
        try clear K33
        refine C_region ?_
        refine T_k F H (ni k) ?_
        clear F; intro a F
        refine T_val F H kr (ni (k + 1)) (fun w _ => R_bin (x := (.tmp 23)) (y := (.const (.int .i64 1))) rfl (k := .i64) (a := ((k : Nat) : Int)) (b := ((1 : Nat) : Int)) kr kr (i_addn64 (a := k) (b := 1) (by omega)) w) ?_
        clear F; intro a F
        refine T_k F H (ni (k + 1)) ?_
        clear F; intro a F
        refine wpList_nil ?_
        replace H : Hp [] w ((bk rq42.g (rq42.rest.toArray) 30) :: (s37.blks xb ++ [])) v := Hp.pickT (A := [bk rq42.g (rq42.rest.toArray) 30, bk aq41 #[.slice op.b.ad op.b.l.length op.b.c] 30]) (R := (s37.blks xb ++ [])) H [0] kr _ rfl
        refine ⟨m, Nat.lt_succ_self m, k + 1, s37, (⟨false, none, rq42, (ss ++ [op.b])⟩ : Wt), by omega, ⟨Qs37.1, ⟨(fun h => by cases h), fun _ => (by rw [List.map_append, List.length_append]; exact Qrq42), (fun s' h' => (List.mem_append.1 h').elim (hw.each s') fun h' => by rw [List.mem_singleton.1 h']; exact hob)⟩, by rw [Qs37.2.1, hU]; show _ = (ss ++ [op.b]).map (·.l); rw [List.map_append]; rfl⟩, ?_, ?_⟩
        · show Fm 85 [] [(6, ni (k + 1)), (0, sc ga oa ops.length c), (3, .bool true), (4, pt xb 0), (5, (((⟨false, none, rq42, (ss ++ [op.b])⟩ : Wt) : Wt).v))] a
          show Fm _ _ [_, _, _, _, (5, .slice _ (ss ++ [op.b]).length _)] a
          rw [List.length_append]
          exact F.weak _ (subL_of kr)
        · exact H
      · skip
        replace F : Fm 85 [] [(6, ni k), (0, sc ga oa ops.length c), (3, .bool true), (4, pt xb 0), (5, .slice wad 0 0)] a := F
        replace H : Hp [] w (s.blks xb ++ []) v := H
        have h0 : ss = [] := hw.nil rfl
        subst h0
        refine C_seqK (fun K43 hK43 => ?_)
        refine C_seqK (fun K44 hK44 => ?_)
        refine C_region ?_
        refine T_k F H (ni k) ?_
        clear F; intro a F
        refine T_k F H (sc ga oa ops.length c) ?_
        clear F; intro a F
        refine T_k F H (ni ops.length) ?_
        clear F; intro a F
        refine T_val F H kr (.bool true) (fun w _ => R_bin (x := (.tmp 19)) (y := (.tmp 21)) rfl (k := .i64) (a := ((k : Nat) : Int)) (b := ((ops.length : Nat) : Int)) kr kr (i_lt (by omega)) w) ?_
        clear F; intro a F
        refine wpList_nil ?_
        refine hK44 _ _ ?_
        clear hK44
        try clear K44
        refine C_if F true rfl rfl ?_
        refine wp_skip ?_
        refine hK43 _ _ ?_
        clear hK43
        try clear K43
        refine C_seqK (fun K45 hK45 => ?_)
        refine wp_block ?_
        refine C_seqK (fun K46 hK46 => ?_)
        refine C_region ?_
        refine T_k F H (sc ga oa ops.length c) ?_
        clear F; intro a F
        refine T_k F H (ni k) ?_
        clear F; intro a F
        refine T_val F H kr (pt ga (oa + (k) * 6)) (fun w _ => R_indexS (k := .i64) (g := ga) (off := oa) (len := ops.length) (cap := c) (x := (.tmp 25)) (y := (.tmp 26)) rfl Try.underlying22 kr (k) kr (by omega) (sz := 6) kr w) ?_
        clear F; intro a F
        refine T_k F H (pt ga ((oa + (k) * 6) + 0)) ?_
        clear F; intro a F
        refine T_valK F H kr (.int .i64 op.do_) (fun w hk hl => R_ld (y := (.tmp 28)) rfl (g := ga) (off := ((oa + (k) * 6) + 0)) kr (opj_cell (j := 0) (hr.kept hk List.not_mem_nil) hop rfl) _ Try.underlying3 rfl) ?_
        clear F; intro a F
        refine T_val F H kr (.bool true) (fun w _ => R_bin (x := (.tmp 29)) (y := (.const (.int .i64 3))) rfl (k := .i64) (a := op.do_) (b := 3) kr kr (i_eqI'.trans (by rw [decide_eq_true (by omega)])) w) ?_
        clear F; intro a F
        refine wpList_nil ?_
        refine hK46 _ _ ?_
        clear hK46
        try clear K46
        refine C_if F true rfl rfl ?_
        refine C_seqK (fun K47 hK47 => ?_)
        refine C_region ?_
        refine T_k F H (pt xb 0) ?_
        clear F; intro a F
        refine T_call F H kr 9 #[pt xb 0] (ni (8 - s.U.length)) (fun w => kr) (room_S hs H) ?_
        clear F H; intro a v F H
        refine T_k F H (ni (8 - s.U.length)) ?_
        clear F; intro a F
        refine wpList_nil ?_
        refine hK47 _ _ ?_
        clear hK47
        try clear K47
        refine C_seqK (fun K48 hK48 => ?_)
        refine C_region ?_
        refine T_k F H (pt xb 0) ?_
        clear F; intro a F
        refine T_k F H (sc ga oa ops.length c) ?_
        clear F; intro a F
        refine T_k F H (ni k) ?_
        clear F; intro a F
        refine T_val F H kr (pt ga (oa + (k) * 6)) (fun w _ => R_indexS (k := .i64) (g := ga) (off := oa) (len := ops.length) (cap := c) (x := (.tmp 34)) (y := (.tmp 35)) rfl Try.underlying22 kr (k) kr (by omega) (sz := 6) kr w) ?_
        clear F; intro a F
        refine T_k F H (pt ga ((oa + (k) * 6) + 3)) ?_
        clear F; intro a F
        refine T_valK F H kr (.slice op.b.ad op.b.l.length op.b.c) (fun w hk hl => R_ld (y := (.tmp 37)) rfl (g := ga) (off := ((oa + (k) * 6) + 3)) kr (opj_cell (j := 3) (hr.kept hk List.not_mem_nil) hop rfl) _ Try.underlying30 rfl) ?_
        clear F; intro a F
        refine T_callX (α := InS) F H kr 10 #[pt xb 0, .slice op.b.ad op.b.l.length op.b.c] (fun rX => .int .i64 0) (fun rX => rX.blks xb ++ []) (fun rX => rX.ok ∧ rX.U = s.U ++ [op.b.l] ∧ rX.M = s.M) (fun w => kr) (fun w H => (put_S hs H op.b (ix_rd0 H hob)).mono fun _ _ ⟨s', q1, q2, q3⟩ => ⟨s', by rw [q1, if_neg (by omega)], by rw [if_neg (by omega)] at q2; exact q2, q3⟩) ?_
        clear F H; intro s49 a v Qs49 F H
        refine T_k F H (.int .i64 0) ?_
        clear F; intro a F
        refine wpList_nil ?_
        refine hK48 _ _ ?_
        clear hK48
        try clear K48
        refine C_seqK (fun K50 hK50 => ?_)
        refine C_seqK (fun K51 hK51 => ?_)
        refine C_region ?_
        refine T_k F H (.int .i64 0) ?_
        clear F; intro a F
        refine T_k F H (.bool true) ?_
        clear F; intro a F
        refine T_k F H (ni (8 - s.U.length)) ?_
        clear F; intro a F
        refine T_val F H kr (.bool true) (fun w _ => R_bin (x := (.tmp 42)) (y := (.const (.int .i64 0))) rfl (k := .i64) (a := (((8 - s.U.length) : Nat) : Int)) (b := ((0 : Nat) : Int)) kr kr (i_gtrd.trans (by rw [decide_eq_true (by omega)])) w) ?_
        clear F; intro a F
        refine T_k F H (.bool false) ?_
        clear F; intro a F
        refine wpList_nil ?_
        refine hK51 _ _ ?_
        clear hK51
        try clear K51
        refine C_if F false rfl rfl ?_
        refine wp_skip ?_
        refine hK50 _ _ ?_
        clear hK50
        try clear K50
        refine C_seqK (fun K52 hK52 => ?_)
        refine C_region ?_
        refine T_k F H (.int .i64 0) ?_
        clear F; intro a F
        refine T_k F H (.bool true) ?_
        clear F; intro a F
        refine wpList_nil ?_
        refine hK52 _ _ ?_
        clear hK52
        try clear K52
        refine C_if F true rfl rfl ?_
        refine C_region ?_
        refine T_k F H (.slice wad 0 0) ?_
        clear F; intro a F
        refine T_k F H (sc ga oa ops.length c) ?_
        clear F; intro a F
        refine T_k F H (ni k) ?_
        clear F; intro a F
        refine T_val F H kr (pt ga (oa + (k) * 6)) (fun w _ => R_indexS (k := .i64) (g := ga) (off := oa) (len := ops.length) (cap := c) (x := (.tmp 48)) (y := (.tmp 49)) rfl Try.underlying22 kr (k) kr (by omega) (sz := 6) kr w) ?_
        clear F; intro a F
        refine T_k F H (pt ga ((oa + (k) * 6) + 3)) ?_
        clear F; intro a F
        refine T_valK F H kr (.slice op.b.ad op.b.l.length op.b.c) (fun w hk hl => R_ld (y := (.tmp 51)) rfl (g := ga) (off := ((oa + (k) * 6) + 3)) kr (opj_cell (j := 3) (hr.kept hk List.not_mem_nil) hop rfl) _ Try.underlying30 rfl) ?_
        clear F; intro a F
        refine T_new F H kr (fun ad => sc ad 0 1 1) (ce #[.slice op.b.ad op.b.l.length op.b.c] 30) (fun w => R_buildS (len := 1) rfl Try.underlying26 (#[.slice op.b.ad op.b.l.length op.b.c]) kr w) ?_
        clear F H; intro aq53 a v F H
        refine T_appO0 F H kr 26 30 (.tmp 47) (.tmp 53) rfl 24 kr kr wad kr 1 [.slice op.b.ad op.b.l.length op.b.c] (fun w hk hl => (RdS.all (hl.at_ (k := 0) rfl) (Nat.le_refl _))) rfl (by intro u hu; rw [List.mem_singleton.1 hu]; rfl) (by decide) (by simp only [maxLen]; decide) (by decide) ?_
        clear F H; intro rq54 a v Qrq54 F H
        refine T_k F H (sc rq54.g rq54.n 1 rq54.cap) ?_
        clear F; intro a F
        refine wpList_nil ?_
        refine hK45 _ _ ?_
        clear hK45
        try clear K45
        refine C_region ?_
        refine T_k F H (ni k) ?_
        clear F; intro a F
        refine T_val F H kr (ni (k + 1)) (fun w _ => R_bin (x := (.tmp 23)) (y := (.const (.int .i64 1))) rfl (k := .i64) (a := ((k : Nat) : Int)) (b := ((1 : Nat) : Int)) kr kr (i_addn64 (a := k) (b := 1) (by omega)) w) ?_
        clear F; intro a F
        refine T_k F H (ni (k + 1)) ?_
        clear F; intro a F
        refine wpList_nil ?_
        replace H : Hp [] w ((bk rq54.g (rq54.rest.toArray) 30) :: (s49.blks xb ++ [])) v := Hp.pickT (A := [bk rq54.g (rq54.rest.toArray) 30, bk aq53 #[.slice op.b.ad op.b.l.length op.b.c] 30]) (R := (s49.blks xb ++ [])) H [0] kr _ rfl
        refine ⟨m, Nat.lt_succ_self m, k + 1, s49, (⟨false, none, rq54, [op.b]⟩ : Wt), by omega, ⟨Qs49.1, ⟨(fun h => by cases h), fun _ => Qrq54, (fun s' h' => by rw [List.mem_singleton.1 h']; exact hob)⟩, by rw [Qs49.2.1, hU]; rfl⟩, ?_, ?_⟩
        · show Fm 85 [] [(6, ni (k + 1)), (0, sc ga oa ops.length c), (3, .bool true), (4, pt xb 0), (5, (((⟨false, none, rq54, [op.b]⟩ : Wt) : Wt).v))] a
          exact F.weak _ (subL_of kr)
        · exact H
    · rcases hUs : s.U with _ | ⟨u, us⟩
      · have h0 : ss = [] := List.length_eq_zero_iff.1 (by rw [hUs] at hWl; exact hWl)
        subst h0
        cases wnb
        · skip
          replace F : Fm 85 [] [(6, ni k), (0, sc ga oa ops.length c), (3, .bool true), (4, pt xb 0), (5, sc wr.g wr.n ([] : List Sv).length wr.cap)] a := F
          replace H : Hp [] w ((bk wr.g (wr.rest.toArray) 30) :: (s.blks xb ++ [])) v := H
          replace F : Fm 85 [] [(6, ni k), (0, sc ga oa ops.length c), (3, .bool true), (4, pt xb 0), (5, sc wr.g wr.n 0 wr.cap)] a := F
          refine C_seqK (fun K55 hK55 => ?_)
          refine C_seqK (fun K56 hK56 => ?_)
          refine C_region ?_
          refine T_k F H (ni k) ?_
          clear F; intro a F
          refine T_k F H (sc ga oa ops.length c) ?_
          clear F; intro a F
          refine T_k F H (ni ops.length) ?_
          clear F; intro a F
          refine T_val F H kr (.bool true) (fun w _ => R_bin (x := (.tmp 19)) (y := (.tmp 21)) rfl (k := .i64) (a := ((k : Nat) : Int)) (b := ((ops.length : Nat) : Int)) kr kr (i_lt (by omega)) w) ?_
          clear F; intro a F
          refine wpList_nil ?_
          refine hK56 _ _ ?_
          clear hK56
          try clear K56
          refine C_if F true rfl rfl ?_
          refine wp_skip ?_
          refine hK55 _ _ ?_
          clear hK55
          try clear K55
          refine C_seqK (fun K57 hK57 => ?_)
          refine wp_block ?_
          refine C_seqK (fun K58 hK58 => ?_)
          refine C_region ?_
          refine T_k F H (sc ga oa ops.length c) ?_
          clear F; intro a F
          refine T_k F H (ni k) ?_
          clear F; intro a F
          refine T_val F H kr (pt ga (oa + (k) * 6)) (fun w _ => R_indexS (k := .i64) (g := ga) (off := oa) (len := ops.length) (cap := c) (x := (.tmp 25)) (y := (.tmp 26)) rfl Try.underlying22 kr (k) kr (by omega) (sz := 6) kr w) ?_
          clear F; intro a F
          refine T_k F H (pt ga ((oa + (k) * 6) + 0)) ?_
          clear F; intro a F
          refine T_valK F H kr (.int .i64 op.do_) (fun w hk hl => R_ld (y := (.tmp 28)) rfl (g := ga) (off := ((oa + (k) * 6) + 0)) kr (opj_cell (j := 0) (hr.kept hk List.not_mem_nil) hop rfl) _ Try.underlying3 rfl) ?_
          clear F; intro a F
          refine T_val F H kr (.bool false) (fun w _ => R_bin (x := (.tmp 29)) (y := (.const (.int .i64 3))) rfl (k := .i64) (a := op.do_) (b := 3) kr kr (i_eqI'.trans (by rw [decide_eq_false (by omega)])) w) ?_
          clear F; intro a F
          refine wpList_nil ?_
          refine hK58 _ _ ?_
          clear hK58
          try clear K58
          refine C_if F false rfl rfl ?_
          refine C_seqK (fun K59 hK59 => ?_)
          refine C_region ?_
          refine T_k F H (pt xb 0) ?_
          clear F; intro a F
          replace H : Hp [] w (s.blks xb ++ ((bk wr.g (wr.rest.toArray) 30) :: [])) v := H.perm List.perm_middle.symm
          refine T_call F H kr 11 #[pt xb 0] (.tuple #[.slice none 0 0, .int .i64 90]) (fun w => kr) (fetch_S0 hs hUs H) ?_
          clear F H; intro a v F H
          refine T_k F H (.tuple #[.slice none 0 0, .int .i64 90]) ?_
          clear F; intro a F
          refine T_k F H (.slice none 0 0) ?_
          clear F; intro a F
          refine T_k F H (.int .i64 90) ?_
          clear F; intro a F
          refine T_k F H (.slice none 0 0) ?_
          clear F; intro a F
          refine T_k F H (.int .i64 90) ?_
          clear F; intro a F
          refine wpList_nil ?_
          refine hK59 _ _ ?_
          clear hK59
          try clear K59
          refine C_seqK (fun K60 hK60 => ?_)
          refine C_seqK (fun K61 hK61 => ?_)
          refine C_region ?_
          refine T_k F H (.int .i64 90) ?_
          clear F; intro a F
          refine T_k F H (.bool false) ?_
          clear F; intro a F
          refine T_k F H (sc wr.g wr.n 0 wr.cap) ?_
          clear F; intro a F
          refine T_k F H (ni 0) ?_
          clear F; intro a F
          refine T_k F H (.bool false) ?_
          clear F; intro a F
          refine T_k F H (.bool false) ?_
          clear F; intro a F
          refine wpList_nil ?_
          refine hK61 _ _ ?_
          clear hK61
          try clear K61
          refine C_if F false rfl rfl ?_
          refine wp_skip ?_
          refine hK60 _ _ ?_
          clear hK60
          try clear K60
          refine C_seqK (fun K62 hK62 => ?_)
          refine C_region ?_
          refine T_k F H (sc wr.g wr.n 0 wr.cap) ?_
          clear F; intro a F
          refine T_k F H (ni 0) ?_
          clear F; intro a F
          refine T_k F H (.bool false) ?_
          clear F; intro a F
          refine wpList_nil ?_
          refine hK62 _ _ ?_
          clear hK62
          try clear K62
          refine C_if F false rfl rfl ?_
          refine wp_skip ?_
          refine hK57 _ _ ?_
          clear hK57
          try clear K57
          refine C_region ?_
          refine T_k F H (ni k) ?_
          clear F; intro a F
          refine T_val F H kr (ni (k + 1)) (fun w _ => R_bin (x := (.tmp 23)) (y := (.const (.int .i64 1))) rfl (k := .i64) (a := ((k : Nat) : Int)) (b := ((1 : Nat) : Int)) kr kr (i_addn64 (a := k) (b := 1) (by omega)) w) ?_
          clear F; intro a F
          refine T_k F H (ni (k + 1)) ?_
          clear F; intro a F
          refine wpList_nil ?_
          refine ⟨m, Nat.lt_succ_self m, k + 1, s, ⟨false, wad, wr, []⟩, by omega, ⟨hs, hw, hU⟩, ?_, ?_⟩
          · show Fm 85 [] [(6, ni (k + 1)), (0, sc ga oa ops.length c), (3, .bool true), (4, pt xb 0), (5, ((⟨false, wad, wr, []⟩ : Wt).v))] a
            exact F.weak _ (subL_of kr)
          · exact ix_weak (T := [bk wr.g (wr.rest.toArray) 30]) (R := []) (H.perm List.perm_middle)
        · skip
          replace F : Fm 85 [] [(6, ni k), (0, sc ga oa ops.length c), (3, .bool true), (4, pt xb 0), (5, .slice wad 0 0)] a := F
          replace H : Hp [] w (s.blks xb ++ []) v := H
          refine C_seqK (fun K63 hK63 => ?_)
          refine C_seqK (fun K64 hK64 => ?_)
          refine C_region ?_
          refine T_k F H (ni k) ?_
          clear F; intro a F
          refine T_k F H (sc ga oa ops.length c) ?_
          clear F; intro a F
          refine T_k F H (ni ops.length) ?_
          clear F; intro a F
          refine T_val F H kr (.bool true) (fun w _ => R_bin (x := (.tmp 19)) (y := (.tmp 21)) rfl (k := .i64) (a := ((k : Nat) : Int)) (b := ((ops.length : Nat) : Int)) kr kr (i_lt (by omega)) w) ?_
          clear F; intro a F
          refine wpList_nil ?_
          refine hK64 _ _ ?_
          clear hK64
          try clear K64
          refine C_if F true rfl rfl ?_
          refine wp_skip ?_
          refine hK63 _ _ ?_
          clear hK63
          try clear K63
          refine C_seqK (fun K65 hK65 => ?_)
          refine wp_block ?_
          refine C_seqK (fun K66 hK66 => ?_)
          refine C_region ?_
          refine T_k F H (sc ga oa ops.length c) ?_
          clear F; intro a F
          refine T_k F H (ni k) ?_
          clear F; intro a F
          refine T_val F H kr (pt ga (oa + (k) * 6)) (fun w _ => R_indexS (k := .i64) (g := ga) (off := oa) (len := ops.length) (cap := c) (x := (.tmp 25)) (y := (.tmp 26)) rfl Try.underlying22 kr (k) kr (by omega) (sz := 6) kr w) ?_
          clear F; intro a F
          refine T_k F H (pt ga ((oa + (k) * 6) + 0)) ?_
          clear F; intro a F
          refine T_valK F H kr (.int .i64 op.do_) (fun w hk hl => R_ld (y := (.tmp 28)) rfl (g := ga) (off := ((oa + (k) * 6) + 0)) kr (opj_cell (j := 0) (hr.kept hk List.not_mem_nil) hop rfl) _ Try.underlying3 rfl) ?_
          clear F; intro a F
          refine T_val F H kr (.bool false) (fun w _ => R_bin (x := (.tmp 29)) (y := (.const (.int .i64 3))) rfl (k := .i64) (a := op.do_) (b := 3) kr kr (i_eqI'.trans (by rw [decide_eq_false (by omega)])) w) ?_
          clear F; intro a F
          refine wpList_nil ?_
          refine hK66 _ _ ?_
          clear hK66
          try clear K66
          refine C_if F false rfl rfl ?_
          refine C_seqK (fun K67 hK67 => ?_)
          refine C_region ?_
          refine T_k F H (pt xb 0) ?_
          clear F; intro a F
          refine T_call F H kr 11 #[pt xb 0] (.tuple #[.slice none 0 0, .int .i64 90]) (fun w => kr) (fetch_S0 hs hUs H) ?_
          clear F H; intro a v F H
          refine T_k F H (.tuple #[.slice none 0 0, .int .i64 90]) ?_
          clear F; intro a F
          refine T_k F H (.slice none 0 0) ?_
          clear F; intro a F
          refine T_k F H (.int .i64 90) ?_
          clear F; intro a F
          refine T_k F H (.slice none 0 0) ?_
          clear F; intro a F
          refine T_k F H (.int .i64 90) ?_
          clear F; intro a F
          refine wpList_nil ?_
          refine hK67 _ _ ?_
          clear hK67
          try clear K67
          refine C_seqK (fun K68 hK68 => ?_)
          refine C_seqK (fun K69 hK69 => ?_)
          refine C_region ?_
          refine T_k F H (.int .i64 90) ?_
          clear F; intro a F
          refine T_k F H (.bool false) ?_
          clear F; intro a F
          refine T_k F H (.slice wad 0 0) ?_
          clear F; intro a F
          refine T_k F H (ni 0) ?_
          clear F; intro a F
          refine T_k F H (.bool false) ?_
          clear F; intro a F
          refine T_k F H (.bool false) ?_
          clear F; intro a F
          refine wpList_nil ?_
          refine hK69 _ _ ?_
          clear hK69
          try clear K69
          refine C_if F false rfl rfl ?_
          refine wp_skip ?_
          refine hK68 _ _ ?_
          clear hK68
          try clear K68
          refine C_seqK (fun K70 hK70 => ?_)
          refine C_region ?_
          refine T_k F H (.slice wad 0 0) ?_
          clear F; intro a F
          refine T_k F H (ni 0) ?_
          clear F; intro a F
          refine T_k F H (.bool false) ?_
          clear F; intro a F
          refine wpList_nil ?_
          refine hK70 _ _ ?_
          clear hK70
          try clear K70
          refine C_if F false rfl rfl ?_
          refine wp_skip ?_
          refine hK65 _ _ ?_
          clear hK65
          try clear K65
          refine C_region ?_
          refine T_k F H (ni k) ?_
          clear F; intro a F
          refine T_val F H kr (ni (k + 1)) (fun w _ => R_bin (x := (.tmp 23)) (y := (.const (.int .i64 1))) rfl (k := .i64) (a := ((k : Nat) : Int)) (b := ((1 : Nat) : Int)) kr kr (i_addn64 (a := k) (b := 1) (by omega)) w) ?_
          clear F; intro a F
          refine T_k F H (ni (k + 1)) ?_
          clear F; intro a F
          refine wpList_nil ?_
          refine ⟨m, Nat.lt_succ_self m, k + 1, s, ⟨true, wad, wr, []⟩, by omega, ⟨hs, hw, hU⟩, ?_, ?_⟩
          · show Fm 85 [] [(6, ni (k + 1)), (0, sc ga oa ops.length c), (3, .bool true), (4, pt xb 0), (5, ((⟨true, wad, wr, []⟩ : Wt).v))] a
            exact F.weak _ (subL_of kr)
          · exact ix_weak (T := []) H
      · rcases ss with _ | ⟨s1, ss⟩
        · rw [hUs] at hWl; cases hWl
        · cases wnb
          · have hOw : OwnO (s1.v :: ss.map Sv.v) wr (ss.length + 1) := hw.own rfl
            have hu1 : u = s1.l ∧ us = ss.map (·.l) := by have : u :: us = s1.l :: ss.map (·.l) := hUs.symm.trans hU; simpa using this
            have hr1 := hw.each s1 (List.mem_cons_self ..)
            replace F : Fm 85 [] [(6, ni k), (0, sc ga oa ops.length c), (3, .bool true), (4, pt xb 0), (5, sc wr.g wr.n (s1 :: ss).length wr.cap)] a := F
            replace H : Hp [] w ((bk wr.g (wr.rest.toArray) 30) :: (s.blks xb ++ [])) v := H
            replace F : Fm 85 [] [(6, ni k), (0, sc ga oa ops.length c), (3, .bool true), (4, pt xb 0), (5, sc wr.g wr.n (ss.length + 1) wr.cap)] a := F
            refine C_seqK (fun K71 hK71 => ?_)
            refine C_seqK (fun K72 hK72 => ?_)
            refine C_region ?_
            refine T_k F H (ni k) ?_
            clear F; intro a F
            refine T_k F H (sc ga oa ops.length c) ?_
            clear F; intro a F
            refine T_k F H (ni ops.length) ?_
            clear F; intro a F
            refine T_val F H kr (.bool true) (fun w _ => R_bin (x := (.tmp 19)) (y := (.tmp 21)) rfl (k := .i64) (a := ((k : Nat) : Int)) (b := ((ops.length : Nat) : Int)) kr kr (i_lt (by omega)) w) ?_
            clear F; intro a F
            refine wpList_nil ?_
            refine hK72 _ _ ?_
            clear hK72
            try clear K72
            refine C_if F true rfl rfl ?_
            refine wp_skip ?_
            refine hK71 _ _ ?_
            clear hK71
            try clear K71
            refine C_seqK (fun K73 hK73 => ?_)
            refine wp_block ?_
            refine C_seqK (fun K74 hK74 => ?_)
            refine C_region ?_
            refine T_k F H (sc ga oa ops.length c) ?_
            clear F; intro a F
            refine T_k F H (ni k) ?_
            clear F; intro a F
            refine T_val F H kr (pt ga (oa + (k) * 6)) (fun w _ => R_indexS (k := .i64) (g := ga) (off := oa) (len := ops.length) (cap := c) (x := (.tmp 25)) (y := (.tmp 26)) rfl Try.underlying22 kr (k) kr (by omega) (sz := 6) kr w) ?_
            clear F; intro a F
            refine T_k F H (pt ga ((oa + (k) * 6) + 0)) ?_
            clear F; intro a F
            refine T_valK F H kr (.int .i64 op.do_) (fun w hk hl => R_ld (y := (.tmp 28)) rfl (g := ga) (off := ((oa + (k) * 6) + 0)) kr (opj_cell (j := 0) (hr.kept hk List.not_mem_nil) hop rfl) _ Try.underlying3 rfl) ?_
            clear F; intro a F
            refine T_val F H kr (.bool false) (fun w _ => R_bin (x := (.tmp 29)) (y := (.const (.int .i64 3))) rfl (k := .i64) (a := op.do_) (b := 3) kr kr (i_eqI'.trans (by rw [decide_eq_false (by omega)])) w) ?_
            clear F; intro a F
            refine wpList_nil ?_
            refine hK74 _ _ ?_
            clear hK74
            try clear K74
            refine C_if F false rfl rfl ?_
            refine C_seqK (fun K75 hK75 => ?_)
            refine C_region ?_
            refine T_k F H (pt xb 0) ?_
            clear F; intro a F
            replace H : Hp [] w (s.blks xb ++ ((bk wr.g (wr.rest.toArray) 30) :: [])) v := H.perm List.perm_middle.symm
            refine T_callX (α := InS × Cl) F H kr 11 #[pt xb 0] (fun rX => .tuple #[rX.2.v, .int .i64 0]) (fun rX => rX.1.blks xb ++ (rX.2.blks ++ ((bk wr.g (wr.rest.toArray) 30) :: []))) (fun rX => rX.1.ok ∧ rX.2.ok ∧ rX.2.l = u ∧ rX.1.U = us ∧ rX.1.M = s.M) (fun w => kr) (fun w H => fetch_S hs hUs H) ?_
            clear F H; intro s76 a v Qs76 F H
            obtain ⟨s76, cs76⟩ := s76
            dsimp only at Qs76
            obtain ⟨hs76, hcs76, hls76, hus76, hms76⟩ := Qs76
            replace F : Fm 85 [] [(57, .tuple #[cs76.v, .int .i64 0]), (56, pt xb 0), (30, .bool false), (29, .int .i64 op.do_), (28, pt ga ((oa + (k) * 6) + 0)), (27, pt ga (oa + (k) * 6)), (26, ni k), (25, sc ga oa ops.length c), (22, .bool true), (21, ni ops.length), (20, sc ga oa ops.length c), (19, ni k), (6, ni k), (0, sc ga oa ops.length c), (3, .bool true), (4, pt xb 0), (5, sc wr.g wr.n (ss.length + 1) wr.cap)] a := F.weak _ (subL_of kr)
            replace H : Hp [] w ((bk wr.g (wr.rest.toArray) 30) :: ((s76.blks xb ++ cs76.blks) ++ [])) v := by
              have H' : Hp [] w (((s76.blks xb ++ cs76.blks)) ++ ((bk wr.g (wr.rest.toArray) 30) :: [])) v := by rw [List.append_assoc]; exact H
              exact H'.perm List.perm_middle
            refine T_k F H (.tuple #[cs76.v, .int .i64 0]) ?_
            clear F; intro a F
            refine T_k F H (cs76.v) ?_
            clear F; intro a F
            refine T_k F H (.int .i64 0) ?_
            clear F; intro a F
            refine T_k F H (cs76.v) ?_
            clear F; intro a F
            refine T_k F H (.int .i64 0) ?_
            clear F; intro a F
            refine wpList_nil ?_
            refine hK75 _ _ ?_
            clear hK75
            try clear K75
            refine C_seqK (fun K77 hK77 => ?_)
            refine C_seqK (fun K78 hK78 => ?_)
            refine C_region ?_
            refine T_k F H (.int .i64 0) ?_
            clear F; intro a F
            refine T_k F H (.bool true) ?_
            clear F; intro a F
            refine T_k F H (sc wr.g wr.n (ss.length + 1) wr.cap) ?_
            clear F; intro a F
            refine T_k F H (ni (ss.length + 1)) ?_
            clear F; intro a F
            refine T_val F H kr (.bool true) (fun w _ => R_bin (x := (.tmp 63)) (y := (.const (.int .i64 0))) rfl (k := .i64) (a := (((ss.length + 1) : Nat) : Int)) (b := ((0 : Nat) : Int)) kr kr (i_gtrd.trans (by rw [decide_eq_true (by omega)])) w) ?_
            clear F; intro a F
            refine T_k F H (.bool false) ?_
            clear F; intro a F
            refine wpList_nil ?_
            refine hK78 _ _ ?_
            clear hK78
            try clear K78
            refine C_if F false rfl rfl ?_
            refine wp_skip ?_
            refine hK77 _ _ ?_
            clear hK77
            try clear K77
            refine C_seqK (fun K79 hK79 => ?_)
            refine C_region ?_
            refine T_k F H (sc wr.g wr.n (ss.length + 1) wr.cap) ?_
            clear F; intro a F
            refine T_k F H (ni (ss.length + 1)) ?_
            clear F; intro a F
            refine T_val F H kr (.bool true) (fun w _ => R_bin (x := (.tmp 67)) (y := (.const (.int .i64 0))) rfl (k := .i64) (a := (((ss.length + 1) : Nat) : Int)) (b := ((0 : Nat) : Int)) kr kr (i_gtrd.trans (by rw [decide_eq_true (by omega)])) w) ?_
            clear F; intro a F
            refine wpList_nil ?_
            refine hK79 _ _ ?_
            clear hK79
            try clear K79
            refine C_if F true rfl rfl ?_
            refine C_seqK (fun K80 hK80 => ?_)
            refine C_seqK (fun K81 hK81 => ?_)
            refine C_region ?_
            refine T_k F H (cs76.v) ?_
            clear F; intro a F
            refine T_k F H (sc wr.g wr.n (ss.length + 1) wr.cap) ?_
            clear F; intro a F
            refine T_val F H kr (pt wr.g (wr.n + (0) * 1)) (fun w _ => R_indexS (k := .i64) (g := wr.g) (off := wr.n) (len := (ss.length + 1)) (cap := wr.cap) (x := (.tmp 70)) (y := (.const (.int .i64 0))) rfl Try.underlying26 kr (0) kr (by omega) (sz := 1) kr w) ?_
            clear F; intro a F
            refine T_val F H kr (.slice s1.ad s1.l.length s1.c) (R_cell (own := true) (g := wr.g) (all := (wr.rest.toArray)) (t := 30) (fr := (0, 0)) 0 kr 30 (.tmp 71) rfl (wr.n + (0) * 1) kr (.slice s1.ad s1.l.length s1.c) (hOw.at_ (k := 0) rfl) _ Try.underlying30 rfl) ?_
            clear F; intro a F
            refine T_call F H kr 12 #[cs76.v, .slice s1.ad s1.l.length s1.c] (.bool true) (fun w => kr) (same_true cs76.sv s1 (Cl.sv_v hcs76) rfl (cs76.rd hcs76 (fun p hp => H.held p (by simp only [List.mem_append, List.mem_cons, hp, true_or, or_true]))) (hr1.kept H.kept) (by rw [Cl.sv_l, hls76, hu1.1])) ?_
            clear F H; intro a v F H
            refine T_k F H (.bool false) ?_
            clear F; intro a F
            refine wpList_nil ?_
            refine hK81 _ _ ?_
            clear hK81
            try clear K81
            refine C_if F false rfl rfl ?_
            refine wp_skip ?_
            refine hK80 _ _ ?_
            clear hK80
            try clear K80
            refine C_region ?_
            refine T_k F H (sc wr.g wr.n (ss.length + 1) wr.cap) ?_
            clear F; intro a F
            refine T_val F H kr (.slice (if wr.cap = 1 then some ⟨wr.g, wr.n, none⟩ else some ⟨wr.g, wr.n + 1, none⟩) ss.length (wr.cap - 1)) (fun w _ => R_slice (x := (.tmp 75)) (lo := (some (.const (.int .i64 1)))) (hi := none) rfl Try.underlying26 (ad := some ⟨wr.g, wr.n, none⟩) (len := (ss.length + 1)) (cap := wr.cap) kr (1) ((ss.length + 1)) ⟨.i64, kr⟩ rfl (by omega) hOw.le (sz := 1) kr _ sliceOne w) ?_
            clear F; intro a F
            refine T_k F H (.slice (if wr.cap = 1 then some ⟨wr.g, wr.n, none⟩ else some ⟨wr.g, wr.n + 1, none⟩) ss.length (wr.cap - 1)) ?_
            clear F; intro a F
            refine wpList_nil ?_
            refine hK73 _ _ ?_
            clear hK73
            try clear K73
            refine C_region ?_
            refine T_k F H (ni k) ?_
            clear F; intro a F
            refine T_val F H kr (ni (k + 1)) (fun w _ => R_bin (x := (.tmp 23)) (y := (.const (.int .i64 1))) rfl (k := .i64) (a := ((k : Nat) : Int)) (b := ((1 : Nat) : Int)) kr kr (i_addn64 (a := k) (b := 1) (by omega)) w) ?_
            clear F; intro a F
            refine T_k F H (ni (k + 1)) ?_
            clear F; intro a F
            refine wpList_nil ?_
            replace F : Fm 85 [] [(6, ni (k + 1)), (0, sc ga oa ops.length c), (3, .bool true), (4, pt xb 0), (5, .slice (if wr.cap = 1 then some ⟨wr.g, wr.n, none⟩ else some ⟨wr.g, wr.n + 1, none⟩) ss.length (wr.cap - 1))] a := F.weak _ (subL_of kr)
            have H2 : Hp [] w ([bk wr.g (wr.rest.toArray) 30] ++ (s76.blks xb ++ [])) v := ix_weak (T := [bk wr.g (wr.rest.toArray) 30]) (R := cs76.blks ++ []) (by rw [List.append_assoc] at H; exact H)
            by_cases hcap : wr.cap = 1
            · have hn0 : ss = [] := by have := hOw.le; exact List.length_eq_zero_iff.1 (by omega)
              subst hn0
              rw [if_pos hcap, hcap] at F
              exact ⟨m, Nat.lt_succ_self m, k + 1, s76, (⟨true, some ⟨wr.g, wr.n, none⟩, wr, []⟩ : Wt), by omega, ⟨hs76, ⟨fun _ => rfl, (fun h => by cases h), fun s' h' => by cases h'⟩, by rw [hus76, hu1.2]⟩, F, H2.weak (List.sublist_append_right _ _)⟩
            · rw [if_neg hcap] at F
              exact ⟨m, Nat.lt_succ_self m, k + 1, s76, (⟨false, none, ⟨wr.g, wr.cap - 1, wr.rest, wr.n + 1⟩, ss⟩ : Wt), by omega, ⟨hs76, ⟨(fun h => by cases h), fun _ => hOw.tail, fun s' h' => hw.each s' (List.mem_cons_of_mem _ h')⟩, by rw [hus76, hu1.2]⟩, F, H2⟩
          · have h0 : s1 :: ss = [] := hw.nil rfl
            cases h0
  have hU8 : s.U.length ≤ 8 := by rw [InS.U_len]; exact hs.room
  have hWl : wt.ss.length = s.U.length := by rw [hU, List.length_map]
  replace H : Hp [] w (s.blks xb ++ wt.blks) v := (by have := H; rw [List.append_nil] at this; exact this.perm List.perm_append_comm)
  refine C_seqK (fun K82 hK82 => ?_)
  refine C_seqK (fun K83 hK83 => ?_)
  refine C_region ?_
  refine T_k F H (ni k) ?_
  clear F; intro a F
  refine T_k F H (.slice la ops.length c) ?_
  clear F; intro a F
  refine T_k F H (ni ops.length) ?_
  clear F; intro a F
  refine T_val F H kr (.bool false) (fun w _ => R_bin (x := (.tmp 19)) (y := (.tmp 21)) rfl (k := .i64) (a := ((k : Nat) : Int)) (b := ((ops.length : Nat) : Int)) kr kr (i_nlt (by omega)) w) ?_
  clear F; intro a F
  refine wpList_nil ?_
  refine hK83 _ _ ?_
  clear hK83
  try clear K83
  refine C_if F false rfl rfl ?_
  refine wp_exit ?_
  refine hK9 _ _ ?_
  clear hK9
  try clear K9
  refine C_seqK (fun K84 hK84 => ?_)
  refine C_region ?_
  refine T_k F H (pt xb 0) ?_
  clear F; intro a F
  refine T_callX (α := Ls) F H kr 13 #[pt xb 0] (fun rX => rX.v) (fun rX => s.blks xb ++ (rX.blks ++ wt.blks)) (fun rX => rX.ok ∧ rX.ls = s.U ∧ rX.cs.length ≤ 8) (fun w => kr) (fun w H => unread_S hs H) ?_
  clear F H; intro s85 a v Qs85 F H
  replace F : Fm 85 [] [(78, (s85.v)), (77, pt xb 0), (22, .bool false), (21, ni ops.length), (20, .slice la ops.length c), (19, ni k), (6, ni k), (0, .slice la ops.length c), (3, .bool true), (4, pt xb 0), (5, (wt.v))] a := F.weak _ (subL_of kr)
  replace H : Hp [] w (s.blks xb ++ (s85.blks ++ wt.blks)) v := H
  refine T_k F H ((s85.v)) ?_
  clear F; intro a F
  refine wpList_nil ?_
  refine hK84 _ _ ?_
  clear hK84
  try clear K84
  refine C_seqK (fun K86 hK86 => ?_)
  refine C_region ?_
  refine T_k F H (.bool true) ?_
  clear F; intro a F
  refine T_k F H (.bool true) ?_
  clear F; intro a F
  refine T_k F H ((s85.v)) ?_
  clear F; intro a F
  refine T_k F H ((wt.v)) ?_
  clear F; intro a F
  refine T_call F H kr 14 #[(s85.v), (wt.v)] (.bool true) (fun w => kr) (lists_true s85.lv wt.lv (Ls.lv_v Qs85.1) (Wt.lv_v hw) (Ls.rd Qs85.1 (fun p hp => H.held p (by simp only [List.mem_append, List.mem_cons, hp, true_or, or_true])) (by have := Qs85.2.2; omega)) (Wt.rd hw H.kept (by omega) (fun p hp => H.held p (by simp only [List.mem_append, List.mem_cons, hp, true_or, or_true]))) (by rw [Ls.lv_ls, Qs85.2.1, hU, Wt.lv_ss])) ?_
  clear F H; intro a v F H
  refine T_k F H (.bool true) ?_
  clear F; intro a F
  refine T_k F H (.bool true) ?_
  clear F; intro a F
  refine wpList_nil ?_
  refine hK86 _ _ ?_
  clear hK86
  try clear K86
  refine wp_ret ?_
  exact C_ret F H (rs := [.tmp 2]) rfl (vs := [.bool true]) (.tmp rfl .nil) (.bool true) rfl ⟨rfl, H.kept⟩
end Go.Proofs.Ytlnlppmhiobgjaa
