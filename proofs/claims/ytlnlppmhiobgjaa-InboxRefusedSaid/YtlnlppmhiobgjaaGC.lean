/- Walks: Same, Lists, Clone. -/
import Derived.Test.YtlnlppmhiobgjaaGB
set_option linter.unusedVariables false
set_option linter.unusedSimpArgs false
namespace Go.Proofs.Ytlnlppmhiobgjaa
open Go Go.RowKit
theorem R_notd {P : Program} {o : Oper} {V : List (Nat × Value)} {t : TypeId} {x : Operand} (ho : o.op = .unOp .not t x) {p : Prop} [Decidable p] (hx : evV V x = .bool (decide p)) (w : World) : (execOp (evV V) o).run P w = .ok (.value (.bool (decide (¬ p)))) w := by
  unfold execOp
  simp only [ho, hx]
  have h3 : Op.unary .not (.bool (decide p)) = pure (.bool (!decide p)) := rfl
  rw [h3, decide_not]
  rfl
theorem i_ned {k : IntKind} {a b : Nat} : intRes .neq k ((a : Nat) : Int) ((b : Nat) : Int) = some (.bool (decide (a ≠ b))) := by
  unfold intRes
  refine congrArg (fun q => some (Value.bool q)) ?_
  by_cases h : a = b
  · subst h; simp
  · have : ¬ (a : Int) = (b : Int) := by omega
    simp [h, this]
theorem i_eqd {k : IntKind} {a b : Nat} : intRes .eql k ((a : Nat) : Int) ((b : Nat) : Int) = some (.bool (decide (a = b))) := by
  unfold intRes
  refine congrArg (fun q => some (Value.bool q)) ?_
  by_cases h : a = b
  · subst h; simp
  · have : ¬ (a : Int) = (b : Int) := by omega
    simp [h, this]
theorem oct_at {l : List Nat} {k : Nat} (h : k < l.length) : (oct l)[k]? = some (.int .u8 ((l.getD k 0 : Nat) : Int)) := by
  refine ints_get ?_
  rw [List.getD_eq_getElem?_getD, List.getElem?_eq_getElem h]
  rfl
def s0 : Sv := ⟨none, 0, []⟩
theorem sv_at {ss : List Sv} {k : Nat} (h : k < ss.length) : (ss.map Sv.v)[k]? = some (ss.getD k s0).v := by
  rw [List.getElem?_map, List.getD_eq_getElem?_getD, List.getElem?_eq_getElem h]
  rfl
theorem sv_mem {ss : List Sv} {k : Nat} (h : k < ss.length) : ss.getD k s0 ∈ ss := by
  rw [List.getD_eq_getElem?_getD, List.getElem?_eq_getElem h]
  exact List.getElem_mem h
theorem RdB.cell {w : World} {g off k : Nat} {cs : List Value} {v : Value} (h : RdB w g off cs) (hv : cs[k]? = some v) : w.cell? ⟨g, off + k * 1, none⟩ = some v := by
  rw [Nat.mul_one]; exact h k v hv

theorem list_ext0 {la lb : List Nat} (hl : la.length = lb.length) (h : ∀ i, i < la.length → la.getD i 0 = lb.getD i 0) : la = lb := by
  refine List.ext_getElem hl fun i h1 h2 => ?_
  have := h i h1
  rwa [List.getD_eq_getElem?_getD, List.getD_eq_getElem?_getD, List.getElem?_eq_getElem h1, List.getElem?_eq_getElem h2] at this
theorem map_at {la lb : List Sv} (e : la.map (·.l) = lb.map (·.l)) (k : Nat) (hk : k < la.length) : (la.getD k s0).l = (lb.getD k s0).l := by
  have h2 : k < lb.length := by have := congrArg List.length e; simp only [List.length_map] at this; omega
  have h3 := congrArg (fun q => q[k]?) e
  simp only [List.getElem?_map, List.getElem?_eq_getElem hk, List.getElem?_eq_getElem h2, Option.map_some, Option.some.injEq] at h3
  rw [List.getD_eq_getElem?_getD, List.getD_eq_getElem?_getD, List.getElem?_eq_getElem hk, List.getElem?_eq_getElem h2]
  exact h3
theorem map_ext0 {la lb : List Sv} (hl : la.length = lb.length) (h : ∀ i, i < la.length → (la.getD i s0).l = (lb.getD i s0).l) : la.map (·.l) = lb.map (·.l) := by
  refine List.ext_getElem (by simpa using hl) fun i h1 h2 => ?_
  rw [List.length_map] at h1 h2
  have := h i h1
  rw [List.getElem_map, List.getElem_map]
  rwa [List.getD_eq_getElem?_getD, List.getD_eq_getElem?_getD, List.getElem?_eq_getElem h1, List.getElem?_eq_getElem h2] at this

set_option maxRecDepth 100000 in
set_option maxHeartbeats 4000000 in
theorem same_any (ada : Option Addr) (ca : Nat) (la : List Nat) (adb : Option Addr) (cb : Nat) (lb : List Nat) (w : World) (ha : Sv.Rd w ⟨ada, ca, la⟩) (hb : Sv.Rd w ⟨adb, cb, lb⟩) : Calls Try.prog 12 #[.slice ada la.length ca, .slice adb lb.length cb] w fun e w' => e = .returned (.bool (decide (la = lb))) ∧ Kept [] w w' := by
  refine C_enter Try.func12 rfl 26 Try.ntmps12 (Nat.le_of_ble_eq_true rfl) (fun a F => ?_)
  have H := Hp.start [] w
  replace F : Fm 26 [] [(0, .slice ada la.length ca), (1, .slice adb lb.length cb)] a := F.weak _ (subL_of kr)
  have hba : la.length < 281474976710656 := by have h : la.length ≤ 140737488355328 := ha.big; omega
  refine C_seqK (fun K1 hK1 => ?_)
  refine C_region ?_
  refine T_k F H (.bool false) ?_
  clear F; intro a F
  refine wpList_nil ?_
  refine hK1 _ _ ?_
  clear hK1
  try clear K1
  refine C_seqK (fun K2 hK2 => ?_)
  refine C_seqK (fun K3 hK3 => ?_)
  refine C_region ?_
  refine T_k F H (.slice ada la.length ca) ?_
  clear F; intro a F
  refine T_k F H (ni la.length) ?_
  clear F; intro a F
  refine T_k F H (.slice adb lb.length cb) ?_
  clear F; intro a F
  refine T_k F H (ni lb.length) ?_
  clear F; intro a F
  refine T_val F H kr (.bool (decide (la.length ≠ lb.length))) (fun w _ => R_bin (x := (.tmp 7)) (y := (.tmp 9)) rfl (k := .i64) (a := ((la.length : Nat) : Int)) (b := ((lb.length : Nat) : Int)) kr kr i_ned w) ?_
  clear F; intro a F
  refine wpList_nil ?_
  refine hK3 _ _ ?_
  clear hK3
  try clear K3
  by_cases hc : la.length ≠ lb.length
  · rw [decide_eq_true hc] at F
    refine C_if F true rfl rfl ?_
    refine C_seqK (fun K4 hK4 => ?_)
    refine C_region ?_
    refine T_k F H (.bool false) ?_
    clear F; intro a F
    refine wpList_nil ?_
    refine hK4 _ _ ?_
    clear hK4
    try clear K4
    refine wp_ret ?_
    repeat (first | with_reducible refine then_ret ?_ | with_reducible refine inB_ret ?_)
    exact C_ret F H (rs := [.tmp 4]) rfl (vs := [.bool false]) (.tmp rfl .nil) (.bool false) rfl ⟨by rw [decide_eq_false (fun e => hc (by rw [e]))], H.kept⟩
  rw [decide_eq_false hc] at F
  refine C_if F false rfl rfl ?_
  refine wp_skip ?_
  refine hK2 _ _ ?_
  clear hK2
  try clear K2
  refine C_seqK (fun K5 hK5 => ?_)
  refine C_seqK (fun K6 hK6 => ?_)
  refine C_region ?_
  refine T_k F H (ni 0) ?_
  clear F; intro a F
  refine wpList_nil ?_
  replace F : Fm 26 [] [(5, ni 0), (0, .slice ada la.length ca), (1, .slice adb lb.length cb)] a := F.weak _ (subL_of kr)
  have hl : la.length = lb.length := Decidable.not_not.1 hc
  clear hc
  refine hK6 _ _ ?_
  clear hK6
  try clear K6
  refine wp_block ?_
  refine C_loop (fun m a v => ∃ k, k + m = la.length ∧ (∀ i, i < k → la.getD i 0 = lb.getD i 0) ∧ Fm 26 [] [(5, ni k), (0, .slice ada la.length ca), (1, .slice adb lb.length cb)] a ∧ Hp [] w [] v) (la.length) ⟨0, Nat.zero_add _, (fun i h => absurd h (by omega)), F, H⟩ ?_
  clear F H
  intro m a v ⟨k, hk, hall, F, H⟩
  rcases m with _ | m
  rotate_left
  · skip
    have hka : k < la.length := by omega
    have hkb : k < lb.length := by omega
    obtain ⟨ga, oa, e1, r1⟩ := ha.at_ (fun e => by have e' : la = [] := e; rw [e'] at hka; exact absurd hka (Nat.not_lt_zero _))
    obtain ⟨gb, ob, e2, r2⟩ := hb.at_ (fun e => by have e' : lb = [] := e; rw [e'] at hkb; exact absurd hkb (Nat.not_lt_zero _))
    replace e1 : ada = _ := e1
    replace e2 : adb = _ := e2
    subst e1 e2
    replace F : Fm 26 [] [(5, ni k), (0, sc ga oa la.length ca), (1, sc gb ob lb.length cb)] a := F
    refine C_seqK (fun K7 hK7 => ?_)
    refine C_seqK (fun K8 hK8 => ?_)
    refine C_region ?_
    refine T_k F H (ni k) ?_
    clear F; intro a F
    refine T_k F H (sc ga oa la.length ca) ?_
    clear F; intro a F
    refine T_k F H (ni la.length) ?_
    clear F; intro a F
    refine T_val F H kr (.bool true) (fun w _ => R_bin (x := (.tmp 11)) (y := (.tmp 13)) rfl (k := .i64) (a := ((k : Nat) : Int)) (b := ((la.length : Nat) : Int)) kr kr (i_lt (by omega)) w) ?_
    clear F; intro a F
    refine wpList_nil ?_
    refine hK8 _ _ ?_
    clear hK8
    try clear K8
    refine C_if F true rfl rfl ?_
    refine wp_skip ?_
    refine hK7 _ _ ?_
    clear hK7
    try clear K7
    refine C_seqK (fun K9 hK9 => ?_)
    refine wp_block ?_
    refine C_seqK (fun K10 hK10 => ?_)
    refine E_region F H (fun β => [(17, sc ga oa la.length ca), (18, ni k), (19, pt ga (oa + (k) * 1)), (20, nb (la.getD k 0)), (21, sc gb ob lb.length cb), (22, ni k), (23, pt gb (ob + (k) * 1)), (24, nb (lb.getD k 0)), (25, .bool (decide (la.getD k 0 ≠ lb.getD k 0)))]) [17, 18, 19, 20, 21, 22, 23, 24, 25] [] [] [] 2 [] kr kr kr (fun β => rfl) trivial ⟨?_, ?_, ?_, ?_, ?_, ?_, ?_, ?_, ?_, trivial⟩ ?_
    · exact E_k 26 (fun β => sc ga oa la.length ca) 17 2
    · exact E_k 26 (fun β => ni k) 18 2
    · exact E_v 26 (fun β => pt ga (oa + (k) * 1)) 19 2 [] (fun β w hk hl hq => R_indexS (k := .i64) (g := ga) (off := oa) (len := la.length) (cap := ca) (x := (.tmp 17)) (y := (.tmp 18)) rfl Try.underlying30 kr (k) kr (by omega) (sz := 1) kr w)
    · exact E_v 26 (fun β => nb (la.getD k 0)) 20 2 [] (fun β w hk hl hq => R_ld (y := (.tmp 19)) rfl (g := ga) (off := (oa + (k) * 1)) kr ((r1.kept hk List.not_mem_nil).cell (oct_at hka)) _ Try.underlying5 rfl)
    · exact E_k 26 (fun β => sc gb ob lb.length cb) 21 2
    · exact E_k 26 (fun β => ni k) 22 2
    · exact E_v 26 (fun β => pt gb (ob + (k) * 1)) 23 2 [] (fun β w hk hl hq => R_indexS (k := .i64) (g := gb) (off := ob) (len := lb.length) (cap := cb) (x := (.tmp 21)) (y := (.tmp 22)) rfl Try.underlying30 kr (k) kr (by omega) (sz := 1) kr w)
    · exact E_v 26 (fun β => nb (lb.getD k 0)) 24 2 [] (fun β w hk hl hq => R_ld (y := (.tmp 23)) rfl (g := gb) (off := (ob + (k) * 1)) kr ((r2.kept hk List.not_mem_nil).cell (oct_at hkb)) _ Try.underlying5 rfl)
    · exact E_v 26 (fun β => .bool (decide (la.getD k 0 ≠ lb.getD k 0))) 25 2 [] (fun β w hk hl hq => R_bin (x := (.tmp 20)) (y := (.tmp 24)) rfl (k := .u8) (a := (((la.getD k 0) : Nat) : Int)) (b := (((lb.getD k 0) : Nat) : Int)) kr kr i_ned w)
    clear F H; intro β a v Q F H
    replace H : Hp [] w [] v := H
    replace F : Fm 26 [] [(25, .bool (decide (la.getD k 0 ≠ lb.getD k 0))), (24, nb (lb.getD k 0)), (23, pt gb (ob + (k) * 1)), (22, ni k), (21, sc gb ob lb.length cb), (20, nb (la.getD k 0)), (19, pt ga (oa + (k) * 1)), (18, ni k), (17, sc ga oa la.length ca), (14, .bool true), (13, ni la.length), (12, sc ga oa la.length ca), (11, ni k), (5, ni k), (0, sc ga oa la.length ca), (1, sc gb ob lb.length cb)] a := F.weak _ (subL_of kr)
    clear Q
    refine ?_
    refine hK10 _ _ ?_
    clear hK10
    try clear K10
    by_cases hc : la.getD k 0 ≠ lb.getD k 0
    · rw [decide_eq_true hc] at F
      refine C_if F true rfl rfl ?_
      refine C_seqK (fun K11 hK11 => ?_)
      refine C_region ?_
      refine T_k F H (.bool false) ?_
      clear F; intro a F
      refine wpList_nil ?_
      refine hK11 _ _ ?_
      clear hK11
      try clear K11
      refine wp_ret ?_
      repeat (first | with_reducible refine then_ret ?_ | with_reducible refine inB_ret ?_)
      exact C_ret F H (rs := [.tmp 4]) rfl (vs := [.bool false]) (.tmp rfl .nil) (.bool false) rfl ⟨by rw [decide_eq_false (fun e => hc (by rw [e]))], H.kept⟩
    rw [decide_eq_false hc] at F
    refine C_if F false rfl rfl ?_
    refine wp_skip ?_
    refine hK9 _ _ ?_
    clear hK9
    try clear K9
    refine C_region ?_
    refine T_k F H (ni k) ?_
    clear F; intro a F
    refine T_val F H kr (ni (k + 1)) (fun w _ => R_bin (x := (.tmp 15)) (y := (.const (.int .i64 1))) rfl (k := .i64) (a := ((k : Nat) : Int)) (b := ((1 : Nat) : Int)) kr kr (i_addn64 (a := k) (b := 1) (by omega)) w) ?_
    clear F; intro a F
    refine T_k F H (ni (k + 1)) ?_
    clear F; intro a F
    refine wpList_nil ?_
    replace F : Fm 26 [] [(5, ni (k + 1)), (0, sc ga oa la.length ca), (1, sc gb ob lb.length cb)] a := F.weak _ (subL_of kr)
    replace H : Hp [] w [] v := H
    exact ⟨m, Nat.lt_succ_self m, k + 1, by omega, (fun i hi => by rcases Nat.lt_or_ge i k with h | h; exact hall i h; rw [show i = k by omega]; exact Decidable.not_not.1 hc), F, H⟩
  have hkt : k = la.length := by omega
  rw [hkt] at F hall
  clear hk
  refine C_seqK (fun K12 hK12 => ?_)
  refine C_seqK (fun K13 hK13 => ?_)
  refine C_region ?_
  refine T_k F H (ni la.length) ?_
  clear F; intro a F
  refine T_k F H (.slice ada la.length ca) ?_
  clear F; intro a F
  refine T_k F H (ni la.length) ?_
  clear F; intro a F
  refine T_val F H kr (.bool false) (fun w _ => R_bin (x := (.tmp 11)) (y := (.tmp 13)) rfl (k := .i64) (a := ((la.length : Nat) : Int)) (b := ((la.length : Nat) : Int)) kr kr (i_nlt (by omega)) w) ?_
  clear F; intro a F
  refine wpList_nil ?_
  refine hK13 _ _ ?_
  clear hK13
  try clear K13
  refine C_if F false rfl rfl ?_
  refine wp_exit ?_
  refine hK5 _ _ ?_
  clear hK5
  try clear K5
  refine C_seqK (fun K14 hK14 => ?_)
  refine C_region ?_
  refine T_k F H (.bool true) ?_
  clear F; intro a F
  refine wpList_nil ?_
  refine hK14 _ _ ?_
  clear hK14
  try clear K14
  refine wp_ret ?_
  exact C_ret F H (rs := [.tmp 4]) rfl (vs := [.bool true]) (.tmp rfl .nil) (.bool true) rfl ⟨by rw [decide_eq_true (list_ext0 hl hall)], H.kept⟩

set_option maxRecDepth 100000 in
set_option maxHeartbeats 4000000 in
theorem lists_any (ada : Option Addr) (ca : Nat) (la : List Sv) (adb : Option Addr) (cb : Nat) (lb : List Sv) (w : World) (ha : Lv.Rd w ⟨ada, ca, la⟩) (hb : Lv.Rd w ⟨adb, cb, lb⟩) : Calls Try.prog 14 #[.slice ada la.length ca, .slice adb lb.length cb] w fun e w' => e = .returned (.bool (decide (la.map (·.l) = lb.map (·.l)))) ∧ Kept [] w w' := by
  refine C_enter Try.func14 rfl 27 Try.ntmps14 (Nat.le_of_ble_eq_true rfl) (fun a F => ?_)
  have H := Hp.start [] w
  replace F : Fm 27 [] [(0, .slice ada la.length ca), (1, .slice adb lb.length cb)] a := F.weak _ (subL_of kr)
  have hba : la.length < 281474976710656 := by have h : la.length < 1000000 := ha.big; omega
  refine C_seqK (fun K1 hK1 => ?_)
  refine C_region ?_
  refine T_k F H (.bool false) ?_
  clear F; intro a F
  refine wpList_nil ?_
  refine hK1 _ _ ?_
  clear hK1
  try clear K1
  refine C_seqK (fun K2 hK2 => ?_)
  refine C_seqK (fun K3 hK3 => ?_)
  refine C_region ?_
  refine T_k F H (.slice ada la.length ca) ?_
  clear F; intro a F
  refine T_k F H (ni la.length) ?_
  clear F; intro a F
  refine T_k F H (.slice adb lb.length cb) ?_
  clear F; intro a F
  refine T_k F H (ni lb.length) ?_
  clear F; intro a F
  refine T_val F H kr (.bool (decide (la.length ≠ lb.length))) (fun w _ => R_bin (x := (.tmp 7)) (y := (.tmp 9)) rfl (k := .i64) (a := ((la.length : Nat) : Int)) (b := ((lb.length : Nat) : Int)) kr kr i_ned w) ?_
  clear F; intro a F
  refine wpList_nil ?_
  refine hK3 _ _ ?_
  clear hK3
  try clear K3
  by_cases hc : la.length ≠ lb.length
  · rw [decide_eq_true hc] at F
    refine C_if F true rfl rfl ?_
    refine C_seqK (fun K4 hK4 => ?_)
    refine C_region ?_
    refine T_k F H (.bool false) ?_
    clear F; intro a F
    refine wpList_nil ?_
    refine hK4 _ _ ?_
    clear hK4
    try clear K4
    refine wp_ret ?_
    repeat (first | with_reducible refine then_ret ?_ | with_reducible refine inB_ret ?_)
    exact C_ret F H (rs := [.tmp 4]) rfl (vs := [.bool false]) (.tmp rfl .nil) (.bool false) rfl ⟨by rw [decide_eq_false (fun e => hc (by have := congrArg List.length e; simpa using this))], H.kept⟩
  rw [decide_eq_false hc] at F
  refine C_if F false rfl rfl ?_
  refine wp_skip ?_
  refine hK2 _ _ ?_
  clear hK2
  try clear K2
  refine C_seqK (fun K5 hK5 => ?_)
  refine C_seqK (fun K6 hK6 => ?_)
  refine C_region ?_
  refine T_k F H (ni 0) ?_
  clear F; intro a F
  refine wpList_nil ?_
  replace F : Fm 27 [] [(5, ni 0), (0, .slice ada la.length ca), (1, .slice adb lb.length cb)] a := F.weak _ (subL_of kr)
  have hl : la.length = lb.length := Decidable.not_not.1 hc
  clear hc
  refine hK6 _ _ ?_
  clear hK6
  try clear K6
  refine wp_block ?_
  refine C_loop (fun m a v => ∃ k, k + m = la.length ∧ (∀ i, i < k → (la.getD i s0).l = (lb.getD i s0).l) ∧ Fm 27 [] [(5, ni k), (0, .slice ada la.length ca), (1, .slice adb lb.length cb)] a ∧ Hp [] w [] v) (la.length) ⟨0, Nat.zero_add _, (fun i h => absurd h (by omega)), F, H⟩ ?_
  clear F H
  intro m a v ⟨k, hk, hall, F, H⟩
  rcases m with _ | m
  rotate_left
  · skip
    have hka : k < la.length := by omega
    have hkb : k < lb.length := by omega
    obtain ⟨ga, oa, e1, r1⟩ := ha.at_ (fun e => by have e' : la = [] := e; rw [e'] at hka; exact absurd hka (Nat.not_lt_zero _))
    obtain ⟨gb, ob, e2, r2⟩ := hb.at_ (fun e => by have e' : lb = [] := e; rw [e'] at hkb; exact absurd hkb (Nat.not_lt_zero _))
    replace e1 : ada = _ := e1
    replace e2 : adb = _ := e2
    subst e1 e2
    replace F : Fm 27 [] [(5, ni k), (0, sc ga oa la.length ca), (1, sc gb ob lb.length cb)] a := F
    refine C_seqK (fun K7 hK7 => ?_)
    refine C_seqK (fun K8 hK8 => ?_)
    refine C_region ?_
    refine T_k F H (ni k) ?_
    clear F; intro a F
    refine T_k F H (sc ga oa la.length ca) ?_
    clear F; intro a F
    refine T_k F H (ni la.length) ?_
    clear F; intro a F
    refine T_val F H kr (.bool true) (fun w _ => R_bin (x := (.tmp 11)) (y := (.tmp 13)) rfl (k := .i64) (a := ((k : Nat) : Int)) (b := ((la.length : Nat) : Int)) kr kr (i_lt (by omega)) w) ?_
    clear F; intro a F
    refine wpList_nil ?_
    refine hK8 _ _ ?_
    clear hK8
    try clear K8
    refine C_if F true rfl rfl ?_
    refine wp_skip ?_
    refine hK7 _ _ ?_
    clear hK7
    try clear K7
    refine C_seqK (fun K9 hK9 => ?_)
    refine wp_block ?_
    refine C_seqK (fun K10 hK10 => ?_)
    refine E_region F H (fun β => [(17, sc ga oa la.length ca), (18, ni k), (19, pt ga (oa + (k) * 1)), (20, .slice (la.getD k s0).ad (la.getD k s0).l.length (la.getD k s0).c), (21, sc gb ob lb.length cb), (22, ni k), (23, pt gb (ob + (k) * 1)), (24, .slice (lb.getD k s0).ad (lb.getD k s0).l.length (lb.getD k s0).c), (25, .bool (decide ((la.getD k s0).l = (lb.getD k s0).l))), (26, .bool (decide (¬ ((la.getD k s0).l = (lb.getD k s0).l))))]) [17, 18, 19, 20, 21, 22, 23, 24, 25, 26] [] [] [] 2 [] kr kr kr (fun β => rfl) trivial ⟨?_, ?_, ?_, ?_, ?_, ?_, ?_, ?_, ?_, ?_, trivial⟩ ?_
    · exact E_k 27 (fun β => sc ga oa la.length ca) 17 2
    · exact E_k 27 (fun β => ni k) 18 2
    · exact E_v 27 (fun β => pt ga (oa + (k) * 1)) 19 2 [] (fun β w hk hl hq => R_indexS (k := .i64) (g := ga) (off := oa) (len := la.length) (cap := ca) (x := (.tmp 17)) (y := (.tmp 18)) rfl Try.underlying26 kr (k) kr (by omega) (sz := 1) kr w)
    · exact E_v 27 (fun β => .slice (la.getD k s0).ad (la.getD k s0).l.length (la.getD k s0).c) 20 2 [] (fun β w hk hl hq => R_ld (y := (.tmp 19)) rfl (g := ga) (off := (oa + (k) * 1)) kr ((r1.kept hk List.not_mem_nil).cell (sv_at hka)) _ Try.underlying30 rfl)
    · exact E_k 27 (fun β => sc gb ob lb.length cb) 21 2
    · exact E_k 27 (fun β => ni k) 22 2
    · exact E_v 27 (fun β => pt gb (ob + (k) * 1)) 23 2 [] (fun β w hk hl hq => R_indexS (k := .i64) (g := gb) (off := ob) (len := lb.length) (cap := cb) (x := (.tmp 21)) (y := (.tmp 22)) rfl Try.underlying26 kr (k) kr (by omega) (sz := 1) kr w)
    · exact E_v 27 (fun β => .slice (lb.getD k s0).ad (lb.getD k s0).l.length (lb.getD k s0).c) 24 2 [] (fun β w hk hl hq => R_ld (y := (.tmp 23)) rfl (g := gb) (off := (ob + (k) * 1)) kr ((r2.kept hk List.not_mem_nil).cell (sv_at hkb)) _ Try.underlying30 rfl)
    · exact E_call 27 kq (fun β => .bool (decide ((la.getD k s0).l = (lb.getD k s0).l))) 25 rfl kq 12 (fun β => #[.slice (la.getD k s0).ad (la.getD k s0).l.length (la.getD k s0).c, .slice (lb.getD k s0).ad (lb.getD k s0).l.length (lb.getD k s0).c]) (fun β w => kr) 2 [] kr rfl (fun β w hk hl hq => same_any (la.getD k s0).ad (la.getD k s0).c (la.getD k s0).l (lb.getD k s0).ad (lb.getD k s0).c (lb.getD k s0).l _ ((ha.each _ (sv_mem hka)).kept hk) ((hb.each _ (sv_mem hkb)).kept hk))
    · exact E_v 27 (fun β => .bool (decide (¬ ((la.getD k s0).l = (lb.getD k s0).l)))) 26 2 [] (fun β w hk hl hq => R_notd (x := (.tmp 25)) rfl (p := (la.getD k s0).l = (lb.getD k s0).l) kr w)
    clear F H; intro β a v Q F H
    replace H : Hp [] w [] v := H
    replace F : Fm 27 [] [(26, .bool (decide (¬ ((la.getD k s0).l = (lb.getD k s0).l)))), (25, .bool (decide ((la.getD k s0).l = (lb.getD k s0).l))), (24, .slice (lb.getD k s0).ad (lb.getD k s0).l.length (lb.getD k s0).c), (23, pt gb (ob + (k) * 1)), (22, ni k), (21, sc gb ob lb.length cb), (20, .slice (la.getD k s0).ad (la.getD k s0).l.length (la.getD k s0).c), (19, pt ga (oa + (k) * 1)), (18, ni k), (17, sc ga oa la.length ca), (14, .bool true), (13, ni la.length), (12, sc ga oa la.length ca), (11, ni k), (5, ni k), (0, sc ga oa la.length ca), (1, sc gb ob lb.length cb)] a := F.weak _ (subL_of kr)
    clear Q
    refine ?_
    refine hK10 _ _ ?_
    clear hK10
    try clear K10
    by_cases hc : ¬ ((la.getD k s0).l = (lb.getD k s0).l)
    · rw [decide_eq_true hc] at F
      refine C_if F true rfl rfl ?_
      refine C_seqK (fun K11 hK11 => ?_)
      refine C_region ?_
      refine T_k F H (.bool false) ?_
      clear F; intro a F
      refine wpList_nil ?_
      refine hK11 _ _ ?_
      clear hK11
      try clear K11
      refine wp_ret ?_
      repeat (first | with_reducible refine then_ret ?_ | with_reducible refine inB_ret ?_)
      exact C_ret F H (rs := [.tmp 4]) rfl (vs := [.bool false]) (.tmp rfl .nil) (.bool false) rfl ⟨by rw [decide_eq_false (fun e => hc (map_at e k hka))], H.kept⟩
    rw [decide_eq_false hc] at F
    refine C_if F false rfl rfl ?_
    refine wp_skip ?_
    refine hK9 _ _ ?_
    clear hK9
    try clear K9
    refine C_region ?_
    refine T_k F H (ni k) ?_
    clear F; intro a F
    refine T_val F H kr (ni (k + 1)) (fun w _ => R_bin (x := (.tmp 15)) (y := (.const (.int .i64 1))) rfl (k := .i64) (a := ((k : Nat) : Int)) (b := ((1 : Nat) : Int)) kr kr (i_addn64 (a := k) (b := 1) (by omega)) w) ?_
    clear F; intro a F
    refine T_k F H (ni (k + 1)) ?_
    clear F; intro a F
    refine wpList_nil ?_
    replace F : Fm 27 [] [(5, ni (k + 1)), (0, sc ga oa la.length ca), (1, sc gb ob lb.length cb)] a := F.weak _ (subL_of kr)
    replace H : Hp [] w [] v := H
    exact ⟨m, Nat.lt_succ_self m, k + 1, by omega, (fun i hi => by rcases Nat.lt_or_ge i k with h | h; exact hall i h; rw [show i = k by omega]; exact Decidable.not_not.1 hc), F, H⟩
  have hkt : k = la.length := by omega
  rw [hkt] at F hall
  clear hk
  refine C_seqK (fun K12 hK12 => ?_)
  refine C_seqK (fun K13 hK13 => ?_)
  refine C_region ?_
  refine T_k F H (ni la.length) ?_
  clear F; intro a F
  refine T_k F H (.slice ada la.length ca) ?_
  clear F; intro a F
  refine T_k F H (ni la.length) ?_
  clear F; intro a F
  refine T_val F H kr (.bool false) (fun w _ => R_bin (x := (.tmp 11)) (y := (.tmp 13)) rfl (k := .i64) (a := ((la.length : Nat) : Int)) (b := ((la.length : Nat) : Int)) kr kr (i_nlt (by omega)) w) ?_
  clear F; intro a F
  refine wpList_nil ?_
  refine hK13 _ _ ?_
  clear hK13
  try clear K13
  refine C_if F false rfl rfl ?_
  refine wp_exit ?_
  refine hK5 _ _ ?_
  clear hK5
  try clear K5
  refine C_seqK (fun K14 hK14 => ?_)
  refine C_region ?_
  refine T_k F H (.bool true) ?_
  clear F; intro a F
  refine wpList_nil ?_
  refine hK14 _ _ ?_
  clear hK14
  try clear K14
  refine wp_ret ?_
  exact C_ret F H (rs := [.tmp 4]) rfl (vs := [.bool true]) (.tmp rfl .nil) (.bool true) rfl ⟨by rw [decide_eq_true (map_ext0 hl hall)], H.kept⟩

theorem R_build0 {P : Program} {o : Oper} {V : List (Nat × Value)} {t e : TypeId} (ho : o.op = .buildSlice t 0 #[]) (hu : P.underlying t = some (.slice e)) (hi : (P.info? e).isSome = true) (w : World) :
    (execOp (evV V) o).run P w = .ok (.value (.slice (some ⟨w.heap.size, 0, none⟩) 0 0)) (w.alloc (.cells (sl [] []) e (0, 0))) := by
  obtain ⟨ie, hie⟩ := Option.isSome_iff_exists.1 hi
  have h : (Instr.buildSlice t 0 #[]).run P w = .ok (.slice (some ⟨w.heap.size, 0, none⟩) 0 0) (w.alloc (.cells (sl [] []) e (0, 0))) := by
    simp [Instr.buildSlice, run_underlying hu, sizeOf, typeInfo, hie, newRow, Instr.fill, sl]
    rw [show Array.range 0 = (#[] : Array Nat) from by decide, Array.map_empty]
  unfold execOp
  simp only [ho, Sem.run_bind, List.map_toArray, List.map_nil, h, Result.andThen_ok, Sem.run_pure]

set_option maxRecDepth 100000 in
set_option maxHeartbeats 4000000 in
theorem clone_nil (w : World) : Calls Try.prog 29 #[.slice none 0 0] w fun e w' => e = .returned (.slice none 0 0) ∧ Kept [] w w' := by
  refine C_enter Try.func29 rfl 8 Try.ntmps29 (Nat.le_of_ble_eq_true rfl) (fun a F => ?_)
  have H := Hp.start [] w
  replace F : Fm 8 [] [(0, .slice none 0 0)] a := F.weak _ (subL_of kr)
  refine C_seqK (fun K1 hK1 => ?_)
  refine C_region ?_
  refine T_k F H (.slice none 0 0) ?_
  clear F; intro a F
  refine wpList_nil ?_
  refine hK1 _ _ ?_
  clear hK1
  try clear K1
  refine C_seqK (fun K2 hK2 => ?_)
  refine C_seqK (fun K3 hK3 => ?_)
  refine C_region ?_
  refine T_k F H (.slice none 0 0) ?_
  clear F; intro a F
  refine T_k F H (.bool true) ?_
  clear F; intro a F
  refine wpList_nil ?_
  refine hK3 _ _ ?_
  clear hK3
  try clear K3
  refine C_if F true rfl rfl ?_
  refine C_seqK (fun K4 hK4 => ?_)
  refine C_region ?_
  refine T_k F H (.slice none 0 0) ?_
  clear F; intro a F
  refine wpList_nil ?_
  refine hK4 _ _ ?_
  clear hK4
  try clear K4
  refine wp_ret ?_
  repeat (first | with_reducible refine then_ret ?_ | with_reducible refine inB_ret ?_)
  exact C_ret F H (rs := [.tmp 2]) rfl (vs := [.slice none 0 0]) (.tmp rfl .nil) (.slice none 0 0) rfl ⟨rfl, H.kept⟩

set_option maxRecDepth 100000 in
set_option maxHeartbeats 4000000 in
theorem clone_some (q : Addr) (n c : Nat) (l : List Nat) (hn : l.length = n) (hb : n ≤ 140737488355328) (w : World) (h : RdS w (.slice (some q) n c) n (oct l)) : Calls Try.prog 29 #[.slice (some q) n c] w fun e w' => ∃ r : SlR, e = .returned (.slice (some ⟨r.g, 0, none⟩) n r.cap) ∧ Own (oct l) r.rest n r.cap 1 ∧ w.heap.size ≤ r.g ∧ w'.heap[r.g]? = some (.cells (sl (oct l) r.rest) 5 (0, 0)) ∧ Kept [] w w' := by
  refine C_enter Try.func29 rfl 8 Try.ntmps29 (Nat.le_of_ble_eq_true rfl) (fun a F => ?_)
  have H := Hp.start [] w
  replace F : Fm 8 [] [(0, .slice (some q) n c)] a := F.weak _ (subL_of kr)
  refine C_seqK (fun K1 hK1 => ?_)
  refine C_region ?_
  refine T_k F H (.slice none 0 0) ?_
  clear F; intro a F
  refine wpList_nil ?_
  refine hK1 _ _ ?_
  clear hK1
  try clear K1
  refine C_seqK (fun K2 hK2 => ?_)
  refine C_seqK (fun K3 hK3 => ?_)
  refine C_region ?_
  refine T_k F H (.slice (some q) n c) ?_
  clear F; intro a F
  refine T_k F H (.bool false) ?_
  clear F; intro a F
  refine wpList_nil ?_
  refine hK3 _ _ ?_
  clear hK3
  try clear K3
  refine C_if F false rfl rfl ?_
  refine wp_skip ?_
  refine hK2 _ _ ?_
  clear hK2
  try clear K2
  refine C_seqK (fun K4 hK4 => ?_)
  refine C_region ?_
  refine T_new F H kr (fun ad => sc ad 0 0 0) (ce (sl (ints .u8 []) []) 5) (fun w => R_build0 rfl Try.underlying30 kr w) ?_
  clear F H; intro aq5 a v F H
  refine T_k F H (.slice (some q) n c) ?_
  clear F; intro a F
  refine T_app F H kr 30 5 (.tmp 5) (.tmp 6) rfl 1 1 kr kr 0 rfl (own_all (m := 0) (by rfl) (by simp only [maxLen]; omega)) kr (n) (oct l) (fun w hk hl => (h.kept hk (fun _ _ _ _ => List.not_mem_nil))) (by rw [ints_len, Nat.mul_one]; exact hn) (ints_one _ _) (by simp only [maxLen]; omega) (by omega) _ rfl ?_
  clear F H; intro rq6 a v Qrq6 F H
  refine T_k F H (sc rq6.g 0 (0 + n) rq6.cap) ?_
  clear F; intro a F
  refine wpList_nil ?_
  refine hK4 _ _ ?_
  clear hK4
  try clear K4
  refine wp_ret ?_
  exact C_ret F H (rs := [.tmp 2]) rfl (vs := [sc rq6.g 0 (0 + n) rq6.cap]) (.tmp rfl .nil) (sc rq6.g 0 (0 + n) rq6.cap) rfl ⟨rq6, by rw [Nat.zero_add], by have h1 := Qrq6; rw [Nat.zero_add, show (ints .u8 ([] : List Nat)) ++ oct l = oct l from rfl] at h1; exact h1, H.newAt (k := 0) rfl, H.at_ (k := 0) rfl, H.kept⟩
end Go.Proofs.Ytlnlppmhiobgjaa
