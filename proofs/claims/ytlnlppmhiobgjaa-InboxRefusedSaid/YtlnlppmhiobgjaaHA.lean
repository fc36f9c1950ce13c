/- Walk: InboxTurns. -/
import Derived.Test.YtlnlppmhiobgjaaGZ
import Derived.Test.YtlnlppmhiobgjaaGT
set_option linter.unusedVariables false
set_option linter.unusedSimpArgs false
namespace Go.Proofs.Ytlnlppmhiobgjaa
open Go Go.RowKit
theorem i_addu32 {a b : Nat} (h : a + b < 4294967296) : intRes .add .u32 (a : Int) (b : Int) = some (.int .u32 ((a + b : Nat) : Int)) := i_add32.trans (by rw [show add32 a b = a + b from Nat.mod_eq_of_lt h])
structure OpsT (w : World) (la : Option Addr) (c : Nat) (ops : List OpJ) : Prop where
  j : OpsJ w la c ops
  o : ∀ o ∈ ops, octs o.b.l
def Hs.ad (o : Hs) : Option Addr := match o.nl with | true => none | false => some ⟨o.g, 0, none⟩
def Hs.cp (o : Hs) : Nat := match o.nl with | true => 0 | false => o.cap
theorem Hs.v_eq {o : Hs} (h : o.ok) : o.v = .slice o.ad o.cs.length o.cp := by
  obtain ⟨nl, g, cap, rest, cs⟩ := o
  cases nl with
  | true => have h0 : cs = [] := h.nil rfl; subst h0; rfl
  | false => rfl
theorem Hs.le {o : Hs} (h : o.ok) : o.cs.length ≤ o.cp := by
  obtain ⟨nl, g, cap, rest, cs⟩ := o
  cases nl with
  | true => have h0 : cs = [] := h.nil rfl; subst h0; exact Nat.le_refl _
  | false => exact (h.own rfl).le
theorem Hs.cell {o : Hs} (h : o.ok) {k : Nat} {c : Nat × Cl} (hk : o.cs[k]? = some c) : ∃ g, o.ad = some ⟨g, 0, none⟩ ∧ ∀ w, HeldB o.blks w → ∀ j u, (encH c)[j]? = some u → w.cell? ⟨g, 0 + k * 2 + j, none⟩ = some u := by
  obtain ⟨nl, g, cap, rest, cs⟩ := o
  cases nl with
  | true => have h0 : cs = [] := h.nil rfl; subst h0; cases hk
  | false =>
    refine ⟨g, rfl, fun w hb j u hj => ?_⟩
    have hj2 : j < 2 := (List.getElem?_eq_some_iff.1 hj).1
    have hg : w.heap[g]? = some (.cells (sl (cs.flatMap encH) rest) 60 (0, 0)) := hb _ (List.mem_cons_self ..)
    have h1 := flat_at (f := encH) (n := 2) (fun _ => rfl) hk hj2
    rw [Nat.zero_add]
    simp only [World.cell?, hg]
    rw [show (sl (cs.flatMap encH) rest)[k * 2 + j]? = some u from sl_get (h1.trans hj)]
    rfl
theorem Hs.key {o : Hs} {D : HD} (h : o.D.Perm D) {k : Nat} {c : Nat × Cl} (hk : o.cs[k]? = some c) : (c.1, c.2.l) ∈ D := h.mem_iff.1 (List.mem_map.2 ⟨c, List.mem_of_getElem? hk, rfl⟩)
/-- What is held is near. -/
structure Near (nx : Nat) (D : HD) : Prop where
  at_ : ∀ d ∈ D, nx < d.1 ∧ d.1 ≤ nx + 3
  o : ∀ d ∈ D, octs d.2
  keys : (D.map (·.1)).Nodup
/-- What Hold tells, four ways. -/
theorem hold_cases {nx ix : Nat} {l : List Nat} {D : HD} (h : Near nx D) (ol : octs l) : (Near nx (hHold nx ix l D).2 ∧ (hHold nx ix l D).2.length ≤ D.length + 1) ∧ (((hHold nx ix l D).1 = 84 ∧ ix ≤ nx) ∨ ((hHold nx ix l D).1 = 85 ∧ nx < ix ∧ 3 < ix - nx) ∨ ((hHold nx ix l D).1 = 63 ∧ nx < ix ∧ ix - nx ≤ 3) ∨ ((hHold nx ix l D).1 = 0 ∧ nx < ix ∧ ix - nx ≤ 3 ∧ (ix, l) ∈ (hHold nx ix l D).2)) := by
  by_cases h1 : ix ≤ nx
  · rw [show hHold nx ix l D = (84, D) from if_pos h1]; exact ⟨⟨h, Nat.le_succ _⟩, .inl ⟨rfl, h1⟩⟩
  · by_cases h4 : 4 ≤ ix - nx
    · rw [show hHold nx ix l D = (85, D) from (if_neg h1).trans (if_pos h4)]; exact ⟨⟨h, Nat.le_succ _⟩, .inr (.inl ⟨rfl, by omega, by omega⟩)⟩
    · cases hf : D.find? (fun d => d.1 == ix) with
      | none =>
        have e : hHold nx ix l D = (0, D ++ [(ix, l)]) := by unfold hHold; rw [if_neg h1, if_neg h4, hf]
        rw [e]
        refine ⟨⟨⟨fun d hd => ?_, fun d hd => ?_, ?_⟩, by rw [List.length_append]; exact Nat.le_refl _⟩, .inr (.inr (.inr ⟨rfl, by omega, by omega, List.mem_append_right _ (List.mem_singleton.2 rfl)⟩))⟩
        · rcases List.mem_append.1 hd with hd | hd
          · exact h.at_ d hd
          · rw [List.mem_singleton.1 hd]; show nx < ix ∧ ix ≤ nx + 3; omega
        · rcases List.mem_append.1 hd with hd | hd
          · exact h.o d hd
          · rw [List.mem_singleton.1 hd]; exact ol
        · rw [List.map_append, List.nodup_append]
          refine ⟨h.keys, by simp, fun a ha b hb => ?_⟩
          obtain ⟨d, hd, rfl⟩ := List.mem_map.1 ha
          rw [show b = ix by simpa using hb]
          have := List.find?_eq_none.1 hf d hd
          simpa using this
      | some d =>
        have hd : d ∈ D := List.mem_of_find?_eq_some hf
        have hk : d.1 = ix := by have := List.find?_some hf; simpa using this
        by_cases he : d.2 = l
        · have e : hHold nx ix l D = (0, D) := by unfold hHold; rw [if_neg h1, if_neg h4, hf]; exact if_pos he
          rw [e]
          exact ⟨⟨h, Nat.le_succ _⟩, .inr (.inr (.inr ⟨rfl, by omega, by omega, by rw [← hk, ← he]; exact hd⟩))⟩
        · have e : hHold nx ix l D = (63, D) := by unfold hHold; rw [if_neg h1, if_neg h4, hf]; exact if_neg he
          rw [e]
          exact ⟨⟨h, Nat.le_succ _⟩, .inr (.inr (.inl ⟨rfl, by omega, by omega⟩))⟩
theorem Near.turn {nx : Nat} {D : HD} (h : Near nx D) : Near (nx + 1) (D.filter fun d => decide (nx + 1 < d.1)) :=
  ⟨fun d hd => by
    have h1 := List.mem_filter.1 hd
    have := h.at_ d h1.1
    have h2 := h1.2
    simp only [decide_eq_true_eq] at h2
    omega, fun d hd => h.o d (List.mem_filter.1 hd).1, (List.Sublist.map _ List.filter_sublist).nodup h.keys⟩
theorem Near.none {nx : Nat} {D : HD} (h : Near nx D) : ∀ d ∈ D, d.1 ≠ nx := fun d hd => by have := h.at_ d hd; omega
theorem Near.again {nx : Nat} {D : HD} (h : Near nx D) : D.filter (fun d => decide (nx < d.1)) = D := List.filter_eq_self.2 fun d hd => decide_eq_true (h.at_ d hd).1
theorem Near.uniq {nx : Nat} {D : HD} (h : Near nx D) {k : Nat} {l l' : List Nat} (h1 : (k, l) ∈ D) (h2 : (k, l') ∈ D) : l = l' := by
  have := nodup_inj (fun d : Nat × List Nat => d.1) h.keys h1 h2 rfl
  exact (Prod.mk.inj this).2
theorem near_nil (nx : Nat) : Near nx [] := ⟨(fun d hd => by cases hd), (fun d hd => by cases hd), List.nodup_nil⟩

set_option maxRecDepth 100000 in
set_option maxHeartbeats 4000000 in
theorem inboxTurns_any (la : Option Addr) (c : Nat) (ops : List OpJ) (first : Nat) (h32 : first < 4294967296) (w : World) (hI : OpsT w la c ops) : Calls Try.prog 5 #[.slice la ops.length c, .int .u32 ((first : Nat) : Int)] w fun e w' => e = .returned (.bool true) ∧ Kept [] w w' := by
  by_cases h80 : 80 < ops.length
  · skip
    refine C_enter Try.func5 rfl 163 Try.ntmps5 (Nat.le_of_ble_eq_true rfl) (fun a F => ?_)
    have H := Hp.start [] w
    replace F : Fm 163 [] [(0, .slice la ops.length c), (1, nw first)] a := F.weak _ (subL_of kr)
    refine C_seqK (fun K1 hK1 => ?_)
    refine C_region ?_
    refine T_k F H (.bool false) ?_
    clear F; intro a F
    refine wpList_nil ?_
    refine hK1 _ _ ?_
    clear hK1
    try clear K1
    refine C_seqK (fun K2 hK2 => ?_)
    refine C_region ?_
    refine T_call F H kr 8 #[] (.bool true) (fun w => kr) (awake22_any _) ?_
    clear F H; intro a v F H
    refine T_k F H (.bool true) ?_
    clear F; intro a F
    refine wpList_nil ?_
    refine hK2 _ _ ?_
    clear hK2
    try clear K2
    refine C_seqK (fun K3 hK3 => ?_)
    refine C_region ?_
    refine T_k F H (.agg #[.map none, .slice none 0 0]) ?_
    clear F; intro a F
    refine T_new F H kr (fun ad => pt ad 0) (ce #[.map none, .slice none 0 0] 28) (fun w => kr) ?_
    clear F H; intro aq4 a v F H
    refine T_k F H (pt aq4 0) ?_
    clear F; intro a F
    refine wpList_nil ?_
    replace H : Hp [] w [bk aq4 #[.map none, .slice none 0 0] 28] v := H.pick [0] kr _ rfl
    generalize aq4 = xb at F H
    replace H : Hp [] w ((⟨true, 0, 0, [], true, none, r0, []⟩ : InS).blks xb ++ []) v := H
    refine hK3 _ _ ?_
    clear hK3
    try clear K3
    refine C_seqK (fun K5 hK5 => ?_)
    refine C_seqK (fun K6 hK6 => ?_)
    refine C_region ?_
    refine T_k F H (.slice la ops.length c) ?_
    clear F; intro a F
    refine T_k F H (ni ops.length) ?_
    clear F; intro a F
    refine T_val F H kr (.bool true) (fun w _ => R_bin (x := (.tmp 21)) (y := (.const (.int .i64 80))) rfl (k := .i64) (a := ((ops.length : Nat) : Int)) (b := ((80 : Nat) : Int)) kr kr (i_gtrd.trans (by rw [decide_eq_true (by omega)])) w) ?_
    clear F; intro a F
    refine T_k F H (.bool true) ?_
    clear F; intro a F
    refine T_skip F kr kr ?_
    clear F; intro a F
    refine T_skip F kr kr ?_
    clear F; intro a F
    refine T_k F H (.bool true) ?_
    clear F; intro a F
    refine wpList_nil ?_
    refine hK6 _ _ ?_
    clear hK6
    try clear K6
    refine C_if F true rfl rfl ?_
    refine C_seqK (fun K7 hK7 => ?_)
    refine C_region ?_
    refine T_k F H (.bool true) ?_
    clear F; intro a F
    refine T_k F H (.bool true) ?_
    clear F; intro a F
    refine wpList_nil ?_
    refine hK7 _ _ ?_
    clear hK7
    try clear K7
    refine wp_ret ?_
    repeat (first | with_reducible refine then_ret ?_ | with_reducible refine inB_ret ?_)
    exact C_ret F H (rs := [.tmp 4]) rfl (vs := [.bool true]) (.tmp rfl .nil) (.bool true) rfl ⟨rfl, H.kept⟩
  · by_cases hfar : 1073741824 < first
    · skip
      refine C_enter Try.func5 rfl 163 Try.ntmps5 (Nat.le_of_ble_eq_true rfl) (fun a F => ?_)
      have H := Hp.start [] w
      replace F : Fm 163 [] [(0, .slice la ops.length c), (1, nw first)] a := F.weak _ (subL_of kr)
      refine C_seqK (fun K8 hK8 => ?_)
      refine C_region ?_
      refine T_k F H (.bool false) ?_
      clear F; intro a F
      refine wpList_nil ?_
      refine hK8 _ _ ?_
      clear hK8
      try clear K8
      refine C_seqK (fun K9 hK9 => ?_)
      refine C_region ?_
      refine T_call F H kr 8 #[] (.bool true) (fun w => kr) (awake22_any _) ?_
      clear F H; intro a v F H
      refine T_k F H (.bool true) ?_
      clear F; intro a F
      refine wpList_nil ?_
      refine hK9 _ _ ?_
      clear hK9
      try clear K9
      refine C_seqK (fun K10 hK10 => ?_)
      refine C_region ?_
      refine T_k F H (.agg #[.map none, .slice none 0 0]) ?_
      clear F; intro a F
      refine T_new F H kr (fun ad => pt ad 0) (ce #[.map none, .slice none 0 0] 28) (fun w => kr) ?_
      clear F H; intro aq11 a v F H
      refine T_k F H (pt aq11 0) ?_
      clear F; intro a F
      refine wpList_nil ?_
      replace H : Hp [] w [bk aq11 #[.map none, .slice none 0 0] 28] v := H.pick [0] kr _ rfl
      generalize aq11 = xb at F H
      replace H : Hp [] w ((⟨true, 0, 0, [], true, none, r0, []⟩ : InS).blks xb ++ []) v := H
      refine hK10 _ _ ?_
      clear hK10
      try clear K10
      refine C_seqK (fun K12 hK12 => ?_)
      refine C_seqK (fun K13 hK13 => ?_)
      refine C_region ?_
      refine T_k F H (.slice la ops.length c) ?_
      clear F; intro a F
      refine T_k F H (ni ops.length) ?_
      clear F; intro a F
      refine T_val F H kr (.bool false) (fun w _ => R_bin (x := (.tmp 21)) (y := (.const (.int .i64 80))) rfl (k := .i64) (a := ((ops.length : Nat) : Int)) (b := ((80 : Nat) : Int)) kr kr (i_gtrd.trans (by rw [decide_eq_false (by omega)])) w) ?_
      clear F; intro a F
      refine T_k F H (.bool false) ?_
      clear F; intro a F
      refine T_k F H (nw first) ?_
      clear F; intro a F
      refine T_val F H kr (.bool true) (fun w _ => R_bin (x := (.tmp 24)) (y := (.const (.int .u32 1073741824))) rfl (k := .u32) (a := ((first : Nat) : Int)) (b := ((1073741824 : Nat) : Int)) kr kr (i_gtrd.trans (by rw [decide_eq_true (by omega)])) w) ?_
      clear F; intro a F
      refine T_k F H (.bool true) ?_
      clear F; intro a F
      refine wpList_nil ?_
      refine hK13 _ _ ?_
      clear hK13
      try clear K13
      refine C_if F true rfl rfl ?_
      refine C_seqK (fun K14 hK14 => ?_)
      refine C_region ?_
      refine T_k F H (.bool true) ?_
      clear F; intro a F
      refine T_k F H (.bool true) ?_
      clear F; intro a F
      refine wpList_nil ?_
      refine hK14 _ _ ?_
      clear hK14
      try clear K14
      refine wp_ret ?_
      repeat (first | with_reducible refine then_ret ?_ | with_reducible refine inB_ret ?_)
      exact C_ret F H (rs := [.tmp 4]) rfl (vs := [.bool true]) (.tmp rfl .nil) (.bool true) rfl ⟨rfl, H.kept⟩
    · skip
      refine C_enter Try.func5 rfl 163 Try.ntmps5 (Nat.le_of_ble_eq_true rfl) (fun a F => ?_)
      have H := Hp.start [] w
      replace F : Fm 163 [] [(0, .slice la ops.length c), (1, nw first)] a := F.weak _ (subL_of kr)
      refine C_seqK (fun K15 hK15 => ?_)
      refine C_region ?_
      refine T_k F H (.bool false) ?_
      clear F; intro a F
      refine wpList_nil ?_
      refine hK15 _ _ ?_
      clear hK15
      try clear K15
      refine C_seqK (fun K16 hK16 => ?_)
      refine C_region ?_
      refine T_call F H kr 8 #[] (.bool true) (fun w => kr) (awake22_any _) ?_
      clear F H; intro a v F H
      refine T_k F H (.bool true) ?_
      clear F; intro a F
      refine wpList_nil ?_
      refine hK16 _ _ ?_
      clear hK16
      try clear K16
      refine C_seqK (fun K17 hK17 => ?_)
      refine C_region ?_
      refine T_k F H (.agg #[.map none, .slice none 0 0]) ?_
      clear F; intro a F
      refine T_new F H kr (fun ad => pt ad 0) (ce #[.map none, .slice none 0 0] 28) (fun w => kr) ?_
      clear F H; intro aq18 a v F H
      refine T_k F H (pt aq18 0) ?_
      clear F; intro a F
      refine wpList_nil ?_
      replace H : Hp [] w [bk aq18 #[.map none, .slice none 0 0] 28] v := H.pick [0] kr _ rfl
      generalize aq18 = xb at F H
      replace H : Hp [] w ((⟨true, 0, 0, [], true, none, r0, []⟩ : InS).blks xb ++ []) v := H
      refine hK17 _ _ ?_
      clear hK17
      try clear K17
      refine C_seqK (fun K19 hK19 => ?_)
      refine C_seqK (fun K20 hK20 => ?_)
      refine C_region ?_
      refine T_k F H (.slice la ops.length c) ?_
      clear F; intro a F
      refine T_k F H (ni ops.length) ?_
      clear F; intro a F
      refine T_val F H kr (.bool false) (fun w _ => R_bin (x := (.tmp 21)) (y := (.const (.int .i64 80))) rfl (k := .i64) (a := ((ops.length : Nat) : Int)) (b := ((80 : Nat) : Int)) kr kr (i_gtrd.trans (by rw [decide_eq_false (by omega)])) w) ?_
      clear F; intro a F
      refine T_k F H (.bool false) ?_
      clear F; intro a F
      refine T_k F H (nw first) ?_
      clear F; intro a F
      refine T_val F H kr (.bool false) (fun w _ => R_bin (x := (.tmp 24)) (y := (.const (.int .u32 1073741824))) rfl (k := .u32) (a := ((first : Nat) : Int)) (b := ((1073741824 : Nat) : Int)) kr kr (i_gtrd.trans (by rw [decide_eq_false (by omega)])) w) ?_
      clear F; intro a F
      refine T_k F H (.bool false) ?_
      clear F; intro a F
      refine wpList_nil ?_
      refine hK20 _ _ ?_
      clear hK20
      try clear K20
      refine C_if F false rfl rfl ?_
      refine wp_skip ?_
      refine hK19 _ _ ?_
      clear hK19
      try clear K19
      refine C_seqK (fun K21 hK21 => ?_)
      refine C_region ?_
      refine T_k F H (nw first) ?_
      clear F; intro a F
      refine T_k F H (nw first) ?_
      clear F; intro a F
      refine wpList_nil ?_
      refine hK21 _ _ ?_
      clear hK21
      try clear K21
      refine C_seqK (fun K22 hK22 => ?_)
      refine C_seqK (fun K23 hK23 => ?_)
      refine C_region ?_
      refine T_k F H (ni 0) ?_
      clear F; intro a F
      refine wpList_nil ?_
      refine hK23 _ _ ?_
      clear hK23
      try clear K23
      replace F : Fm 163 [] [(8, ni 0), (0, .slice la ops.length c), (5, .bool true), (6, pt xb 0), (7, nw first)] a := F.weak _ (subL_of kr)
      refine wp_block ?_
      refine C_loop (fun m a v => ∃ (k : Nat) (s : InS) (nx : Nat), k + m = ops.length ∧ (s.ok ∧ Near nx s.hD ∧ nx ≤ 1073741824 + k ∧ s.hD.length ≤ k) ∧ Fm 163 [] [(8, ni k), (0, .slice la ops.length c), (5, .bool true), (6, pt xb 0), (7, nw nx)] a ∧ Hp [] w (s.blks xb ++ []) v) ops.length ⟨0, (⟨true, 0, 0, [], true, none, r0, []⟩ : InS), first, Nat.zero_add _, ⟨i0_ok, near_nil _, by omega, Nat.zero_le _⟩, F, H⟩ ?_
      clear F H
      intro m a v ⟨k, s, nx, hk, ⟨hs, hN, hnx, hLs⟩, F, H⟩
      rcases m with _ | m
      rotate_left
      · obtain ⟨op, hop⟩ : ∃ op, ops[k]? = some op := ⟨_, List.getElem?_eq_getElem (show k < ops.length by omega)⟩
        obtain ⟨ga, oa, e1, hr⟩ := hI.j.at_ (fun e => by rw [e] at hop; cases hop)
        subst e1
        obtain ⟨hob, hnx32, hix⟩ := hI.j.each op (List.mem_of_getElem? hop)
        have hoo := hI.o op (List.mem_of_getElem? hop)
        obtain ⟨⟨hN2, hL2⟩, hcase⟩ := hold_cases (ix := op.ix) hN hoo
        obtain ⟨code, D2, hh⟩ : ∃ code D2, hHold nx op.ix op.b.l s.hD = (code, D2) := ⟨_, _, rfl⟩
        rw [hh] at hN2 hL2 hcase
        dsimp only at hN2 hL2 hcase
        rcases hcase with ⟨rfl, hc1⟩ | ⟨rfl, hc1, hc2⟩ | ⟨rfl, hc1, hc2⟩ | ⟨rfl, hc1, hc2, hmem⟩
        · skip
          replace F : Fm 163 [] [(8, ni k), (0, sc ga oa ops.length c), (5, .bool true), (6, pt xb 0), (7, nw nx)] a := F
          replace H : Hp [] w (s.blks xb ++ []) v := H
          refine C_seqK (fun K24 hK24 => ?_)
          refine C_seqK (fun K25 hK25 => ?_)
          refine C_region ?_
          refine T_k F H (ni k) ?_
          clear F; intro a F
          refine T_k F H (sc ga oa ops.length c) ?_
          clear F; intro a F
          refine T_k F H (ni ops.length) ?_
          clear F; intro a F
          refine T_val F H kr (.bool true) (fun w _ => R_bin (x := (.tmp 29)) (y := (.tmp 31)) rfl (k := .i64) (a := ((k : Nat) : Int)) (b := ((ops.length : Nat) : Int)) kr kr (i_lt (by omega)) w) ?_
          clear F; intro a F
          refine wpList_nil ?_
          refine hK25 _ _ ?_
          clear hK25
          try clear K25
          refine C_if F true rfl rfl ?_
          refine wp_skip ?_
          refine hK24 _ _ ?_
          clear hK24
          try clear K24
          refine C_seqK (fun K26 hK26 => ?_)
          refine wp_block ?_
          refine C_seqK (fun K27 hK27 => ?_)
          refine Z_region F H [(35, pt xb 0), (36, nw nx), (37, sc ga oa ops.length c), (38, ni k), (39, pt ga (oa + (k) * 6)), (40, pt ga ((oa + (k) * 6) + 2)), (41, nw op.ix), (42, sc ga oa ops.length c), (43, ni k), (44, pt ga (oa + (k) * 6)), (45, pt ga ((oa + (k) * 6) + 3)), (46, .slice op.b.ad op.b.l.length op.b.c), (47, .int .i64 84), (9, .int .i64 84)] [35, 36, 37, 38, 39, 40, 41, 42, 43, 44, 45, 46, 47, 9] 12 (fun v => ∃ s' : InS, (s'.ok ∧ s'.hD = D2) ∧ Hp [] w (s'.blks xb ++ []) v) 8 [] kr kr rfl ⟨?_, ?_, ?_, ?_, ?_, ?_, ?_, ?_, ?_, ?_, ?_, ?_, ?_, ?_, trivial⟩ ?_
          · exact Z_any kr (pt xb 0)
          · exact Z_any kr (nw nx)
          · exact Z_any kr (sc ga oa ops.length c)
          · exact Z_any kr (ni k)
          · exact Z_any kr (pt ga (oa + (k) * 6)) (fun w => R_indexS (k := .i64) (g := ga) (off := oa) (len := ops.length) (cap := c) (x := (.tmp 37)) (y := (.tmp 38)) rfl Try.underlying22 kr (k) kr (by omega) (sz := 6) kr w)
          · exact Z_any kr (pt ga ((oa + (k) * 6) + 2))
          · exact Z_pre (fu := 8) kr (nw op.ix) (fun w hk hl => R_ld (y := (.tmp 40)) rfl (g := ga) (off := ((oa + (k) * 6) + 2)) kr (opj_cell (j := 2) (hr.kept hk List.not_mem_nil) hop rfl) _ Try.underlying29 rfl)
          · exact Z_any kr (sc ga oa ops.length c)
          · exact Z_any kr (ni k)
          · exact Z_any kr (pt ga (oa + (k) * 6)) (fun w => R_indexS (k := .i64) (g := ga) (off := oa) (len := ops.length) (cap := c) (x := (.tmp 42)) (y := (.tmp 43)) rfl Try.underlying22 kr (k) kr (by omega) (sz := 6) kr w)
          · exact Z_any kr (pt ga ((oa + (k) * 6) + 3))
          · exact Z_pre (fu := 8) kr (.slice op.b.ad op.b.l.length op.b.c) (fun w hk hl => R_ld (y := (.tmp 45)) rfl (g := ga) (off := ((oa + (k) * 6) + 3)) kr (opj_cell (j := 3) (hr.kept hk List.not_mem_nil) hop rfl) _ Try.underlying30 rfl)
          · exact Z_call rfl 20 #[pt xb 0, nw nx, nw op.ix, .slice op.b.ad op.b.l.length op.b.c] (.int .i64 84) (fun w H => (hold_S hs H nx op.ix op.b (ix_rd0 H hob) hoo hN.o hix).mono fun e w' ⟨s', q1, q2, q3⟩ => ⟨by rw [q1, hh]; rfl, s', ⟨q2.1, by rw [q2.2.2, hh]⟩, q3⟩)
          · exact Z_any kr (.int .i64 84)
          clear F H; intro a v hKp F
          obtain ⟨s1, ⟨hs1, hD1⟩, H⟩ := hKp
          rw [← hD1] at hN2 hL2
          replace F : Fm 163 [] [(35, pt xb 0), (36, nw nx), (37, sc ga oa ops.length c), (38, ni k), (39, pt ga (oa + (k) * 6)), (40, pt ga ((oa + (k) * 6) + 2)), (41, nw op.ix), (42, sc ga oa ops.length c), (43, ni k), (44, pt ga (oa + (k) * 6)), (45, pt ga ((oa + (k) * 6) + 3)), (46, .slice op.b.ad op.b.l.length op.b.c), (47, .int .i64 84), (9, .int .i64 84), (32, .bool true), (31, ni ops.length), (30, sc ga oa ops.length c), (29, ni k), (8, ni k), (0, sc ga oa ops.length c), (5, .bool true), (6, pt xb 0), (7, nw nx)] a := F.weak _ (subL_of kr)
          refine ?_
          refine hK27 _ _ ?_
          clear hK27
          try clear K27
          refine C_seqK (fun K28 hK28 => ?_)
          refine C_region ?_
          refine T_k F H (sc ga oa ops.length c) ?_
          clear F; intro a F
          refine T_k F H (ni k) ?_
          clear F; intro a F
          refine T_val F H kr (pt ga (oa + (k) * 6)) (fun w _ => R_indexS (k := .i64) (g := ga) (off := oa) (len := ops.length) (cap := c) (x := (.tmp 48)) (y := (.tmp 49)) rfl Try.underlying22 kr (k) kr (by omega) (sz := 6) kr w) ?_
          clear F; intro a F
          refine T_k F H (pt ga ((oa + (k) * 6) + 2)) ?_
          clear F; intro a F
          refine T_valK F H kr (nw op.ix) (fun w hk hl => R_ld (y := (.tmp 51)) rfl (g := ga) (off := ((oa + (k) * 6) + 2)) kr (opj_cell (j := 2) (hr.kept hk List.not_mem_nil) hop rfl) _ Try.underlying29 rfl) ?_
          clear F; intro a F
          refine T_k F H (nw nx) ?_
          clear F; intro a F
          refine T_val F H kr (.bool false) (fun w _ => R_bin (x := (.tmp 52)) (y := (.tmp 53)) rfl (k := .u32) (a := ((op.ix : Nat) : Int)) (b := ((nx : Nat) : Int)) kr kr (i_gtrd.trans (by rw [decide_eq_false (by omega)])) w) ?_
          clear F; intro a F
          refine T_k F H (.bool false) ?_
          clear F; intro a F
          refine T_skip F kr kr ?_
          clear F; intro a F
          refine T_skip F kr kr ?_
          clear F; intro a F
          refine T_skip F kr kr ?_
          clear F; intro a F
          refine T_skip F kr kr ?_
          clear F; intro a F
          refine T_skip F kr kr ?_
          clear F; intro a F
          refine T_skip F kr kr ?_
          clear F; intro a F
          refine T_skip F kr kr ?_
          clear F; intro a F
          refine T_skip F kr kr ?_
          clear F; intro a F
          refine T_k F H (.bool false) ?_
          clear F; intro a F
          refine T_k F H (.bool false) ?_
          clear F; intro a F
          refine wpList_nil ?_
          refine hK28 _ _ ?_
          clear hK28
          try clear K28
          refine C_seqK (fun K29 hK29 => ?_)
          refine C_seqK (fun K30 hK30 => ?_)
          refine C_region ?_
          refine T_k F H (.bool false) ?_
          clear F; intro a F
          refine T_k F H (.int .i64 84) ?_
          clear F; intro a F
          refine T_val F H kr (.bool false) (fun w _ => R_bin (x := (.tmp 66)) (y := (.const (.int .i64 0))) rfl (k := .i64) (a := 84) (b := ((0 : Nat) : Int)) kr kr kr w) ?_
          clear F; intro a F
          refine T_k F H (.bool false) ?_
          clear F; intro a F
          refine T_k F H (.int .i64 84) ?_
          clear F; intro a F
          refine T_val F H kr (.bool false) (fun w _ => R_bin (x := (.tmp 69)) (y := (.const (.int .i64 63))) rfl (k := .i64) (a := 84) (b := ((63 : Nat) : Int)) kr kr kr w) ?_
          clear F; intro a F
          refine T_k F H (.bool false) ?_
          clear F; intro a F
          refine T_k F H (.bool false) ?_
          clear F; intro a F
          refine wpList_nil ?_
          refine hK30 _ _ ?_
          clear hK30
          try clear K30
          refine C_if F false rfl rfl ?_
          refine wp_skip ?_
          refine hK29 _ _ ?_
          clear hK29
          try clear K29
          refine C_seqK (fun K31 hK31 => ?_)
          refine (fun (hN : ∀ a v, (∃ (s3 : InS) (nx3 : Nat), (s3.ok ∧ Near nx3 s3.hD ∧ nx3 ≤ 1073741824 + k + 1 ∧ s3.hD.length ≤ k + 1) ∧ Fm 163 [] [(8, ni k), (0, sc ga oa ops.length c), (5, .bool true), (6, pt xb 0), (7, nw nx3)] a ∧ Hp [] w (s3.blks xb ++ []) v) → K31 a v) => ?_) (fun a v ⟨s3, nx3, ⟨hs3, hN3, hnx3, hL3⟩, F, H⟩ => hK31 _ _ ?_)
          · clear hK31
            by_cases hd : op.do_ = 2
            · have hN3 := hN2.turn
              by_cases hf : ∃ l', (nx + 1, l') ∈ s1.hD
              · obtain ⟨l', hl'⟩ := hf
                refine C_seqK (fun K32 hK32 => ?_)
                refine C_region ?_
                refine T_k F H (sc ga oa ops.length c) ?_
                clear F; intro a F
                refine T_k F H (ni k) ?_
                clear F; intro a F
                refine T_val F H kr (pt ga (oa + (k) * 6)) (fun w _ => R_indexS (k := .i64) (g := ga) (off := oa) (len := ops.length) (cap := c) (x := (.tmp 73)) (y := (.tmp 74)) rfl Try.underlying22 kr (k) kr (by omega) (sz := 6) kr w) ?_
                clear F; intro a F
                refine T_k F H (pt ga ((oa + (k) * 6) + 0)) ?_
                clear F; intro a F
                refine T_valK F H kr (.int .i64 op.do_) (fun w hk hl => R_ld (y := (.tmp 76)) rfl (g := ga) (off := ((oa + (k) * 6) + 0)) kr (opj_cell (j := 0) (hr.kept hk List.not_mem_nil) hop rfl) _ Try.underlying3 rfl) ?_
                clear F; intro a F
                refine T_val F H kr (.bool true) (fun w _ => R_bin (x := (.tmp 77)) (y := (.const (.int .i64 2))) rfl (k := .i64) (a := op.do_) (b := 2) kr kr (i_eqI'.trans (by rw [decide_eq_true hd])) w) ?_
                clear F; intro a F
                refine wpList_nil ?_
                refine hK32 _ _ ?_
                clear hK32
                try clear K32
                refine C_if F true rfl rfl ?_
                refine C_seqK (fun K33 hK33 => ?_)
                refine C_region ?_
                refine T_k F H (nw nx) ?_
                clear F; intro a F
                refine T_val F H kr (nw (nx + 1)) (fun w _ => R_bin (x := (.tmp 79)) (y := (.const (.int .u32 1))) rfl (k := .u32) (a := ((nx : Nat) : Int)) (b := ((1 : Nat) : Int)) kr kr (i_addu32 (a := nx) (b := 1) (by omega)) w) ?_
                clear F; intro a F
                refine T_k F H (nw (nx + 1)) ?_
                clear F; intro a F
                refine wpList_nil ?_
                refine hK33 _ _ ?_
                clear hK33
                try clear K33
                refine C_seqK (fun K34 hK34 => ?_)
                refine C_region ?_
                refine T_k F H (pt xb 0) ?_
                clear F; intro a F
                refine T_k F H (nw (nx + 1)) ?_
                clear F; intro a F
                refine T_callX (α := InS × Cl) F H kr 21 #[pt xb 0, nw (nx + 1)] (fun rX => .tuple #[rX.2.v, .bool true]) (fun rX => rX.1.blks xb ++ (rX.2.blks ++ [])) (fun rX => rX.1.ok ∧ rX.2.ok ∧ rX.2.l = l' ∧ rX.1.U = s1.U ∧ rX.1.hD = s1.hD.filter fun d => decide (nx + 1 < d.1)) (fun w => kr) (fun w H => turn_S1 hs1 H (nx + 1) l' hl') ?_
                clear F H; intro s35 a v Qs35 F H
                obtain ⟨s35, cs35⟩ := s35
                dsimp only at Qs35
                obtain ⟨hs35, hcs35, hls35, hus35, hms35⟩ := Qs35
                replace F : Fm 163 [] [(84, .tuple #[cs35.v, .bool true]), (83, nw (nx + 1)), (82, pt xb 0), (7, nw (nx + 1)), (80, nw (nx + 1)), (79, nw nx), (78, .bool true), (77, .int .i64 op.do_), (76, pt ga ((oa + (k) * 6) + 0)), (75, pt ga (oa + (k) * 6)), (74, ni k), (73, sc ga oa ops.length c), (72, .bool false), (71, .bool false), (70, .bool false), (69, .int .i64 84), (68, .bool false), (67, .bool false), (66, .int .i64 84), (65, .bool false), (10, .bool false), (64, .bool false), (63, undef), (62, undef), (61, undef), (60, undef), (59, undef), (58, undef), (57, undef), (56, undef), (55, .bool false), (54, .bool false), (53, nw nx), (52, nw op.ix), (51, pt ga ((oa + (k) * 6) + 2)), (50, pt ga (oa + (k) * 6)), (49, ni k), (48, sc ga oa ops.length c), (35, pt xb 0), (36, nw nx), (37, sc ga oa ops.length c), (38, ni k), (39, pt ga (oa + (k) * 6)), (40, pt ga ((oa + (k) * 6) + 2)), (41, nw op.ix), (42, sc ga oa ops.length c), (43, ni k), (44, pt ga (oa + (k) * 6)), (45, pt ga ((oa + (k) * 6) + 3)), (46, .slice op.b.ad op.b.l.length op.b.c), (47, .int .i64 84), (9, .int .i64 84), (32, .bool true), (31, ni ops.length), (30, sc ga oa ops.length c), (29, ni k), (8, ni k), (0, sc ga oa ops.length c), (5, .bool true), (6, pt xb 0)] a := F.weak _ (subL_of kr)
                replace H : Hp [] w (s35.blks xb ++ (cs35.blks ++ [])) v := H
                refine T_k F H (.tuple #[cs35.v, .bool true]) ?_
                clear F; intro a F
                refine T_k F H (cs35.v) ?_
                clear F; intro a F
                refine T_k F H (.bool true) ?_
                clear F; intro a F
                refine T_k F H (cs35.v) ?_
                clear F; intro a F
                refine T_k F H (.bool true) ?_
                clear F; intro a F
                refine wpList_nil ?_
                refine hK34 _ _ ?_
                clear hK34
                try clear K34
                refine C_seqK (fun K36 hK36 => ?_)
                refine C_region ?_
                refine T_k F H (pt xb 0) ?_
                clear F; intro a F
                refine T_k F H (nw (nx + 1)) ?_
                clear F; intro a F
                refine T_callX (α := InS) F H kr 21 #[pt xb 0, nw (nx + 1)] (fun rX => .tuple #[.slice none 0 0, .bool false]) (fun rX => rX.blks xb ++ (cs35.blks ++ [])) (fun rX => rX.ok ∧ rX.U = s35.U ∧ rX.hD = s35.hD.filter fun d => decide (nx + 1 < d.1)) (fun w => kr) (fun w H => turn_S0 hs35 H (nx + 1) (by rw [hms35]; exact hN3.none)) ?_
                clear F H; intro s37 a v Qs37 F H
                have hDz : s37.hD = s1.hD.filter fun d => decide (nx + 1 < d.1) := by rw [Qs37.2.2, hms35, hN3.again]
                refine T_k F H (.tuple #[.slice none 0 0, .bool false]) ?_
                clear F; intro a F
                refine T_k F H (.slice none 0 0) ?_
                clear F; intro a F
                refine T_k F H (.bool false) ?_
                clear F; intro a F
                refine T_k F H (.slice none 0 0) ?_
                clear F; intro a F
                refine T_k F H (.bool false) ?_
                clear F; intro a F
                refine wpList_nil ?_
                refine hK36 _ _ ?_
                clear hK36
                try clear K36
                refine C_seqK (fun K38 hK38 => ?_)
                refine C_region ?_
                refine T_k F H (.bool false) ?_
                clear F; intro a F
                refine T_k F H (.bool false) ?_
                clear F; intro a F
                refine T_k F H (.bool true) ?_
                clear F; intro a F
                refine T_k F H (.bool true) ?_
                clear F; intro a F
                refine T_k F H (.int .i64 84) ?_
                clear F; intro a F
                refine T_val F H kr (.bool false) (fun w _ => R_bin (x := (.tmp 97)) (y := (.const (.int .i64 0))) rfl (k := .i64) (a := 84) (b := ((0 : Nat) : Int)) kr kr kr w) ?_
                clear F; intro a F
                refine T_k F H (.bool false) ?_
                clear F; intro a F
                refine T_k F H (.bool false) ?_
                clear F; intro a F
                refine T_skip F kr kr ?_
                clear F; intro a F
                refine T_skip F kr kr ?_
                clear F; intro a F
                refine T_skip F kr kr ?_
                clear F; intro a F
                refine T_skip F kr kr ?_
                clear F; intro a F
                refine T_skip F kr kr ?_
                clear F; intro a F
                refine T_skip F kr kr ?_
                clear F; intro a F
                refine T_skip F kr kr ?_
                clear F; intro a F
                refine T_k F H (.bool false) ?_
                clear F; intro a F
                refine T_k F H (.bool false) ?_
                clear F; intro a F
                refine T_skip F kr kr ?_
                clear F; intro a F
                refine T_skip F kr kr ?_
                clear F; intro a F
                refine T_skip F kr kr ?_
                clear F; intro a F
                refine T_skip F kr kr ?_
                clear F; intro a F
                refine T_skip F kr kr ?_
                clear F; intro a F
                refine T_skip F kr kr ?_
                clear F; intro a F
                refine T_skip F kr kr ?_
                clear F; intro a F
                refine T_skip F kr kr ?_
                clear F; intro a F
                refine T_k F H (.bool false) ?_
                clear F; intro a F
                refine T_k F H (.bool false) ?_
                clear F; intro a F
                refine T_k F H (.bool false) ?_
                clear F; intro a F
                refine T_k F H (.bool true) ?_
                clear F; intro a F
                refine T_k F H (.bool false) ?_
                clear F; intro a F
                refine T_k F H (.bool false) ?_
                clear F; intro a F
                refine T_skip F kr kr ?_
                clear F; intro a F
                refine T_skip F kr kr ?_
                clear F; intro a F
                refine T_k F H (.bool false) ?_
                clear F; intro a F
                refine T_k F H (.bool false) ?_
                clear F; intro a F
                refine T_skip F kr kr ?_
                clear F; intro a F
                refine T_skip F kr kr ?_
                clear F; intro a F
                refine T_skip F kr kr ?_
                clear F; intro a F
                refine T_skip F kr kr ?_
                clear F; intro a F
                refine T_skip F kr kr ?_
                clear F; intro a F
                refine T_skip F kr kr ?_
                clear F; intro a F
                refine T_skip F kr kr ?_
                clear F; intro a F
                refine T_k F H (.bool false) ?_
                clear F; intro a F
                refine T_k F H (.bool false) ?_
                clear F; intro a F
                refine wpList_nil ?_
                refine hK38 _ _ ?_
                clear hK38
                try clear K38
                refine C_if F false rfl rfl ?_
                refine wp_skip ?_
                exact hN _ _ ⟨s37, nx + 1, ⟨Qs37.1, by rw [hDz]; exact hN3, by omega, by rw [hDz]; exact Nat.le_trans (List.length_filter_le _ _) (by omega)⟩, F.weak _ (subL_of kr), ix_weak (T := []) H⟩
              · skip
                refine C_seqK (fun K39 hK39 => ?_)
                refine C_region ?_
                refine T_k F H (sc ga oa ops.length c) ?_
                clear F; intro a F
                refine T_k F H (ni k) ?_
                clear F; intro a F
                refine T_val F H kr (pt ga (oa + (k) * 6)) (fun w _ => R_indexS (k := .i64) (g := ga) (off := oa) (len := ops.length) (cap := c) (x := (.tmp 73)) (y := (.tmp 74)) rfl Try.underlying22 kr (k) kr (by omega) (sz := 6) kr w) ?_
                clear F; intro a F
                refine T_k F H (pt ga ((oa + (k) * 6) + 0)) ?_
                clear F; intro a F
                refine T_valK F H kr (.int .i64 op.do_) (fun w hk hl => R_ld (y := (.tmp 76)) rfl (g := ga) (off := ((oa + (k) * 6) + 0)) kr (opj_cell (j := 0) (hr.kept hk List.not_mem_nil) hop rfl) _ Try.underlying3 rfl) ?_
                clear F; intro a F
                refine T_val F H kr (.bool true) (fun w _ => R_bin (x := (.tmp 77)) (y := (.const (.int .i64 2))) rfl (k := .i64) (a := op.do_) (b := 2) kr kr (i_eqI'.trans (by rw [decide_eq_true hd])) w) ?_
                clear F; intro a F
                refine wpList_nil ?_
                refine hK39 _ _ ?_
                clear hK39
                try clear K39
                refine C_if F true rfl rfl ?_
                refine C_seqK (fun K40 hK40 => ?_)
                refine C_region ?_
                refine T_k F H (nw nx) ?_
                clear F; intro a F
                refine T_val F H kr (nw (nx + 1)) (fun w _ => R_bin (x := (.tmp 79)) (y := (.const (.int .u32 1))) rfl (k := .u32) (a := ((nx : Nat) : Int)) (b := ((1 : Nat) : Int)) kr kr (i_addu32 (a := nx) (b := 1) (by omega)) w) ?_
                clear F; intro a F
                refine T_k F H (nw (nx + 1)) ?_
                clear F; intro a F
                refine wpList_nil ?_
                refine hK40 _ _ ?_
                clear hK40
                try clear K40
                refine C_seqK (fun K41 hK41 => ?_)
                refine C_region ?_
                refine T_k F H (pt xb 0) ?_
                clear F; intro a F
                refine T_k F H (nw (nx + 1)) ?_
                clear F; intro a F
                refine T_callX (α := InS) F H kr 21 #[pt xb 0, nw (nx + 1)] (fun rX => .tuple #[.slice none 0 0, .bool false]) (fun rX => rX.blks xb ++ []) (fun rX => rX.ok ∧ rX.U = s1.U ∧ rX.hD = s1.hD.filter fun d => decide (nx + 1 < d.1)) (fun w => kr) (fun w H => turn_S0 hs1 H (nx + 1) (fun d hd he => hf ⟨d.2, by rw [← he]; exact hd⟩)) ?_
                clear F H; intro s42 a v Qs42 F H
                refine T_k F H (.tuple #[.slice none 0 0, .bool false]) ?_
                clear F; intro a F
                refine T_k F H (.slice none 0 0) ?_
                clear F; intro a F
                refine T_k F H (.bool false) ?_
                clear F; intro a F
                refine T_k F H (.slice none 0 0) ?_
                clear F; intro a F
                refine T_k F H (.bool false) ?_
                clear F; intro a F
                refine wpList_nil ?_
                refine hK41 _ _ ?_
                clear hK41
                try clear K41
                refine C_seqK (fun K43 hK43 => ?_)
                refine C_region ?_
                refine T_k F H (pt xb 0) ?_
                clear F; intro a F
                refine T_k F H (nw (nx + 1)) ?_
                clear F; intro a F
                refine T_callX (α := InS) F H kr 21 #[pt xb 0, nw (nx + 1)] (fun rX => .tuple #[.slice none 0 0, .bool false]) (fun rX => rX.blks xb ++ []) (fun rX => rX.ok ∧ rX.U = s42.U ∧ rX.hD = s42.hD.filter fun d => decide (nx + 1 < d.1)) (fun w => kr) (fun w H => turn_S0 Qs42.1 H (nx + 1) (by rw [Qs42.2.2]; exact hN3.none)) ?_
                clear F H; intro s44 a v Qs44 F H
                have hDz : s44.hD = s1.hD.filter fun d => decide (nx + 1 < d.1) := by rw [Qs44.2.2, Qs42.2.2, hN3.again]
                refine T_k F H (.tuple #[.slice none 0 0, .bool false]) ?_
                clear F; intro a F
                refine T_k F H (.slice none 0 0) ?_
                clear F; intro a F
                refine T_k F H (.bool false) ?_
                clear F; intro a F
                refine T_k F H (.slice none 0 0) ?_
                clear F; intro a F
                refine T_k F H (.bool false) ?_
                clear F; intro a F
                refine wpList_nil ?_
                refine hK43 _ _ ?_
                clear hK43
                try clear K43
                refine C_seqK (fun K45 hK45 => ?_)
                refine C_region ?_
                refine T_k F H (.bool false) ?_
                clear F; intro a F
                refine T_k F H (.bool false) ?_
                clear F; intro a F
                refine T_k F H (.bool false) ?_
                clear F; intro a F
                refine T_k F H (.bool false) ?_
                clear F; intro a F
                refine T_skip F kr kr ?_
                clear F; intro a F
                refine T_skip F kr kr ?_
                clear F; intro a F
                refine T_k F H (.bool false) ?_
                clear F; intro a F
                refine T_k F H (.bool false) ?_
                clear F; intro a F
                refine T_skip F kr kr ?_
                clear F; intro a F
                refine T_skip F kr kr ?_
                clear F; intro a F
                refine T_skip F kr kr ?_
                clear F; intro a F
                refine T_skip F kr kr ?_
                clear F; intro a F
                refine T_skip F kr kr ?_
                clear F; intro a F
                refine T_skip F kr kr ?_
                clear F; intro a F
                refine T_skip F kr kr ?_
                clear F; intro a F
                refine T_k F H (.bool false) ?_
                clear F; intro a F
                refine T_k F H (.bool false) ?_
                clear F; intro a F
                refine T_skip F kr kr ?_
                clear F; intro a F
                refine T_skip F kr kr ?_
                clear F; intro a F
                refine T_skip F kr kr ?_
                clear F; intro a F
                refine T_skip F kr kr ?_
                clear F; intro a F
                refine T_skip F kr kr ?_
                clear F; intro a F
                refine T_skip F kr kr ?_
                clear F; intro a F
                refine T_skip F kr kr ?_
                clear F; intro a F
                refine T_skip F kr kr ?_
                clear F; intro a F
                refine T_k F H (.bool false) ?_
                clear F; intro a F
                refine T_k F H (.bool false) ?_
                clear F; intro a F
                refine T_k F H (.bool false) ?_
                clear F; intro a F
                refine T_k F H (.bool false) ?_
                clear F; intro a F
                refine T_k F H (.bool true) ?_
                clear F; intro a F
                refine T_k F H (.bool true) ?_
                clear F; intro a F
                refine T_k F H (.int .i64 84) ?_
                clear F; intro a F
                refine T_val F H kr (.bool false) (fun w _ => R_bin (x := (.tmp 124)) (y := (.const (.int .i64 0))) rfl (k := .i64) (a := 84) (b := ((0 : Nat) : Int)) kr kr kr w) ?_
                clear F; intro a F
                refine T_k F H (.bool false) ?_
                clear F; intro a F
                refine T_k F H (.bool false) ?_
                clear F; intro a F
                refine T_skip F kr kr ?_
                clear F; intro a F
                refine T_skip F kr kr ?_
                clear F; intro a F
                refine T_skip F kr kr ?_
                clear F; intro a F
                refine T_skip F kr kr ?_
                clear F; intro a F
                refine T_skip F kr kr ?_
                clear F; intro a F
                refine T_skip F kr kr ?_
                clear F; intro a F
                refine T_skip F kr kr ?_
                clear F; intro a F
                refine T_k F H (.bool false) ?_
                clear F; intro a F
                refine T_k F H (.bool false) ?_
                clear F; intro a F
                refine wpList_nil ?_
                refine hK45 _ _ ?_
                clear hK45
                try clear K45
                refine C_if F false rfl rfl ?_
                refine wp_skip ?_
                exact hN _ _ ⟨s44, nx + 1, ⟨Qs44.1, by rw [hDz]; exact hN3, by omega, by rw [hDz]; exact Nat.le_trans (List.length_filter_le _ _) (by omega)⟩, F.weak _ (subL_of kr), ix_weak (T := []) H⟩
            · skip
              refine C_seqK (fun K46 hK46 => ?_)
              refine C_region ?_
              refine T_k F H (sc ga oa ops.length c) ?_
              clear F; intro a F
              refine T_k F H (ni k) ?_
              clear F; intro a F
              refine T_val F H kr (pt ga (oa + (k) * 6)) (fun w _ => R_indexS (k := .i64) (g := ga) (off := oa) (len := ops.length) (cap := c) (x := (.tmp 73)) (y := (.tmp 74)) rfl Try.underlying22 kr (k) kr (by omega) (sz := 6) kr w) ?_
              clear F; intro a F
              refine T_k F H (pt ga ((oa + (k) * 6) + 0)) ?_
              clear F; intro a F
              refine T_valK F H kr (.int .i64 op.do_) (fun w hk hl => R_ld (y := (.tmp 76)) rfl (g := ga) (off := ((oa + (k) * 6) + 0)) kr (opj_cell (j := 0) (hr.kept hk List.not_mem_nil) hop rfl) _ Try.underlying3 rfl) ?_
              clear F; intro a F
              refine T_val F H kr (.bool false) (fun w _ => R_bin (x := (.tmp 77)) (y := (.const (.int .i64 2))) rfl (k := .i64) (a := op.do_) (b := 2) kr kr (i_eqI'.trans (by rw [decide_eq_false hd])) w) ?_
              clear F; intro a F
              refine wpList_nil ?_
              refine hK46 _ _ ?_
              clear hK46
              try clear K46
              refine C_if F false rfl rfl ?_
              refine wp_skip ?_
              exact hN _ _ ⟨s1, nx, ⟨hs1, hN2, by omega, by omega⟩, F.weak _ (subL_of kr), H⟩
          clear hK31
          try clear K31
          refine C_seqK (fun K47 hK47 => ?_)
          refine C_region ?_
          refine T_k F H (pt xb 0) ?_
          clear F; intro a F
          refine T_callX (α := Hs) F H kr 22 #[pt xb 0] (fun r => r.v) (fun r => s3.blks xb ++ (r.blks ++ [])) (fun r => r.ok ∧ r.cs.Pairwise (fun a b => a.1 ≤ b.1) ∧ r.D.Perm s3.hD) (fun w => kr) (fun w H => held_S hs3 (by omega) H) ?_
          clear F H; intro o a v ⟨ho, hpw, hpm⟩ F H
          rw [Hs.v_eq ho] at F
          have holen := Hs.le ho
          have hol : o.cs.length < 1000000 := by
            have h1 := hpm.length_eq
            unfold Hs.D at h1
            rw [List.length_map] at h1
            omega
          have hcell := fun k c (hk : o.cs[k]? = some c) => Hs.cell ho hk
          generalize o.ad = oad at F hcell
          generalize o.cp = ocp at F holen
          replace F : Fm 163 [] [(138, .slice oad o.cs.length ocp), (137, pt xb 0), (8, ni k), (0, sc ga oa ops.length c), (5, .bool true), (6, pt xb 0), (7, nw nx3)] a := F.weak _ (subL_of kr)
          replace H : Hp [] w (s3.blks xb ++ (o.blks ++ [])) v := H
          refine T_k F H (.slice oad o.cs.length ocp) ?_
          clear F; intro a F
          refine wpList_nil ?_
          refine hK47 _ _ ?_
          clear hK47
          try clear K47
          refine C_seqK (fun K48 hK48 => ?_)
          refine C_region ?_
          refine T_k F H (ni 0) ?_
          clear F; intro a F
          refine wpList_nil ?_
          refine hK48 _ _ ?_
          clear hK48
          try clear K48
          replace F : Fm 163 [] [(16, ni 0), (15, .slice oad o.cs.length ocp), (8, ni k), (0, sc ga oa ops.length c), (5, .bool true), (6, pt xb 0), (7, nw nx3)] a := F.weak _ (subL_of kr)
          refine wp_block ?_
          refine C_loop (fun mj a v => ∃ j, j + mj = o.cs.length ∧ Fm 163 [] [(16, ni j), (15, .slice oad o.cs.length ocp), (8, ni k), (0, sc ga oa ops.length c), (5, .bool true), (6, pt xb 0), (7, nw nx3)] a ∧ Hp [] w (s3.blks xb ++ (o.blks ++ [])) v) (o.cs.length) ⟨0, Nat.zero_add _, F, H⟩ ?_
          clear F H
          intro mj a v ⟨j, hj, F, H⟩
          rcases mj with _ | mj
          rotate_left
          · obtain ⟨hc0, hhc⟩ : ∃ hc0, o.cs[j]? = some hc0 := ⟨_, List.getElem?_eq_getElem (show j < o.cs.length by omega)⟩
            obtain ⟨hkey1, hkey2⟩ := hN3.at_ _ (Hs.key hpm hhc)
            dsimp only at hkey1 hkey2
            obtain ⟨gh, e2, hce⟩ := hcell j hc0 hhc
            subst e2
            replace F : Fm 163 [] [(16, ni j), (15, sc gh 0 o.cs.length ocp), (8, ni k), (0, sc ga oa ops.length c), (5, .bool true), (6, pt xb 0), (7, nw nx3)] a := F
            refine C_seqK (fun K49 hK49 => ?_)
            refine C_seqK (fun K50 hK50 => ?_)
            refine C_region ?_
            refine T_k F H (ni j) ?_
            clear F; intro a F
            refine T_k F H (sc gh 0 o.cs.length ocp) ?_
            clear F; intro a F
            refine T_k F H (ni o.cs.length) ?_
            clear F; intro a F
            refine T_val F H kr (.bool true) (fun w _ => R_bin (x := (.tmp 139)) (y := (.tmp 141)) rfl (k := .i64) (a := ((j : Nat) : Int)) (b := ((o.cs.length : Nat) : Int)) kr kr (i_lt (by omega)) w) ?_
            clear F; intro a F
            refine wpList_nil ?_
            refine hK50 _ _ ?_
            clear hK50
            try clear K50
            refine C_if F true rfl rfl ?_
            refine wp_skip ?_
            refine hK49 _ _ ?_
            clear hK49
            try clear K49
            refine C_seqK (fun K51 hK51 => ?_)
            refine wp_block ?_
            refine C_seqK (fun K52 hK52 => ?_)
            refine C_region ?_
            refine T_k F H (sc gh 0 o.cs.length ocp) ?_
            clear F; intro a F
            refine T_k F H (ni j) ?_
            clear F; intro a F
            refine T_val F H kr (pt gh (0 + (j) * 2)) (fun w _ => R_indexS (k := .i64) (g := gh) (off := 0) (len := o.cs.length) (cap := ocp) (x := (.tmp 145)) (y := (.tmp 146)) rfl Try.underlying31 kr (j) kr (by omega) (sz := 2) kr w) ?_
            clear F; intro a F
            refine T_k F H (pt gh ((0 + (j) * 2) + 0)) ?_
            clear F; intro a F
            refine T_valK F H kr (nw hc0.1) (fun w hk hl => R_ld (y := (.tmp 148)) rfl (g := gh) (off := ((0 + (j) * 2) + 0)) kr (hce _ (fun p hp => hl.held p (by simp only [List.mem_append, List.mem_cons, hp, true_or, or_true])) 0 _ rfl) _ Try.underlying29 rfl) ?_
            clear F; intro a F
            refine T_k F H (nw nx3) ?_
            clear F; intro a F
            refine T_val F H kr (.bool false) (fun w _ => R_bin (x := (.tmp 149)) (y := (.tmp 150)) rfl (k := .u32) (a := ((hc0.1 : Nat) : Int)) (b := ((nx3 : Nat) : Int)) kr kr (i_leqd.trans (by rw [decide_eq_false (by omega)])) w) ?_
            clear F; intro a F
            refine T_k F H (.bool false) ?_
            clear F; intro a F
            refine T_k F H (sc gh 0 o.cs.length ocp) ?_
            clear F; intro a F
            refine T_k F H (ni j) ?_
            clear F; intro a F
            refine T_val F H kr (pt gh (0 + (j) * 2)) (fun w _ => R_indexS (k := .i64) (g := gh) (off := 0) (len := o.cs.length) (cap := ocp) (x := (.tmp 153)) (y := (.tmp 154)) rfl Try.underlying31 kr (j) kr (by omega) (sz := 2) kr w) ?_
            clear F; intro a F
            refine T_k F H (pt gh ((0 + (j) * 2) + 0)) ?_
            clear F; intro a F
            refine T_valK F H kr (nw hc0.1) (fun w hk hl => R_ld (y := (.tmp 156)) rfl (g := gh) (off := ((0 + (j) * 2) + 0)) kr (hce _ (fun p hp => hl.held p (by simp only [List.mem_append, List.mem_cons, hp, true_or, or_true])) 0 _ rfl) _ Try.underlying29 rfl) ?_
            clear F; intro a F
            refine T_k F H (nw nx3) ?_
            clear F; intro a F
            refine T_val F H kr (nw (nx3 + 3)) (fun w _ => R_bin (x := (.tmp 158)) (y := (.const (.int .u32 3))) rfl (k := .u32) (a := ((nx3 : Nat) : Int)) (b := ((3 : Nat) : Int)) kr kr (i_addu32 (a := nx3) (b := 3) (by omega)) w) ?_
            clear F; intro a F
            refine T_val F H kr (.bool false) (fun w _ => R_bin (x := (.tmp 157)) (y := (.tmp 159)) rfl (k := .u32) (a := ((hc0.1 : Nat) : Int)) (b := (((nx3 + 3) : Nat) : Int)) kr kr (i_gtrd.trans (by rw [decide_eq_false (by omega)])) w) ?_
            clear F; intro a F
            refine T_k F H (.bool false) ?_
            clear F; intro a F
            refine wpList_nil ?_
            refine hK52 _ _ ?_
            clear hK52
            try clear K52
            refine C_if F false rfl rfl ?_
            refine wp_skip ?_
            refine hK51 _ _ ?_
            clear hK51
            try clear K51
            refine C_region ?_
            refine T_k F H (ni j) ?_
            clear F; intro a F
            refine T_val F H kr (ni (j + 1)) (fun w _ => R_bin (x := (.tmp 143)) (y := (.const (.int .i64 1))) rfl (k := .i64) (a := ((j : Nat) : Int)) (b := ((1 : Nat) : Int)) kr kr (i_addn64 (a := j) (b := 1) (by omega)) w) ?_
            clear F; intro a F
            refine T_k F H (ni (j + 1)) ?_
            clear F; intro a F
            refine wpList_nil ?_
            exact ⟨mj, Nat.lt_succ_self mj, j + 1, by omega, F.weak _ (subL_of kr), H⟩
          refine C_seqK (fun K53 hK53 => ?_)
          refine C_seqK (fun K54 hK54 => ?_)
          refine C_region ?_
          refine T_k F H (ni j) ?_
          clear F; intro a F
          refine T_k F H (.slice oad o.cs.length ocp) ?_
          clear F; intro a F
          refine T_k F H (ni o.cs.length) ?_
          clear F; intro a F
          refine T_val F H kr (.bool false) (fun w _ => R_bin (x := (.tmp 139)) (y := (.tmp 141)) rfl (k := .i64) (a := ((j : Nat) : Int)) (b := ((o.cs.length : Nat) : Int)) kr kr (i_nlt (by omega)) w) ?_
          clear F; intro a F
          refine wpList_nil ?_
          refine hK54 _ _ ?_
          clear hK54
          try clear K54
          refine C_if F false rfl rfl ?_
          refine wp_exit ?_
          refine hK26 _ _ ?_
          clear hK26
          try clear K26
          refine C_region ?_
          refine T_k F H (ni k) ?_
          clear F; intro a F
          refine T_val F H kr (ni (k + 1)) (fun w _ => R_bin (x := (.tmp 33)) (y := (.const (.int .i64 1))) rfl (k := .i64) (a := ((k : Nat) : Int)) (b := ((1 : Nat) : Int)) kr kr (i_addn64 (a := k) (b := 1) (by omega)) w) ?_
          clear F; intro a F
          refine T_k F H (ni (k + 1)) ?_
          clear F; intro a F
          refine wpList_nil ?_
          exact ⟨m, Nat.lt_succ_self m, k + 1, s3, nx3, by omega, ⟨hs3, hN3, by omega, hL3⟩, F.weak _ (subL_of kr), ix_weak (T := []) H⟩
        · skip
          replace F : Fm 163 [] [(8, ni k), (0, sc ga oa ops.length c), (5, .bool true), (6, pt xb 0), (7, nw nx)] a := F
          replace H : Hp [] w (s.blks xb ++ []) v := H
          refine C_seqK (fun K55 hK55 => ?_)
          refine C_seqK (fun K56 hK56 => ?_)
          refine C_region ?_
          refine T_k F H (ni k) ?_
          clear F; intro a F
          refine T_k F H (sc ga oa ops.length c) ?_
          clear F; intro a F
          refine T_k F H (ni ops.length) ?_
          clear F; intro a F
          refine T_val F H kr (.bool true) (fun w _ => R_bin (x := (.tmp 29)) (y := (.tmp 31)) rfl (k := .i64) (a := ((k : Nat) : Int)) (b := ((ops.length : Nat) : Int)) kr kr (i_lt (by omega)) w) ?_
          clear F; intro a F
          refine wpList_nil ?_
          refine hK56 _ _ ?_
          clear hK56
          try clear K56
          refine C_if F true rfl rfl ?_
          refine wp_skip ?_
          refine hK55 _ _ ?_
          clear hK55
          try clear K55
          refine C_seqK (fun K57 hK57 => ?_)
          refine wp_block ?_
          refine C_seqK (fun K58 hK58 => ?_)
          refine Z_region F H [(35, pt xb 0), (36, nw nx), (37, sc ga oa ops.length c), (38, ni k), (39, pt ga (oa + (k) * 6)), (40, pt ga ((oa + (k) * 6) + 2)), (41, nw op.ix), (42, sc ga oa ops.length c), (43, ni k), (44, pt ga (oa + (k) * 6)), (45, pt ga ((oa + (k) * 6) + 3)), (46, .slice op.b.ad op.b.l.length op.b.c), (47, .int .i64 85), (9, .int .i64 85)] [35, 36, 37, 38, 39, 40, 41, 42, 43, 44, 45, 46, 47, 9] 12 (fun v => ∃ s' : InS, (s'.ok ∧ s'.hD = D2) ∧ Hp [] w (s'.blks xb ++ []) v) 8 [] kr kr rfl ⟨?_, ?_, ?_, ?_, ?_, ?_, ?_, ?_, ?_, ?_, ?_, ?_, ?_, ?_, trivial⟩ ?_
          · exact Z_any kr (pt xb 0)
          · exact Z_any kr (nw nx)
          · exact Z_any kr (sc ga oa ops.length c)
          · exact Z_any kr (ni k)
          · exact Z_any kr (pt ga (oa + (k) * 6)) (fun w => R_indexS (k := .i64) (g := ga) (off := oa) (len := ops.length) (cap := c) (x := (.tmp 37)) (y := (.tmp 38)) rfl Try.underlying22 kr (k) kr (by omega) (sz := 6) kr w)
          · exact Z_any kr (pt ga ((oa + (k) * 6) + 2))
          · exact Z_pre (fu := 8) kr (nw op.ix) (fun w hk hl => R_ld (y := (.tmp 40)) rfl (g := ga) (off := ((oa + (k) * 6) + 2)) kr (opj_cell (j := 2) (hr.kept hk List.not_mem_nil) hop rfl) _ Try.underlying29 rfl)
          · exact Z_any kr (sc ga oa ops.length c)
          · exact Z_any kr (ni k)
          · exact Z_any kr (pt ga (oa + (k) * 6)) (fun w => R_indexS (k := .i64) (g := ga) (off := oa) (len := ops.length) (cap := c) (x := (.tmp 42)) (y := (.tmp 43)) rfl Try.underlying22 kr (k) kr (by omega) (sz := 6) kr w)
          · exact Z_any kr (pt ga ((oa + (k) * 6) + 3))
          · exact Z_pre (fu := 8) kr (.slice op.b.ad op.b.l.length op.b.c) (fun w hk hl => R_ld (y := (.tmp 45)) rfl (g := ga) (off := ((oa + (k) * 6) + 3)) kr (opj_cell (j := 3) (hr.kept hk List.not_mem_nil) hop rfl) _ Try.underlying30 rfl)
          · exact Z_call rfl 20 #[pt xb 0, nw nx, nw op.ix, .slice op.b.ad op.b.l.length op.b.c] (.int .i64 85) (fun w H => (hold_S hs H nx op.ix op.b (ix_rd0 H hob) hoo hN.o hix).mono fun e w' ⟨s', q1, q2, q3⟩ => ⟨by rw [q1, hh]; rfl, s', ⟨q2.1, by rw [q2.2.2, hh]⟩, q3⟩)
          · exact Z_any kr (.int .i64 85)
          clear F H; intro a v hKp F
          obtain ⟨s1, ⟨hs1, hD1⟩, H⟩ := hKp
          rw [← hD1] at hN2 hL2
          replace F : Fm 163 [] [(35, pt xb 0), (36, nw nx), (37, sc ga oa ops.length c), (38, ni k), (39, pt ga (oa + (k) * 6)), (40, pt ga ((oa + (k) * 6) + 2)), (41, nw op.ix), (42, sc ga oa ops.length c), (43, ni k), (44, pt ga (oa + (k) * 6)), (45, pt ga ((oa + (k) * 6) + 3)), (46, .slice op.b.ad op.b.l.length op.b.c), (47, .int .i64 85), (9, .int .i64 85), (32, .bool true), (31, ni ops.length), (30, sc ga oa ops.length c), (29, ni k), (8, ni k), (0, sc ga oa ops.length c), (5, .bool true), (6, pt xb 0), (7, nw nx)] a := F.weak _ (subL_of kr)
          refine ?_
          refine hK58 _ _ ?_
          clear hK58
          try clear K58
          refine C_seqK (fun K59 hK59 => ?_)
          refine C_region ?_
          refine T_k F H (sc ga oa ops.length c) ?_
          clear F; intro a F
          refine T_k F H (ni k) ?_
          clear F; intro a F
          refine T_val F H kr (pt ga (oa + (k) * 6)) (fun w _ => R_indexS (k := .i64) (g := ga) (off := oa) (len := ops.length) (cap := c) (x := (.tmp 48)) (y := (.tmp 49)) rfl Try.underlying22 kr (k) kr (by omega) (sz := 6) kr w) ?_
          clear F; intro a F
          refine T_k F H (pt ga ((oa + (k) * 6) + 2)) ?_
          clear F; intro a F
          refine T_valK F H kr (nw op.ix) (fun w hk hl => R_ld (y := (.tmp 51)) rfl (g := ga) (off := ((oa + (k) * 6) + 2)) kr (opj_cell (j := 2) (hr.kept hk List.not_mem_nil) hop rfl) _ Try.underlying29 rfl) ?_
          clear F; intro a F
          refine T_k F H (nw nx) ?_
          clear F; intro a F
          refine T_val F H kr (.bool true) (fun w _ => R_bin (x := (.tmp 52)) (y := (.tmp 53)) rfl (k := .u32) (a := ((op.ix : Nat) : Int)) (b := ((nx : Nat) : Int)) kr kr (i_gtrd.trans (by rw [decide_eq_true (by omega)])) w) ?_
          clear F; intro a F
          refine T_k F H (.bool true) ?_
          clear F; intro a F
          refine T_k F H (sc ga oa ops.length c) ?_
          clear F; intro a F
          refine T_k F H (ni k) ?_
          clear F; intro a F
          refine T_val F H kr (pt ga (oa + (k) * 6)) (fun w _ => R_indexS (k := .i64) (g := ga) (off := oa) (len := ops.length) (cap := c) (x := (.tmp 56)) (y := (.tmp 57)) rfl Try.underlying22 kr (k) kr (by omega) (sz := 6) kr w) ?_
          clear F; intro a F
          refine T_k F H (pt ga ((oa + (k) * 6) + 2)) ?_
          clear F; intro a F
          refine T_valK F H kr (nw op.ix) (fun w hk hl => R_ld (y := (.tmp 59)) rfl (g := ga) (off := ((oa + (k) * 6) + 2)) kr (opj_cell (j := 2) (hr.kept hk List.not_mem_nil) hop rfl) _ Try.underlying29 rfl) ?_
          clear F; intro a F
          refine T_k F H (nw nx) ?_
          clear F; intro a F
          refine T_val F H kr (nw (op.ix - nx)) (fun w _ => R_bin (x := (.tmp 60)) (y := (.tmp 61)) rfl (k := .u32) (a := ((op.ix : Nat) : Int)) (b := ((nx : Nat) : Int)) kr kr (i_subu32 (a := op.ix) (b := nx) (by omega) (by omega)) w) ?_
          clear F; intro a F
          refine T_val F H kr (.bool false) (fun w _ => R_bin (x := (.tmp 62)) (y := (.const (.int .u32 3))) rfl (k := .u32) (a := (((op.ix - nx) : Nat) : Int)) (b := ((3 : Nat) : Int)) kr kr (i_leqd.trans (by rw [decide_eq_false (by omega)])) w) ?_
          clear F; intro a F
          refine T_k F H (.bool false) ?_
          clear F; intro a F
          refine T_k F H (.bool false) ?_
          clear F; intro a F
          refine wpList_nil ?_
          refine hK59 _ _ ?_
          clear hK59
          try clear K59
          refine C_seqK (fun K60 hK60 => ?_)
          refine C_seqK (fun K61 hK61 => ?_)
          refine C_region ?_
          refine T_k F H (.bool false) ?_
          clear F; intro a F
          refine T_k F H (.int .i64 85) ?_
          clear F; intro a F
          refine T_val F H kr (.bool false) (fun w _ => R_bin (x := (.tmp 66)) (y := (.const (.int .i64 0))) rfl (k := .i64) (a := 85) (b := ((0 : Nat) : Int)) kr kr kr w) ?_
          clear F; intro a F
          refine T_k F H (.bool false) ?_
          clear F; intro a F
          refine T_k F H (.int .i64 85) ?_
          clear F; intro a F
          refine T_val F H kr (.bool false) (fun w _ => R_bin (x := (.tmp 69)) (y := (.const (.int .i64 63))) rfl (k := .i64) (a := 85) (b := ((63 : Nat) : Int)) kr kr kr w) ?_
          clear F; intro a F
          refine T_k F H (.bool false) ?_
          clear F; intro a F
          refine T_k F H (.bool false) ?_
          clear F; intro a F
          refine wpList_nil ?_
          refine hK61 _ _ ?_
          clear hK61
          try clear K61
          refine C_if F false rfl rfl ?_
          refine wp_skip ?_
          refine hK60 _ _ ?_
          clear hK60
          try clear K60
          refine C_seqK (fun K62 hK62 => ?_)
          refine (fun (hN : ∀ a v, (∃ (s3 : InS) (nx3 : Nat), (s3.ok ∧ Near nx3 s3.hD ∧ nx3 ≤ 1073741824 + k + 1 ∧ s3.hD.length ≤ k + 1) ∧ Fm 163 [] [(8, ni k), (0, sc ga oa ops.length c), (5, .bool true), (6, pt xb 0), (7, nw nx3)] a ∧ Hp [] w (s3.blks xb ++ []) v) → K62 a v) => ?_) (fun a v ⟨s3, nx3, ⟨hs3, hN3, hnx3, hL3⟩, F, H⟩ => hK62 _ _ ?_)
          · clear hK62
            by_cases hd : op.do_ = 2
            · have hN3 := hN2.turn
              by_cases hf : ∃ l', (nx + 1, l') ∈ s1.hD
              · obtain ⟨l', hl'⟩ := hf
                refine C_seqK (fun K63 hK63 => ?_)
                refine C_region ?_
                refine T_k F H (sc ga oa ops.length c) ?_
                clear F; intro a F
                refine T_k F H (ni k) ?_
                clear F; intro a F
                refine T_val F H kr (pt ga (oa + (k) * 6)) (fun w _ => R_indexS (k := .i64) (g := ga) (off := oa) (len := ops.length) (cap := c) (x := (.tmp 73)) (y := (.tmp 74)) rfl Try.underlying22 kr (k) kr (by omega) (sz := 6) kr w) ?_
                clear F; intro a F
                refine T_k F H (pt ga ((oa + (k) * 6) + 0)) ?_
                clear F; intro a F
                refine T_valK F H kr (.int .i64 op.do_) (fun w hk hl => R_ld (y := (.tmp 76)) rfl (g := ga) (off := ((oa + (k) * 6) + 0)) kr (opj_cell (j := 0) (hr.kept hk List.not_mem_nil) hop rfl) _ Try.underlying3 rfl) ?_
                clear F; intro a F
                refine T_val F H kr (.bool true) (fun w _ => R_bin (x := (.tmp 77)) (y := (.const (.int .i64 2))) rfl (k := .i64) (a := op.do_) (b := 2) kr kr (i_eqI'.trans (by rw [decide_eq_true hd])) w) ?_
                clear F; intro a F
                refine wpList_nil ?_
                refine hK63 _ _ ?_
                clear hK63
                try clear K63
                refine C_if F true rfl rfl ?_
                refine C_seqK (fun K64 hK64 => ?_)
                refine C_region ?_
                refine T_k F H (nw nx) ?_
                clear F; intro a F
                refine T_val F H kr (nw (nx + 1)) (fun w _ => R_bin (x := (.tmp 79)) (y := (.const (.int .u32 1))) rfl (k := .u32) (a := ((nx : Nat) : Int)) (b := ((1 : Nat) : Int)) kr kr (i_addu32 (a := nx) (b := 1) (by omega)) w) ?_
                clear F; intro a F
                refine T_k F H (nw (nx + 1)) ?_
                clear F; intro a F
                refine wpList_nil ?_
                refine hK64 _ _ ?_
                clear hK64
                try clear K64
                refine C_seqK (fun K65 hK65 => ?_)
                refine C_region ?_
                refine T_k F H (pt xb 0) ?_
                clear F; intro a F
                refine T_k F H (nw (nx + 1)) ?_
                clear F; intro a F
                refine T_callX (α := InS × Cl) F H kr 21 #[pt xb 0, nw (nx + 1)] (fun rX => .tuple #[rX.2.v, .bool true]) (fun rX => rX.1.blks xb ++ (rX.2.blks ++ [])) (fun rX => rX.1.ok ∧ rX.2.ok ∧ rX.2.l = l' ∧ rX.1.U = s1.U ∧ rX.1.hD = s1.hD.filter fun d => decide (nx + 1 < d.1)) (fun w => kr) (fun w H => turn_S1 hs1 H (nx + 1) l' hl') ?_
                clear F H; intro s66 a v Qs66 F H
                obtain ⟨s66, cs66⟩ := s66
                dsimp only at Qs66
                obtain ⟨hs66, hcs66, hls66, hus66, hms66⟩ := Qs66
                replace F : Fm 163 [] [(84, .tuple #[cs66.v, .bool true]), (83, nw (nx + 1)), (82, pt xb 0), (7, nw (nx + 1)), (80, nw (nx + 1)), (79, nw nx), (78, .bool true), (77, .int .i64 op.do_), (76, pt ga ((oa + (k) * 6) + 0)), (75, pt ga (oa + (k) * 6)), (74, ni k), (73, sc ga oa ops.length c), (72, .bool false), (71, .bool false), (70, .bool false), (69, .int .i64 85), (68, .bool false), (67, .bool false), (66, .int .i64 85), (65, .bool false), (10, .bool false), (64, .bool false), (63, .bool false), (62, nw (op.ix - nx)), (61, nw nx), (60, nw op.ix), (59, pt ga ((oa + (k) * 6) + 2)), (58, pt ga (oa + (k) * 6)), (57, ni k), (56, sc ga oa ops.length c), (55, .bool true), (54, .bool true), (53, nw nx), (52, nw op.ix), (51, pt ga ((oa + (k) * 6) + 2)), (50, pt ga (oa + (k) * 6)), (49, ni k), (48, sc ga oa ops.length c), (35, pt xb 0), (36, nw nx), (37, sc ga oa ops.length c), (38, ni k), (39, pt ga (oa + (k) * 6)), (40, pt ga ((oa + (k) * 6) + 2)), (41, nw op.ix), (42, sc ga oa ops.length c), (43, ni k), (44, pt ga (oa + (k) * 6)), (45, pt ga ((oa + (k) * 6) + 3)), (46, .slice op.b.ad op.b.l.length op.b.c), (47, .int .i64 85), (9, .int .i64 85), (32, .bool true), (31, ni ops.length), (30, sc ga oa ops.length c), (29, ni k), (8, ni k), (0, sc ga oa ops.length c), (5, .bool true), (6, pt xb 0)] a := F.weak _ (subL_of kr)
                replace H : Hp [] w (s66.blks xb ++ (cs66.blks ++ [])) v := H
                refine T_k F H (.tuple #[cs66.v, .bool true]) ?_
                clear F; intro a F
                refine T_k F H (cs66.v) ?_
                clear F; intro a F
                refine T_k F H (.bool true) ?_
                clear F; intro a F
                refine T_k F H (cs66.v) ?_
                clear F; intro a F
                refine T_k F H (.bool true) ?_
                clear F; intro a F
                refine wpList_nil ?_
                refine hK65 _ _ ?_
                clear hK65
                try clear K65
                refine C_seqK (fun K67 hK67 => ?_)
                refine C_region ?_
                refine T_k F H (pt xb 0) ?_
                clear F; intro a F
                refine T_k F H (nw (nx + 1)) ?_
                clear F; intro a F
                refine T_callX (α := InS) F H kr 21 #[pt xb 0, nw (nx + 1)] (fun rX => .tuple #[.slice none 0 0, .bool false]) (fun rX => rX.blks xb ++ (cs66.blks ++ [])) (fun rX => rX.ok ∧ rX.U = s66.U ∧ rX.hD = s66.hD.filter fun d => decide (nx + 1 < d.1)) (fun w => kr) (fun w H => turn_S0 hs66 H (nx + 1) (by rw [hms66]; exact hN3.none)) ?_
                clear F H; intro s68 a v Qs68 F H
                have hDz : s68.hD = s1.hD.filter fun d => decide (nx + 1 < d.1) := by rw [Qs68.2.2, hms66, hN3.again]
                refine T_k F H (.tuple #[.slice none 0 0, .bool false]) ?_
                clear F; intro a F
                refine T_k F H (.slice none 0 0) ?_
                clear F; intro a F
                refine T_k F H (.bool false) ?_
                clear F; intro a F
                refine T_k F H (.slice none 0 0) ?_
                clear F; intro a F
                refine T_k F H (.bool false) ?_
                clear F; intro a F
                refine wpList_nil ?_
                refine hK67 _ _ ?_
                clear hK67
                try clear K67
                refine C_seqK (fun K69 hK69 => ?_)
                refine C_region ?_
                refine T_k F H (.bool false) ?_
                clear F; intro a F
                refine T_k F H (.bool false) ?_
                clear F; intro a F
                refine T_k F H (.bool true) ?_
                clear F; intro a F
                refine T_k F H (.bool true) ?_
                clear F; intro a F
                refine T_k F H (.int .i64 85) ?_
                clear F; intro a F
                refine T_val F H kr (.bool false) (fun w _ => R_bin (x := (.tmp 97)) (y := (.const (.int .i64 0))) rfl (k := .i64) (a := 85) (b := ((0 : Nat) : Int)) kr kr kr w) ?_
                clear F; intro a F
                refine T_k F H (.bool false) ?_
                clear F; intro a F
                refine T_k F H (.bool false) ?_
                clear F; intro a F
                refine T_skip F kr kr ?_
                clear F; intro a F
                refine T_skip F kr kr ?_
                clear F; intro a F
                refine T_skip F kr kr ?_
                clear F; intro a F
                refine T_skip F kr kr ?_
                clear F; intro a F
                refine T_skip F kr kr ?_
                clear F; intro a F
                refine T_skip F kr kr ?_
                clear F; intro a F
                refine T_skip F kr kr ?_
                clear F; intro a F
                refine T_k F H (.bool false) ?_
                clear F; intro a F
                refine T_k F H (.bool false) ?_
                clear F; intro a F
                refine T_skip F kr kr ?_
                clear F; intro a F
                refine T_skip F kr kr ?_
                clear F; intro a F
                refine T_skip F kr kr ?_
                clear F; intro a F
                refine T_skip F kr kr ?_
                clear F; intro a F
                refine T_skip F kr kr ?_
                clear F; intro a F
                refine T_skip F kr kr ?_
                clear F; intro a F
                refine T_skip F kr kr ?_
                clear F; intro a F
                refine T_skip F kr kr ?_
                clear F; intro a F
                refine T_k F H (.bool false) ?_
                clear F; intro a F
                refine T_k F H (.bool false) ?_
                clear F; intro a F
                refine T_k F H (.bool false) ?_
                clear F; intro a F
                refine T_k F H (.bool true) ?_
                clear F; intro a F
                refine T_k F H (.bool false) ?_
                clear F; intro a F
                refine T_k F H (.bool false) ?_
                clear F; intro a F
                refine T_skip F kr kr ?_
                clear F; intro a F
                refine T_skip F kr kr ?_
                clear F; intro a F
                refine T_k F H (.bool false) ?_
                clear F; intro a F
                refine T_k F H (.bool false) ?_
                clear F; intro a F
                refine T_skip F kr kr ?_
                clear F; intro a F
                refine T_skip F kr kr ?_
                clear F; intro a F
                refine T_skip F kr kr ?_
                clear F; intro a F
                refine T_skip F kr kr ?_
                clear F; intro a F
                refine T_skip F kr kr ?_
                clear F; intro a F
                refine T_skip F kr kr ?_
                clear F; intro a F
                refine T_skip F kr kr ?_
                clear F; intro a F
                refine T_k F H (.bool false) ?_
                clear F; intro a F
                refine T_k F H (.bool false) ?_
                clear F; intro a F
                refine wpList_nil ?_
                refine hK69 _ _ ?_
                clear hK69
                try clear K69
                refine C_if F false rfl rfl ?_
                refine wp_skip ?_
                exact hN _ _ ⟨s68, nx + 1, ⟨Qs68.1, by rw [hDz]; exact hN3, by omega, by rw [hDz]; exact Nat.le_trans (List.length_filter_le _ _) (by omega)⟩, F.weak _ (subL_of kr), ix_weak (T := []) H⟩
              · skip
                refine C_seqK (fun K70 hK70 => ?_)
                refine C_region ?_
                refine T_k F H (sc ga oa ops.length c) ?_
                clear F; intro a F
                refine T_k F H (ni k) ?_
                clear F; intro a F
                refine T_val F H kr (pt ga (oa + (k) * 6)) (fun w _ => R_indexS (k := .i64) (g := ga) (off := oa) (len := ops.length) (cap := c) (x := (.tmp 73)) (y := (.tmp 74)) rfl Try.underlying22 kr (k) kr (by omega) (sz := 6) kr w) ?_
                clear F; intro a F
                refine T_k F H (pt ga ((oa + (k) * 6) + 0)) ?_
                clear F; intro a F
                refine T_valK F H kr (.int .i64 op.do_) (fun w hk hl => R_ld (y := (.tmp 76)) rfl (g := ga) (off := ((oa + (k) * 6) + 0)) kr (opj_cell (j := 0) (hr.kept hk List.not_mem_nil) hop rfl) _ Try.underlying3 rfl) ?_
                clear F; intro a F
                refine T_val F H kr (.bool true) (fun w _ => R_bin (x := (.tmp 77)) (y := (.const (.int .i64 2))) rfl (k := .i64) (a := op.do_) (b := 2) kr kr (i_eqI'.trans (by rw [decide_eq_true hd])) w) ?_
                clear F; intro a F
                refine wpList_nil ?_
                refine hK70 _ _ ?_
                clear hK70
                try clear K70
                refine C_if F true rfl rfl ?_
                refine C_seqK (fun K71 hK71 => ?_)
                refine C_region ?_
                refine T_k F H (nw nx) ?_
                clear F; intro a F
                refine T_val F H kr (nw (nx + 1)) (fun w _ => R_bin (x := (.tmp 79)) (y := (.const (.int .u32 1))) rfl (k := .u32) (a := ((nx : Nat) : Int)) (b := ((1 : Nat) : Int)) kr kr (i_addu32 (a := nx) (b := 1) (by omega)) w) ?_
                clear F; intro a F
                refine T_k F H (nw (nx + 1)) ?_
                clear F; intro a F
                refine wpList_nil ?_
                refine hK71 _ _ ?_
                clear hK71
                try clear K71
                refine C_seqK (fun K72 hK72 => ?_)
                refine C_region ?_
                refine T_k F H (pt xb 0) ?_
                clear F; intro a F
                refine T_k F H (nw (nx + 1)) ?_
                clear F; intro a F
                refine T_callX (α := InS) F H kr 21 #[pt xb 0, nw (nx + 1)] (fun rX => .tuple #[.slice none 0 0, .bool false]) (fun rX => rX.blks xb ++ []) (fun rX => rX.ok ∧ rX.U = s1.U ∧ rX.hD = s1.hD.filter fun d => decide (nx + 1 < d.1)) (fun w => kr) (fun w H => turn_S0 hs1 H (nx + 1) (fun d hd he => hf ⟨d.2, by rw [← he]; exact hd⟩)) ?_
                clear F H; intro s73 a v Qs73 F H
                refine T_k F H (.tuple #[.slice none 0 0, .bool false]) ?_
                clear F; intro a F
                refine T_k F H (.slice none 0 0) ?_
                clear F; intro a F
                refine T_k F H (.bool false) ?_
                clear F; intro a F
                refine T_k F H (.slice none 0 0) ?_
                clear F; intro a F
                refine T_k F H (.bool false) ?_
                clear F; intro a F
                refine wpList_nil ?_
                refine hK72 _ _ ?_
                clear hK72
                try clear K72
                refine C_seqK (fun K74 hK74 => ?_)
                refine C_region ?_
                refine T_k F H (pt xb 0) ?_
                clear F; intro a F
                refine T_k F H (nw (nx + 1)) ?_
                clear F; intro a F
                refine T_callX (α := InS) F H kr 21 #[pt xb 0, nw (nx + 1)] (fun rX => .tuple #[.slice none 0 0, .bool false]) (fun rX => rX.blks xb ++ []) (fun rX => rX.ok ∧ rX.U = s73.U ∧ rX.hD = s73.hD.filter fun d => decide (nx + 1 < d.1)) (fun w => kr) (fun w H => turn_S0 Qs73.1 H (nx + 1) (by rw [Qs73.2.2]; exact hN3.none)) ?_
                clear F H; intro s75 a v Qs75 F H
                have hDz : s75.hD = s1.hD.filter fun d => decide (nx + 1 < d.1) := by rw [Qs75.2.2, Qs73.2.2, hN3.again]
                refine T_k F H (.tuple #[.slice none 0 0, .bool false]) ?_
                clear F; intro a F
                refine T_k F H (.slice none 0 0) ?_
                clear F; intro a F
                refine T_k F H (.bool false) ?_
                clear F; intro a F
                refine T_k F H (.slice none 0 0) ?_
                clear F; intro a F
                refine T_k F H (.bool false) ?_
                clear F; intro a F
                refine wpList_nil ?_
                refine hK74 _ _ ?_
                clear hK74
                try clear K74
                refine C_seqK (fun K76 hK76 => ?_)
                refine C_region ?_
                refine T_k F H (.bool false) ?_
                clear F; intro a F
                refine T_k F H (.bool false) ?_
                clear F; intro a F
                refine T_k F H (.bool false) ?_
                clear F; intro a F
                refine T_k F H (.bool false) ?_
                clear F; intro a F
                refine T_skip F kr kr ?_
                clear F; intro a F
                refine T_skip F kr kr ?_
                clear F; intro a F
                refine T_k F H (.bool false) ?_
                clear F; intro a F
                refine T_k F H (.bool false) ?_
                clear F; intro a F
                refine T_skip F kr kr ?_
                clear F; intro a F
                refine T_skip F kr kr ?_
                clear F; intro a F
                refine T_skip F kr kr ?_
                clear F; intro a F
                refine T_skip F kr kr ?_
                clear F; intro a F
                refine T_skip F kr kr ?_
                clear F; intro a F
                refine T_skip F kr kr ?_
                clear F; intro a F
                refine T_skip F kr kr ?_
                clear F; intro a F
                refine T_k F H (.bool false) ?_
                clear F; intro a F
                refine T_k F H (.bool false) ?_
                clear F; intro a F
                refine T_skip F kr kr ?_
                clear F; intro a F
                refine T_skip F kr kr ?_
                clear F; intro a F
                refine T_skip F kr kr ?_
                clear F; intro a F
                refine T_skip F kr kr ?_
                clear F; intro a F
                refine T_skip F kr kr ?_
                clear F; intro a F
                refine T_skip F kr kr ?_
                clear F; intro a F
                refine T_skip F kr kr ?_
                clear F; intro a F
                refine T_skip F kr kr ?_
                clear F; intro a F
                refine T_k F H (.bool false) ?_
                clear F; intro a F
                refine T_k F H (.bool false) ?_
                clear F; intro a F
                refine T_k F H (.bool false) ?_
                clear F; intro a F
                refine T_k F H (.bool false) ?_
                clear F; intro a F
                refine T_k F H (.bool true) ?_
                clear F; intro a F
                refine T_k F H (.bool true) ?_
                clear F; intro a F
                refine T_k F H (.int .i64 85) ?_
                clear F; intro a F
                refine T_val F H kr (.bool false) (fun w _ => R_bin (x := (.tmp 124)) (y := (.const (.int .i64 0))) rfl (k := .i64) (a := 85) (b := ((0 : Nat) : Int)) kr kr kr w) ?_
                clear F; intro a F
                refine T_k F H (.bool false) ?_
                clear F; intro a F
                refine T_k F H (.bool false) ?_
                clear F; intro a F
                refine T_skip F kr kr ?_
                clear F; intro a F
                refine T_skip F kr kr ?_
                clear F; intro a F
                refine T_skip F kr kr ?_
                clear F; intro a F
                refine T_skip F kr kr ?_
                clear F; intro a F
                refine T_skip F kr kr ?_
                clear F; intro a F
                refine T_skip F kr kr ?_
                clear F; intro a F
                refine T_skip F kr kr ?_
                clear F; intro a F
                refine T_k F H (.bool false) ?_
                clear F; intro a F
                refine T_k F H (.bool false) ?_
                clear F; intro a F
                refine wpList_nil ?_
                refine hK76 _ _ ?_
                clear hK76
                try clear K76
                refine C_if F false rfl rfl ?_
                refine wp_skip ?_
                exact hN _ _ ⟨s75, nx + 1, ⟨Qs75.1, by rw [hDz]; exact hN3, by omega, by rw [hDz]; exact Nat.le_trans (List.length_filter_le _ _) (by omega)⟩, F.weak _ (subL_of kr), ix_weak (T := []) H⟩
            · skip
              refine C_seqK (fun K77 hK77 => ?_)
              refine C_region ?_
              refine T_k F H (sc ga oa ops.length c) ?_
              clear F; intro a F
              refine T_k F H (ni k) ?_
              clear F; intro a F
              refine T_val F H kr (pt ga (oa + (k) * 6)) (fun w _ => R_indexS (k := .i64) (g := ga) (off := oa) (len := ops.length) (cap := c) (x := (.tmp 73)) (y := (.tmp 74)) rfl Try.underlying22 kr (k) kr (by omega) (sz := 6) kr w) ?_
              clear F; intro a F
              refine T_k F H (pt ga ((oa + (k) * 6) + 0)) ?_
              clear F; intro a F
              refine T_valK F H kr (.int .i64 op.do_) (fun w hk hl => R_ld (y := (.tmp 76)) rfl (g := ga) (off := ((oa + (k) * 6) + 0)) kr (opj_cell (j := 0) (hr.kept hk List.not_mem_nil) hop rfl) _ Try.underlying3 rfl) ?_
              clear F; intro a F
              refine T_val F H kr (.bool false) (fun w _ => R_bin (x := (.tmp 77)) (y := (.const (.int .i64 2))) rfl (k := .i64) (a := op.do_) (b := 2) kr kr (i_eqI'.trans (by rw [decide_eq_false hd])) w) ?_
              clear F; intro a F
              refine wpList_nil ?_
              refine hK77 _ _ ?_
              clear hK77
              try clear K77
              refine C_if F false rfl rfl ?_
              refine wp_skip ?_
              exact hN _ _ ⟨s1, nx, ⟨hs1, hN2, by omega, by omega⟩, F.weak _ (subL_of kr), H⟩
          clear hK62
          try clear K62
          refine C_seqK (fun K78 hK78 => ?_)
          refine C_region ?_
          refine T_k F H (pt xb 0) ?_
          clear F; intro a F
          refine T_callX (α := Hs) F H kr 22 #[pt xb 0] (fun r => r.v) (fun r => s3.blks xb ++ (r.blks ++ [])) (fun r => r.ok ∧ r.cs.Pairwise (fun a b => a.1 ≤ b.1) ∧ r.D.Perm s3.hD) (fun w => kr) (fun w H => held_S hs3 (by omega) H) ?_
          clear F H; intro o a v ⟨ho, hpw, hpm⟩ F H
          rw [Hs.v_eq ho] at F
          have holen := Hs.le ho
          have hol : o.cs.length < 1000000 := by
            have h1 := hpm.length_eq
            unfold Hs.D at h1
            rw [List.length_map] at h1
            omega
          have hcell := fun k c (hk : o.cs[k]? = some c) => Hs.cell ho hk
          generalize o.ad = oad at F hcell
          generalize o.cp = ocp at F holen
          replace F : Fm 163 [] [(138, .slice oad o.cs.length ocp), (137, pt xb 0), (8, ni k), (0, sc ga oa ops.length c), (5, .bool true), (6, pt xb 0), (7, nw nx3)] a := F.weak _ (subL_of kr)
          replace H : Hp [] w (s3.blks xb ++ (o.blks ++ [])) v := H
          refine T_k F H (.slice oad o.cs.length ocp) ?_
          clear F; intro a F
          refine wpList_nil ?_
          refine hK78 _ _ ?_
          clear hK78
          try clear K78
          refine C_seqK (fun K79 hK79 => ?_)
          refine C_region ?_
          refine T_k F H (ni 0) ?_
          clear F; intro a F
          refine wpList_nil ?_
          refine hK79 _ _ ?_
          clear hK79
          try clear K79
          replace F : Fm 163 [] [(16, ni 0), (15, .slice oad o.cs.length ocp), (8, ni k), (0, sc ga oa ops.length c), (5, .bool true), (6, pt xb 0), (7, nw nx3)] a := F.weak _ (subL_of kr)
          refine wp_block ?_
          refine C_loop (fun mj a v => ∃ j, j + mj = o.cs.length ∧ Fm 163 [] [(16, ni j), (15, .slice oad o.cs.length ocp), (8, ni k), (0, sc ga oa ops.length c), (5, .bool true), (6, pt xb 0), (7, nw nx3)] a ∧ Hp [] w (s3.blks xb ++ (o.blks ++ [])) v) (o.cs.length) ⟨0, Nat.zero_add _, F, H⟩ ?_
          clear F H
          intro mj a v ⟨j, hj, F, H⟩
          rcases mj with _ | mj
          rotate_left
          · obtain ⟨hc0, hhc⟩ : ∃ hc0, o.cs[j]? = some hc0 := ⟨_, List.getElem?_eq_getElem (show j < o.cs.length by omega)⟩
            obtain ⟨hkey1, hkey2⟩ := hN3.at_ _ (Hs.key hpm hhc)
            dsimp only at hkey1 hkey2
            obtain ⟨gh, e2, hce⟩ := hcell j hc0 hhc
            subst e2
            replace F : Fm 163 [] [(16, ni j), (15, sc gh 0 o.cs.length ocp), (8, ni k), (0, sc ga oa ops.length c), (5, .bool true), (6, pt xb 0), (7, nw nx3)] a := F
            refine C_seqK (fun K80 hK80 => ?_)
            refine C_seqK (fun K81 hK81 => ?_)
            refine C_region ?_
            refine T_k F H (ni j) ?_
            clear F; intro a F
            refine T_k F H (sc gh 0 o.cs.length ocp) ?_
            clear F; intro a F
            refine T_k F H (ni o.cs.length) ?_
            clear F; intro a F
            refine T_val F H kr (.bool true) (fun w _ => R_bin (x := (.tmp 139)) (y := (.tmp 141)) rfl (k := .i64) (a := ((j : Nat) : Int)) (b := ((o.cs.length : Nat) : Int)) kr kr (i_lt (by omega)) w) ?_
            clear F; intro a F
            refine wpList_nil ?_
            refine hK81 _ _ ?_
            clear hK81
            try clear K81
            refine C_if F true rfl rfl ?_
            refine wp_skip ?_
            refine hK80 _ _ ?_
            clear hK80
            try clear K80
            refine C_seqK (fun K82 hK82 => ?_)
            refine wp_block ?_
            refine C_seqK (fun K83 hK83 => ?_)
            refine C_region ?_
            refine T_k F H (sc gh 0 o.cs.length ocp) ?_
            clear F; intro a F
            refine T_k F H (ni j) ?_
            clear F; intro a F
            refine T_val F H kr (pt gh (0 + (j) * 2)) (fun w _ => R_indexS (k := .i64) (g := gh) (off := 0) (len := o.cs.length) (cap := ocp) (x := (.tmp 145)) (y := (.tmp 146)) rfl Try.underlying31 kr (j) kr (by omega) (sz := 2) kr w) ?_
            clear F; intro a F
            refine T_k F H (pt gh ((0 + (j) * 2) + 0)) ?_
            clear F; intro a F
            refine T_valK F H kr (nw hc0.1) (fun w hk hl => R_ld (y := (.tmp 148)) rfl (g := gh) (off := ((0 + (j) * 2) + 0)) kr (hce _ (fun p hp => hl.held p (by simp only [List.mem_append, List.mem_cons, hp, true_or, or_true])) 0 _ rfl) _ Try.underlying29 rfl) ?_
            clear F; intro a F
            refine T_k F H (nw nx3) ?_
            clear F; intro a F
            refine T_val F H kr (.bool false) (fun w _ => R_bin (x := (.tmp 149)) (y := (.tmp 150)) rfl (k := .u32) (a := ((hc0.1 : Nat) : Int)) (b := ((nx3 : Nat) : Int)) kr kr (i_leqd.trans (by rw [decide_eq_false (by omega)])) w) ?_
            clear F; intro a F
            refine T_k F H (.bool false) ?_
            clear F; intro a F
            refine T_k F H (sc gh 0 o.cs.length ocp) ?_
            clear F; intro a F
            refine T_k F H (ni j) ?_
            clear F; intro a F
            refine T_val F H kr (pt gh (0 + (j) * 2)) (fun w _ => R_indexS (k := .i64) (g := gh) (off := 0) (len := o.cs.length) (cap := ocp) (x := (.tmp 153)) (y := (.tmp 154)) rfl Try.underlying31 kr (j) kr (by omega) (sz := 2) kr w) ?_
            clear F; intro a F
            refine T_k F H (pt gh ((0 + (j) * 2) + 0)) ?_
            clear F; intro a F
            refine T_valK F H kr (nw hc0.1) (fun w hk hl => R_ld (y := (.tmp 156)) rfl (g := gh) (off := ((0 + (j) * 2) + 0)) kr (hce _ (fun p hp => hl.held p (by simp only [List.mem_append, List.mem_cons, hp, true_or, or_true])) 0 _ rfl) _ Try.underlying29 rfl) ?_
            clear F; intro a F
            refine T_k F H (nw nx3) ?_
            clear F; intro a F
            refine T_val F H kr (nw (nx3 + 3)) (fun w _ => R_bin (x := (.tmp 158)) (y := (.const (.int .u32 3))) rfl (k := .u32) (a := ((nx3 : Nat) : Int)) (b := ((3 : Nat) : Int)) kr kr (i_addu32 (a := nx3) (b := 3) (by omega)) w) ?_
            clear F; intro a F
            refine T_val F H kr (.bool false) (fun w _ => R_bin (x := (.tmp 157)) (y := (.tmp 159)) rfl (k := .u32) (a := ((hc0.1 : Nat) : Int)) (b := (((nx3 + 3) : Nat) : Int)) kr kr (i_gtrd.trans (by rw [decide_eq_false (by omega)])) w) ?_
            clear F; intro a F
            refine T_k F H (.bool false) ?_
            clear F; intro a F
            refine wpList_nil ?_
            refine hK83 _ _ ?_
            clear hK83
            try clear K83
            refine C_if F false rfl rfl ?_
            refine wp_skip ?_
            refine hK82 _ _ ?_
            clear hK82
            try clear K82
            refine C_region ?_
            refine T_k F H (ni j) ?_
            clear F; intro a F
            refine T_val F H kr (ni (j + 1)) (fun w _ => R_bin (x := (.tmp 143)) (y := (.const (.int .i64 1))) rfl (k := .i64) (a := ((j : Nat) : Int)) (b := ((1 : Nat) : Int)) kr kr (i_addn64 (a := j) (b := 1) (by omega)) w) ?_
            clear F; intro a F
            refine T_k F H (ni (j + 1)) ?_
            clear F; intro a F
            refine wpList_nil ?_
            exact ⟨mj, Nat.lt_succ_self mj, j + 1, by omega, F.weak _ (subL_of kr), H⟩
          refine C_seqK (fun K84 hK84 => ?_)
          refine C_seqK (fun K85 hK85 => ?_)
          refine C_region ?_
          refine T_k F H (ni j) ?_
          clear F; intro a F
          refine T_k F H (.slice oad o.cs.length ocp) ?_
          clear F; intro a F
          refine T_k F H (ni o.cs.length) ?_
          clear F; intro a F
          refine T_val F H kr (.bool false) (fun w _ => R_bin (x := (.tmp 139)) (y := (.tmp 141)) rfl (k := .i64) (a := ((j : Nat) : Int)) (b := ((o.cs.length : Nat) : Int)) kr kr (i_nlt (by omega)) w) ?_
          clear F; intro a F
          refine wpList_nil ?_
          refine hK85 _ _ ?_
          clear hK85
          try clear K85
          refine C_if F false rfl rfl ?_
          refine wp_exit ?_
          refine hK57 _ _ ?_
          clear hK57
          try clear K57
          refine C_region ?_
          refine T_k F H (ni k) ?_
          clear F; intro a F
          refine T_val F H kr (ni (k + 1)) (fun w _ => R_bin (x := (.tmp 33)) (y := (.const (.int .i64 1))) rfl (k := .i64) (a := ((k : Nat) : Int)) (b := ((1 : Nat) : Int)) kr kr (i_addn64 (a := k) (b := 1) (by omega)) w) ?_
          clear F; intro a F
          refine T_k F H (ni (k + 1)) ?_
          clear F; intro a F
          refine wpList_nil ?_
          exact ⟨m, Nat.lt_succ_self m, k + 1, s3, nx3, by omega, ⟨hs3, hN3, by omega, hL3⟩, F.weak _ (subL_of kr), ix_weak (T := []) H⟩
        · skip
          replace F : Fm 163 [] [(8, ni k), (0, sc ga oa ops.length c), (5, .bool true), (6, pt xb 0), (7, nw nx)] a := F
          replace H : Hp [] w (s.blks xb ++ []) v := H
          refine C_seqK (fun K86 hK86 => ?_)
          refine C_seqK (fun K87 hK87 => ?_)
          refine C_region ?_
          refine T_k F H (ni k) ?_
          clear F; intro a F
          refine T_k F H (sc ga oa ops.length c) ?_
          clear F; intro a F
          refine T_k F H (ni ops.length) ?_
          clear F; intro a F
          refine T_val F H kr (.bool true) (fun w _ => R_bin (x := (.tmp 29)) (y := (.tmp 31)) rfl (k := .i64) (a := ((k : Nat) : Int)) (b := ((ops.length : Nat) : Int)) kr kr (i_lt (by omega)) w) ?_
          clear F; intro a F
          refine wpList_nil ?_
          refine hK87 _ _ ?_
          clear hK87
          try clear K87
          refine C_if F true rfl rfl ?_
          refine wp_skip ?_
          refine hK86 _ _ ?_
          clear hK86
          try clear K86
          refine C_seqK (fun K88 hK88 => ?_)
          refine wp_block ?_
          refine C_seqK (fun K89 hK89 => ?_)
          refine Z_region F H [(35, pt xb 0), (36, nw nx), (37, sc ga oa ops.length c), (38, ni k), (39, pt ga (oa + (k) * 6)), (40, pt ga ((oa + (k) * 6) + 2)), (41, nw op.ix), (42, sc ga oa ops.length c), (43, ni k), (44, pt ga (oa + (k) * 6)), (45, pt ga ((oa + (k) * 6) + 3)), (46, .slice op.b.ad op.b.l.length op.b.c), (47, .int .i64 63), (9, .int .i64 63)] [35, 36, 37, 38, 39, 40, 41, 42, 43, 44, 45, 46, 47, 9] 12 (fun v => ∃ s' : InS, (s'.ok ∧ s'.hD = D2) ∧ Hp [] w (s'.blks xb ++ []) v) 8 [] kr kr rfl ⟨?_, ?_, ?_, ?_, ?_, ?_, ?_, ?_, ?_, ?_, ?_, ?_, ?_, ?_, trivial⟩ ?_
          · exact Z_any kr (pt xb 0)
          · exact Z_any kr (nw nx)
          · exact Z_any kr (sc ga oa ops.length c)
          · exact Z_any kr (ni k)
          · exact Z_any kr (pt ga (oa + (k) * 6)) (fun w => R_indexS (k := .i64) (g := ga) (off := oa) (len := ops.length) (cap := c) (x := (.tmp 37)) (y := (.tmp 38)) rfl Try.underlying22 kr (k) kr (by omega) (sz := 6) kr w)
          · exact Z_any kr (pt ga ((oa + (k) * 6) + 2))
          · exact Z_pre (fu := 8) kr (nw op.ix) (fun w hk hl => R_ld (y := (.tmp 40)) rfl (g := ga) (off := ((oa + (k) * 6) + 2)) kr (opj_cell (j := 2) (hr.kept hk List.not_mem_nil) hop rfl) _ Try.underlying29 rfl)
          · exact Z_any kr (sc ga oa ops.length c)
          · exact Z_any kr (ni k)
          · exact Z_any kr (pt ga (oa + (k) * 6)) (fun w => R_indexS (k := .i64) (g := ga) (off := oa) (len := ops.length) (cap := c) (x := (.tmp 42)) (y := (.tmp 43)) rfl Try.underlying22 kr (k) kr (by omega) (sz := 6) kr w)
          · exact Z_any kr (pt ga ((oa + (k) * 6) + 3))
          · exact Z_pre (fu := 8) kr (.slice op.b.ad op.b.l.length op.b.c) (fun w hk hl => R_ld (y := (.tmp 45)) rfl (g := ga) (off := ((oa + (k) * 6) + 3)) kr (opj_cell (j := 3) (hr.kept hk List.not_mem_nil) hop rfl) _ Try.underlying30 rfl)
          · exact Z_call rfl 20 #[pt xb 0, nw nx, nw op.ix, .slice op.b.ad op.b.l.length op.b.c] (.int .i64 63) (fun w H => (hold_S hs H nx op.ix op.b (ix_rd0 H hob) hoo hN.o hix).mono fun e w' ⟨s', q1, q2, q3⟩ => ⟨by rw [q1, hh]; rfl, s', ⟨q2.1, by rw [q2.2.2, hh]⟩, q3⟩)
          · exact Z_any kr (.int .i64 63)
          clear F H; intro a v hKp F
          obtain ⟨s1, ⟨hs1, hD1⟩, H⟩ := hKp
          rw [← hD1] at hN2 hL2
          replace F : Fm 163 [] [(35, pt xb 0), (36, nw nx), (37, sc ga oa ops.length c), (38, ni k), (39, pt ga (oa + (k) * 6)), (40, pt ga ((oa + (k) * 6) + 2)), (41, nw op.ix), (42, sc ga oa ops.length c), (43, ni k), (44, pt ga (oa + (k) * 6)), (45, pt ga ((oa + (k) * 6) + 3)), (46, .slice op.b.ad op.b.l.length op.b.c), (47, .int .i64 63), (9, .int .i64 63), (32, .bool true), (31, ni ops.length), (30, sc ga oa ops.length c), (29, ni k), (8, ni k), (0, sc ga oa ops.length c), (5, .bool true), (6, pt xb 0), (7, nw nx)] a := F.weak _ (subL_of kr)
          refine ?_
          refine hK89 _ _ ?_
          clear hK89
          try clear K89
          refine C_seqK (fun K90 hK90 => ?_)
          refine C_region ?_
          refine T_k F H (sc ga oa ops.length c) ?_
          clear F; intro a F
          refine T_k F H (ni k) ?_
          clear F; intro a F
          refine T_val F H kr (pt ga (oa + (k) * 6)) (fun w _ => R_indexS (k := .i64) (g := ga) (off := oa) (len := ops.length) (cap := c) (x := (.tmp 48)) (y := (.tmp 49)) rfl Try.underlying22 kr (k) kr (by omega) (sz := 6) kr w) ?_
          clear F; intro a F
          refine T_k F H (pt ga ((oa + (k) * 6) + 2)) ?_
          clear F; intro a F
          refine T_valK F H kr (nw op.ix) (fun w hk hl => R_ld (y := (.tmp 51)) rfl (g := ga) (off := ((oa + (k) * 6) + 2)) kr (opj_cell (j := 2) (hr.kept hk List.not_mem_nil) hop rfl) _ Try.underlying29 rfl) ?_
          clear F; intro a F
          refine T_k F H (nw nx) ?_
          clear F; intro a F
          refine T_val F H kr (.bool true) (fun w _ => R_bin (x := (.tmp 52)) (y := (.tmp 53)) rfl (k := .u32) (a := ((op.ix : Nat) : Int)) (b := ((nx : Nat) : Int)) kr kr (i_gtrd.trans (by rw [decide_eq_true (by omega)])) w) ?_
          clear F; intro a F
          refine T_k F H (.bool true) ?_
          clear F; intro a F
          refine T_k F H (sc ga oa ops.length c) ?_
          clear F; intro a F
          refine T_k F H (ni k) ?_
          clear F; intro a F
          refine T_val F H kr (pt ga (oa + (k) * 6)) (fun w _ => R_indexS (k := .i64) (g := ga) (off := oa) (len := ops.length) (cap := c) (x := (.tmp 56)) (y := (.tmp 57)) rfl Try.underlying22 kr (k) kr (by omega) (sz := 6) kr w) ?_
          clear F; intro a F
          refine T_k F H (pt ga ((oa + (k) * 6) + 2)) ?_
          clear F; intro a F
          refine T_valK F H kr (nw op.ix) (fun w hk hl => R_ld (y := (.tmp 59)) rfl (g := ga) (off := ((oa + (k) * 6) + 2)) kr (opj_cell (j := 2) (hr.kept hk List.not_mem_nil) hop rfl) _ Try.underlying29 rfl) ?_
          clear F; intro a F
          refine T_k F H (nw nx) ?_
          clear F; intro a F
          refine T_val F H kr (nw (op.ix - nx)) (fun w _ => R_bin (x := (.tmp 60)) (y := (.tmp 61)) rfl (k := .u32) (a := ((op.ix : Nat) : Int)) (b := ((nx : Nat) : Int)) kr kr (i_subu32 (a := op.ix) (b := nx) (by omega) (by omega)) w) ?_
          clear F; intro a F
          refine T_val F H kr (.bool true) (fun w _ => R_bin (x := (.tmp 62)) (y := (.const (.int .u32 3))) rfl (k := .u32) (a := (((op.ix - nx) : Nat) : Int)) (b := ((3 : Nat) : Int)) kr kr (i_leqd.trans (by rw [decide_eq_true (by omega)])) w) ?_
          clear F; intro a F
          refine T_k F H (.bool true) ?_
          clear F; intro a F
          refine T_k F H (.bool true) ?_
          clear F; intro a F
          refine wpList_nil ?_
          refine hK90 _ _ ?_
          clear hK90
          try clear K90
          refine C_seqK (fun K91 hK91 => ?_)
          refine C_seqK (fun K92 hK92 => ?_)
          refine C_region ?_
          refine T_k F H (.bool true) ?_
          clear F; intro a F
          refine T_k F H (.int .i64 63) ?_
          clear F; intro a F
          refine T_val F H kr (.bool false) (fun w _ => R_bin (x := (.tmp 66)) (y := (.const (.int .i64 0))) rfl (k := .i64) (a := 63) (b := ((0 : Nat) : Int)) kr kr kr w) ?_
          clear F; intro a F
          refine T_k F H (.bool false) ?_
          clear F; intro a F
          refine T_k F H (.int .i64 63) ?_
          clear F; intro a F
          refine T_val F H kr (.bool true) (fun w _ => R_bin (x := (.tmp 69)) (y := (.const (.int .i64 63))) rfl (k := .i64) (a := 63) (b := ((63 : Nat) : Int)) kr kr kr w) ?_
          clear F; intro a F
          refine T_k F H (.bool true) ?_
          clear F; intro a F
          refine T_k F H (.bool false) ?_
          clear F; intro a F
          refine wpList_nil ?_
          refine hK92 _ _ ?_
          clear hK92
          try clear K92
          refine C_if F false rfl rfl ?_
          refine wp_skip ?_
          refine hK91 _ _ ?_
          clear hK91
          try clear K91
          refine C_seqK (fun K93 hK93 => ?_)
          refine (fun (hN : ∀ a v, (∃ (s3 : InS) (nx3 : Nat), (s3.ok ∧ Near nx3 s3.hD ∧ nx3 ≤ 1073741824 + k + 1 ∧ s3.hD.length ≤ k + 1) ∧ Fm 163 [] [(8, ni k), (0, sc ga oa ops.length c), (5, .bool true), (6, pt xb 0), (7, nw nx3)] a ∧ Hp [] w (s3.blks xb ++ []) v) → K93 a v) => ?_) (fun a v ⟨s3, nx3, ⟨hs3, hN3, hnx3, hL3⟩, F, H⟩ => hK93 _ _ ?_)
          · clear hK93
            by_cases hd : op.do_ = 2
            · have hN3 := hN2.turn
              by_cases hf : ∃ l', (nx + 1, l') ∈ s1.hD
              · obtain ⟨l', hl'⟩ := hf
                refine C_seqK (fun K94 hK94 => ?_)
                refine C_region ?_
                refine T_k F H (sc ga oa ops.length c) ?_
                clear F; intro a F
                refine T_k F H (ni k) ?_
                clear F; intro a F
                refine T_val F H kr (pt ga (oa + (k) * 6)) (fun w _ => R_indexS (k := .i64) (g := ga) (off := oa) (len := ops.length) (cap := c) (x := (.tmp 73)) (y := (.tmp 74)) rfl Try.underlying22 kr (k) kr (by omega) (sz := 6) kr w) ?_
                clear F; intro a F
                refine T_k F H (pt ga ((oa + (k) * 6) + 0)) ?_
                clear F; intro a F
                refine T_valK F H kr (.int .i64 op.do_) (fun w hk hl => R_ld (y := (.tmp 76)) rfl (g := ga) (off := ((oa + (k) * 6) + 0)) kr (opj_cell (j := 0) (hr.kept hk List.not_mem_nil) hop rfl) _ Try.underlying3 rfl) ?_
                clear F; intro a F
                refine T_val F H kr (.bool true) (fun w _ => R_bin (x := (.tmp 77)) (y := (.const (.int .i64 2))) rfl (k := .i64) (a := op.do_) (b := 2) kr kr (i_eqI'.trans (by rw [decide_eq_true hd])) w) ?_
                clear F; intro a F
                refine wpList_nil ?_
                refine hK94 _ _ ?_
                clear hK94
                try clear K94
                refine C_if F true rfl rfl ?_
                refine C_seqK (fun K95 hK95 => ?_)
                refine C_region ?_
                refine T_k F H (nw nx) ?_
                clear F; intro a F
                refine T_val F H kr (nw (nx + 1)) (fun w _ => R_bin (x := (.tmp 79)) (y := (.const (.int .u32 1))) rfl (k := .u32) (a := ((nx : Nat) : Int)) (b := ((1 : Nat) : Int)) kr kr (i_addu32 (a := nx) (b := 1) (by omega)) w) ?_
                clear F; intro a F
                refine T_k F H (nw (nx + 1)) ?_
                clear F; intro a F
                refine wpList_nil ?_
                refine hK95 _ _ ?_
                clear hK95
                try clear K95
                refine C_seqK (fun K96 hK96 => ?_)
                refine C_region ?_
                refine T_k F H (pt xb 0) ?_
                clear F; intro a F
                refine T_k F H (nw (nx + 1)) ?_
                clear F; intro a F
                refine T_callX (α := InS × Cl) F H kr 21 #[pt xb 0, nw (nx + 1)] (fun rX => .tuple #[rX.2.v, .bool true]) (fun rX => rX.1.blks xb ++ (rX.2.blks ++ [])) (fun rX => rX.1.ok ∧ rX.2.ok ∧ rX.2.l = l' ∧ rX.1.U = s1.U ∧ rX.1.hD = s1.hD.filter fun d => decide (nx + 1 < d.1)) (fun w => kr) (fun w H => turn_S1 hs1 H (nx + 1) l' hl') ?_
                clear F H; intro s97 a v Qs97 F H
                obtain ⟨s97, cs97⟩ := s97
                dsimp only at Qs97
                obtain ⟨hs97, hcs97, hls97, hus97, hms97⟩ := Qs97
                replace F : Fm 163 [] [(84, .tuple #[cs97.v, .bool true]), (83, nw (nx + 1)), (82, pt xb 0), (7, nw (nx + 1)), (80, nw (nx + 1)), (79, nw nx), (78, .bool true), (77, .int .i64 op.do_), (76, pt ga ((oa + (k) * 6) + 0)), (75, pt ga (oa + (k) * 6)), (74, ni k), (73, sc ga oa ops.length c), (72, .bool false), (71, .bool true), (70, .bool true), (69, .int .i64 63), (68, .bool false), (67, .bool false), (66, .int .i64 63), (65, .bool true), (10, .bool true), (64, .bool true), (63, .bool true), (62, nw (op.ix - nx)), (61, nw nx), (60, nw op.ix), (59, pt ga ((oa + (k) * 6) + 2)), (58, pt ga (oa + (k) * 6)), (57, ni k), (56, sc ga oa ops.length c), (55, .bool true), (54, .bool true), (53, nw nx), (52, nw op.ix), (51, pt ga ((oa + (k) * 6) + 2)), (50, pt ga (oa + (k) * 6)), (49, ni k), (48, sc ga oa ops.length c), (35, pt xb 0), (36, nw nx), (37, sc ga oa ops.length c), (38, ni k), (39, pt ga (oa + (k) * 6)), (40, pt ga ((oa + (k) * 6) + 2)), (41, nw op.ix), (42, sc ga oa ops.length c), (43, ni k), (44, pt ga (oa + (k) * 6)), (45, pt ga ((oa + (k) * 6) + 3)), (46, .slice op.b.ad op.b.l.length op.b.c), (47, .int .i64 63), (9, .int .i64 63), (32, .bool true), (31, ni ops.length), (30, sc ga oa ops.length c), (29, ni k), (8, ni k), (0, sc ga oa ops.length c), (5, .bool true), (6, pt xb 0)] a := F.weak _ (subL_of kr)
                replace H : Hp [] w (s97.blks xb ++ (cs97.blks ++ [])) v := H
                refine T_k F H (.tuple #[cs97.v, .bool true]) ?_
                clear F; intro a F
                refine T_k F H (cs97.v) ?_
                clear F; intro a F
                refine T_k F H (.bool true) ?_
                clear F; intro a F
                refine T_k F H (cs97.v) ?_
                clear F; intro a F
                refine T_k F H (.bool true) ?_
                clear F; intro a F
                refine wpList_nil ?_
                refine hK96 _ _ ?_
                clear hK96
                try clear K96
                refine C_seqK (fun K98 hK98 => ?_)
                refine C_region ?_
                refine T_k F H (pt xb 0) ?_
                clear F; intro a F
                refine T_k F H (nw (nx + 1)) ?_
                clear F; intro a F
                refine T_callX (α := InS) F H kr 21 #[pt xb 0, nw (nx + 1)] (fun rX => .tuple #[.slice none 0 0, .bool false]) (fun rX => rX.blks xb ++ (cs97.blks ++ [])) (fun rX => rX.ok ∧ rX.U = s97.U ∧ rX.hD = s97.hD.filter fun d => decide (nx + 1 < d.1)) (fun w => kr) (fun w H => turn_S0 hs97 H (nx + 1) (by rw [hms97]; exact hN3.none)) ?_
                clear F H; intro s99 a v Qs99 F H
                have hDz : s99.hD = s1.hD.filter fun d => decide (nx + 1 < d.1) := by rw [Qs99.2.2, hms97, hN3.again]
                refine T_k F H (.tuple #[.slice none 0 0, .bool false]) ?_
                clear F; intro a F
                refine T_k F H (.slice none 0 0) ?_
                clear F; intro a F
                refine T_k F H (.bool false) ?_
                clear F; intro a F
                refine T_k F H (.slice none 0 0) ?_
                clear F; intro a F
                refine T_k F H (.bool false) ?_
                clear F; intro a F
                refine wpList_nil ?_
                refine hK98 _ _ ?_
                clear hK98
                try clear K98
                refine C_seqK (fun K100 hK100 => ?_)
                refine C_region ?_
                refine T_k F H (.bool false) ?_
                clear F; intro a F
                refine T_k F H (.bool false) ?_
                clear F; intro a F
                refine T_k F H (.bool true) ?_
                clear F; intro a F
                refine T_k F H (.bool true) ?_
                clear F; intro a F
                refine T_k F H (.int .i64 63) ?_
                clear F; intro a F
                refine T_val F H kr (.bool false) (fun w _ => R_bin (x := (.tmp 97)) (y := (.const (.int .i64 0))) rfl (k := .i64) (a := 63) (b := ((0 : Nat) : Int)) kr kr kr w) ?_
                clear F; intro a F
                refine T_k F H (.bool false) ?_
                clear F; intro a F
                refine T_k F H (.bool false) ?_
                clear F; intro a F
                refine T_skip F kr kr ?_
                clear F; intro a F
                refine T_skip F kr kr ?_
                clear F; intro a F
                refine T_skip F kr kr ?_
                clear F; intro a F
                refine T_skip F kr kr ?_
                clear F; intro a F
                refine T_skip F kr kr ?_
                clear F; intro a F
                refine T_skip F kr kr ?_
                clear F; intro a F
                refine T_skip F kr kr ?_
                clear F; intro a F
                refine T_k F H (.bool false) ?_
                clear F; intro a F
                refine T_k F H (.bool false) ?_
                clear F; intro a F
                refine T_skip F kr kr ?_
                clear F; intro a F
                refine T_skip F kr kr ?_
                clear F; intro a F
                refine T_skip F kr kr ?_
                clear F; intro a F
                refine T_skip F kr kr ?_
                clear F; intro a F
                refine T_skip F kr kr ?_
                clear F; intro a F
                refine T_skip F kr kr ?_
                clear F; intro a F
                refine T_skip F kr kr ?_
                clear F; intro a F
                refine T_skip F kr kr ?_
                clear F; intro a F
                refine T_k F H (.bool false) ?_
                clear F; intro a F
                refine T_k F H (.bool false) ?_
                clear F; intro a F
                refine T_k F H (.bool false) ?_
                clear F; intro a F
                refine T_k F H (.bool true) ?_
                clear F; intro a F
                refine T_k F H (.bool false) ?_
                clear F; intro a F
                refine T_k F H (.bool false) ?_
                clear F; intro a F
                refine T_skip F kr kr ?_
                clear F; intro a F
                refine T_skip F kr kr ?_
                clear F; intro a F
                refine T_k F H (.bool false) ?_
                clear F; intro a F
                refine T_k F H (.bool false) ?_
                clear F; intro a F
                refine T_skip F kr kr ?_
                clear F; intro a F
                refine T_skip F kr kr ?_
                clear F; intro a F
                refine T_skip F kr kr ?_
                clear F; intro a F
                refine T_skip F kr kr ?_
                clear F; intro a F
                refine T_skip F kr kr ?_
                clear F; intro a F
                refine T_skip F kr kr ?_
                clear F; intro a F
                refine T_skip F kr kr ?_
                clear F; intro a F
                refine T_k F H (.bool false) ?_
                clear F; intro a F
                refine T_k F H (.bool false) ?_
                clear F; intro a F
                refine wpList_nil ?_
                refine hK100 _ _ ?_
                clear hK100
                try clear K100
                refine C_if F false rfl rfl ?_
                refine wp_skip ?_
                exact hN _ _ ⟨s99, nx + 1, ⟨Qs99.1, by rw [hDz]; exact hN3, by omega, by rw [hDz]; exact Nat.le_trans (List.length_filter_le _ _) (by omega)⟩, F.weak _ (subL_of kr), ix_weak (T := []) H⟩
              · skip
                refine C_seqK (fun K101 hK101 => ?_)
                refine C_region ?_
                refine T_k F H (sc ga oa ops.length c) ?_
                clear F; intro a F
                refine T_k F H (ni k) ?_
                clear F; intro a F
                refine T_val F H kr (pt ga (oa + (k) * 6)) (fun w _ => R_indexS (k := .i64) (g := ga) (off := oa) (len := ops.length) (cap := c) (x := (.tmp 73)) (y := (.tmp 74)) rfl Try.underlying22 kr (k) kr (by omega) (sz := 6) kr w) ?_
                clear F; intro a F
                refine T_k F H (pt ga ((oa + (k) * 6) + 0)) ?_
                clear F; intro a F
                refine T_valK F H kr (.int .i64 op.do_) (fun w hk hl => R_ld (y := (.tmp 76)) rfl (g := ga) (off := ((oa + (k) * 6) + 0)) kr (opj_cell (j := 0) (hr.kept hk List.not_mem_nil) hop rfl) _ Try.underlying3 rfl) ?_
                clear F; intro a F
                refine T_val F H kr (.bool true) (fun w _ => R_bin (x := (.tmp 77)) (y := (.const (.int .i64 2))) rfl (k := .i64) (a := op.do_) (b := 2) kr kr (i_eqI'.trans (by rw [decide_eq_true hd])) w) ?_
                clear F; intro a F
                refine wpList_nil ?_
                refine hK101 _ _ ?_
                clear hK101
                try clear K101
                refine C_if F true rfl rfl ?_
                refine C_seqK (fun K102 hK102 => ?_)
                refine C_region ?_
                refine T_k F H (nw nx) ?_
                clear F; intro a F
                refine T_val F H kr (nw (nx + 1)) (fun w _ => R_bin (x := (.tmp 79)) (y := (.const (.int .u32 1))) rfl (k := .u32) (a := ((nx : Nat) : Int)) (b := ((1 : Nat) : Int)) kr kr (i_addu32 (a := nx) (b := 1) (by omega)) w) ?_
                clear F; intro a F
                refine T_k F H (nw (nx + 1)) ?_
                clear F; intro a F
                refine wpList_nil ?_
                refine hK102 _ _ ?_
                clear hK102
                try clear K102
                refine C_seqK (fun K103 hK103 => ?_)
                refine C_region ?_
                refine T_k F H (pt xb 0) ?_
                clear F; intro a F
                refine T_k F H (nw (nx + 1)) ?_
                clear F; intro a F
                refine T_callX (α := InS) F H kr 21 #[pt xb 0, nw (nx + 1)] (fun rX => .tuple #[.slice none 0 0, .bool false]) (fun rX => rX.blks xb ++ []) (fun rX => rX.ok ∧ rX.U = s1.U ∧ rX.hD = s1.hD.filter fun d => decide (nx + 1 < d.1)) (fun w => kr) (fun w H => turn_S0 hs1 H (nx + 1) (fun d hd he => hf ⟨d.2, by rw [← he]; exact hd⟩)) ?_
                clear F H; intro s104 a v Qs104 F H
                refine T_k F H (.tuple #[.slice none 0 0, .bool false]) ?_
                clear F; intro a F
                refine T_k F H (.slice none 0 0) ?_
                clear F; intro a F
                refine T_k F H (.bool false) ?_
                clear F; intro a F
                refine T_k F H (.slice none 0 0) ?_
                clear F; intro a F
                refine T_k F H (.bool false) ?_
                clear F; intro a F
                refine wpList_nil ?_
                refine hK103 _ _ ?_
                clear hK103
                try clear K103
                refine C_seqK (fun K105 hK105 => ?_)
                refine C_region ?_
                refine T_k F H (pt xb 0) ?_
                clear F; intro a F
                refine T_k F H (nw (nx + 1)) ?_
                clear F; intro a F
                refine T_callX (α := InS) F H kr 21 #[pt xb 0, nw (nx + 1)] (fun rX => .tuple #[.slice none 0 0, .bool false]) (fun rX => rX.blks xb ++ []) (fun rX => rX.ok ∧ rX.U = s104.U ∧ rX.hD = s104.hD.filter fun d => decide (nx + 1 < d.1)) (fun w => kr) (fun w H => turn_S0 Qs104.1 H (nx + 1) (by rw [Qs104.2.2]; exact hN3.none)) ?_
                clear F H; intro s106 a v Qs106 F H
                have hDz : s106.hD = s1.hD.filter fun d => decide (nx + 1 < d.1) := by rw [Qs106.2.2, Qs104.2.2, hN3.again]
                refine T_k F H (.tuple #[.slice none 0 0, .bool false]) ?_
                clear F; intro a F
                refine T_k F H (.slice none 0 0) ?_
                clear F; intro a F
                refine T_k F H (.bool false) ?_
                clear F; intro a F
                refine T_k F H (.slice none 0 0) ?_
                clear F; intro a F
                refine T_k F H (.bool false) ?_
                clear F; intro a F
                refine wpList_nil ?_
                refine hK105 _ _ ?_
                clear hK105
                try clear K105
                refine C_seqK (fun K107 hK107 => ?_)
                refine C_region ?_
                refine T_k F H (.bool false) ?_
                clear F; intro a F
                refine T_k F H (.bool false) ?_
                clear F; intro a F
                refine T_k F H (.bool false) ?_
                clear F; intro a F
                refine T_k F H (.bool false) ?_
                clear F; intro a F
                refine T_skip F kr kr ?_
                clear F; intro a F
                refine T_skip F kr kr ?_
                clear F; intro a F
                refine T_k F H (.bool false) ?_
                clear F; intro a F
                refine T_k F H (.bool false) ?_
                clear F; intro a F
                refine T_skip F kr kr ?_
                clear F; intro a F
                refine T_skip F kr kr ?_
                clear F; intro a F
                refine T_skip F kr kr ?_
                clear F; intro a F
                refine T_skip F kr kr ?_
                clear F; intro a F
                refine T_skip F kr kr ?_
                clear F; intro a F
                refine T_skip F kr kr ?_
                clear F; intro a F
                refine T_skip F kr kr ?_
                clear F; intro a F
                refine T_k F H (.bool false) ?_
                clear F; intro a F
                refine T_k F H (.bool false) ?_
                clear F; intro a F
                refine T_skip F kr kr ?_
                clear F; intro a F
                refine T_skip F kr kr ?_
                clear F; intro a F
                refine T_skip F kr kr ?_
                clear F; intro a F
                refine T_skip F kr kr ?_
                clear F; intro a F
                refine T_skip F kr kr ?_
                clear F; intro a F
                refine T_skip F kr kr ?_
                clear F; intro a F
                refine T_skip F kr kr ?_
                clear F; intro a F
                refine T_skip F kr kr ?_
                clear F; intro a F
                refine T_k F H (.bool false) ?_
                clear F; intro a F
                refine T_k F H (.bool false) ?_
                clear F; intro a F
                refine T_k F H (.bool false) ?_
                clear F; intro a F
                refine T_k F H (.bool false) ?_
                clear F; intro a F
                refine T_k F H (.bool true) ?_
                clear F; intro a F
                refine T_k F H (.bool true) ?_
                clear F; intro a F
                refine T_k F H (.int .i64 63) ?_
                clear F; intro a F
                refine T_val F H kr (.bool false) (fun w _ => R_bin (x := (.tmp 124)) (y := (.const (.int .i64 0))) rfl (k := .i64) (a := 63) (b := ((0 : Nat) : Int)) kr kr kr w) ?_
                clear F; intro a F
                refine T_k F H (.bool false) ?_
                clear F; intro a F
                refine T_k F H (.bool false) ?_
                clear F; intro a F
                refine T_skip F kr kr ?_
                clear F; intro a F
                refine T_skip F kr kr ?_
                clear F; intro a F
                refine T_skip F kr kr ?_
                clear F; intro a F
                refine T_skip F kr kr ?_
                clear F; intro a F
                refine T_skip F kr kr ?_
                clear F; intro a F
                refine T_skip F kr kr ?_
                clear F; intro a F
                refine T_skip F kr kr ?_
                clear F; intro a F
                refine T_k F H (.bool false) ?_
                clear F; intro a F
                refine T_k F H (.bool false) ?_
                clear F; intro a F
                refine wpList_nil ?_
                refine hK107 _ _ ?_
                clear hK107
                try clear K107
                refine C_if F false rfl rfl ?_
                refine wp_skip ?_
                exact hN _ _ ⟨s106, nx + 1, ⟨Qs106.1, by rw [hDz]; exact hN3, by omega, by rw [hDz]; exact Nat.le_trans (List.length_filter_le _ _) (by omega)⟩, F.weak _ (subL_of kr), ix_weak (T := []) H⟩
            · skip
              refine C_seqK (fun K108 hK108 => ?_)
              refine C_region ?_
              refine T_k F H (sc ga oa ops.length c) ?_
              clear F; intro a F
              refine T_k F H (ni k) ?_
              clear F; intro a F
              refine T_val F H kr (pt ga (oa + (k) * 6)) (fun w _ => R_indexS (k := .i64) (g := ga) (off := oa) (len := ops.length) (cap := c) (x := (.tmp 73)) (y := (.tmp 74)) rfl Try.underlying22 kr (k) kr (by omega) (sz := 6) kr w) ?_
              clear F; intro a F
              refine T_k F H (pt ga ((oa + (k) * 6) + 0)) ?_
              clear F; intro a F
              refine T_valK F H kr (.int .i64 op.do_) (fun w hk hl => R_ld (y := (.tmp 76)) rfl (g := ga) (off := ((oa + (k) * 6) + 0)) kr (opj_cell (j := 0) (hr.kept hk List.not_mem_nil) hop rfl) _ Try.underlying3 rfl) ?_
              clear F; intro a F
              refine T_val F H kr (.bool false) (fun w _ => R_bin (x := (.tmp 77)) (y := (.const (.int .i64 2))) rfl (k := .i64) (a := op.do_) (b := 2) kr kr (i_eqI'.trans (by rw [decide_eq_false hd])) w) ?_
              clear F; intro a F
              refine wpList_nil ?_
              refine hK108 _ _ ?_
              clear hK108
              try clear K108
              refine C_if F false rfl rfl ?_
              refine wp_skip ?_
              exact hN _ _ ⟨s1, nx, ⟨hs1, hN2, by omega, by omega⟩, F.weak _ (subL_of kr), H⟩
          clear hK93
          try clear K93
          refine C_seqK (fun K109 hK109 => ?_)
          refine C_region ?_
          refine T_k F H (pt xb 0) ?_
          clear F; intro a F
          refine T_callX (α := Hs) F H kr 22 #[pt xb 0] (fun r => r.v) (fun r => s3.blks xb ++ (r.blks ++ [])) (fun r => r.ok ∧ r.cs.Pairwise (fun a b => a.1 ≤ b.1) ∧ r.D.Perm s3.hD) (fun w => kr) (fun w H => held_S hs3 (by omega) H) ?_
          clear F H; intro o a v ⟨ho, hpw, hpm⟩ F H
          rw [Hs.v_eq ho] at F
          have holen := Hs.le ho
          have hol : o.cs.length < 1000000 := by
            have h1 := hpm.length_eq
            unfold Hs.D at h1
            rw [List.length_map] at h1
            omega
          have hcell := fun k c (hk : o.cs[k]? = some c) => Hs.cell ho hk
          generalize o.ad = oad at F hcell
          generalize o.cp = ocp at F holen
          replace F : Fm 163 [] [(138, .slice oad o.cs.length ocp), (137, pt xb 0), (8, ni k), (0, sc ga oa ops.length c), (5, .bool true), (6, pt xb 0), (7, nw nx3)] a := F.weak _ (subL_of kr)
          replace H : Hp [] w (s3.blks xb ++ (o.blks ++ [])) v := H
          refine T_k F H (.slice oad o.cs.length ocp) ?_
          clear F; intro a F
          refine wpList_nil ?_
          refine hK109 _ _ ?_
          clear hK109
          try clear K109
          refine C_seqK (fun K110 hK110 => ?_)
          refine C_region ?_
          refine T_k F H (ni 0) ?_
          clear F; intro a F
          refine wpList_nil ?_
          refine hK110 _ _ ?_
          clear hK110
          try clear K110
          replace F : Fm 163 [] [(16, ni 0), (15, .slice oad o.cs.length ocp), (8, ni k), (0, sc ga oa ops.length c), (5, .bool true), (6, pt xb 0), (7, nw nx3)] a := F.weak _ (subL_of kr)
          refine wp_block ?_
          refine C_loop (fun mj a v => ∃ j, j + mj = o.cs.length ∧ Fm 163 [] [(16, ni j), (15, .slice oad o.cs.length ocp), (8, ni k), (0, sc ga oa ops.length c), (5, .bool true), (6, pt xb 0), (7, nw nx3)] a ∧ Hp [] w (s3.blks xb ++ (o.blks ++ [])) v) (o.cs.length) ⟨0, Nat.zero_add _, F, H⟩ ?_
          clear F H
          intro mj a v ⟨j, hj, F, H⟩
          rcases mj with _ | mj
          rotate_left
          · obtain ⟨hc0, hhc⟩ : ∃ hc0, o.cs[j]? = some hc0 := ⟨_, List.getElem?_eq_getElem (show j < o.cs.length by omega)⟩
            obtain ⟨hkey1, hkey2⟩ := hN3.at_ _ (Hs.key hpm hhc)
            dsimp only at hkey1 hkey2
            obtain ⟨gh, e2, hce⟩ := hcell j hc0 hhc
            subst e2
            replace F : Fm 163 [] [(16, ni j), (15, sc gh 0 o.cs.length ocp), (8, ni k), (0, sc ga oa ops.length c), (5, .bool true), (6, pt xb 0), (7, nw nx3)] a := F
            refine C_seqK (fun K111 hK111 => ?_)
            refine C_seqK (fun K112 hK112 => ?_)
            refine C_region ?_
            refine T_k F H (ni j) ?_
            clear F; intro a F
            refine T_k F H (sc gh 0 o.cs.length ocp) ?_
            clear F; intro a F
            refine T_k F H (ni o.cs.length) ?_
            clear F; intro a F
            refine T_val F H kr (.bool true) (fun w _ => R_bin (x := (.tmp 139)) (y := (.tmp 141)) rfl (k := .i64) (a := ((j : Nat) : Int)) (b := ((o.cs.length : Nat) : Int)) kr kr (i_lt (by omega)) w) ?_
            clear F; intro a F
            refine wpList_nil ?_
            refine hK112 _ _ ?_
            clear hK112
            try clear K112
            refine C_if F true rfl rfl ?_
            refine wp_skip ?_
            refine hK111 _ _ ?_
            clear hK111
            try clear K111
            refine C_seqK (fun K113 hK113 => ?_)
            refine wp_block ?_
            refine C_seqK (fun K114 hK114 => ?_)
            refine C_region ?_
            refine T_k F H (sc gh 0 o.cs.length ocp) ?_
            clear F; intro a F
            refine T_k F H (ni j) ?_
            clear F; intro a F
            refine T_val F H kr (pt gh (0 + (j) * 2)) (fun w _ => R_indexS (k := .i64) (g := gh) (off := 0) (len := o.cs.length) (cap := ocp) (x := (.tmp 145)) (y := (.tmp 146)) rfl Try.underlying31 kr (j) kr (by omega) (sz := 2) kr w) ?_
            clear F; intro a F
            refine T_k F H (pt gh ((0 + (j) * 2) + 0)) ?_
            clear F; intro a F
            refine T_valK F H kr (nw hc0.1) (fun w hk hl => R_ld (y := (.tmp 148)) rfl (g := gh) (off := ((0 + (j) * 2) + 0)) kr (hce _ (fun p hp => hl.held p (by simp only [List.mem_append, List.mem_cons, hp, true_or, or_true])) 0 _ rfl) _ Try.underlying29 rfl) ?_
            clear F; intro a F
            refine T_k F H (nw nx3) ?_
            clear F; intro a F
            refine T_val F H kr (.bool false) (fun w _ => R_bin (x := (.tmp 149)) (y := (.tmp 150)) rfl (k := .u32) (a := ((hc0.1 : Nat) : Int)) (b := ((nx3 : Nat) : Int)) kr kr (i_leqd.trans (by rw [decide_eq_false (by omega)])) w) ?_
            clear F; intro a F
            refine T_k F H (.bool false) ?_
            clear F; intro a F
            refine T_k F H (sc gh 0 o.cs.length ocp) ?_
            clear F; intro a F
            refine T_k F H (ni j) ?_
            clear F; intro a F
            refine T_val F H kr (pt gh (0 + (j) * 2)) (fun w _ => R_indexS (k := .i64) (g := gh) (off := 0) (len := o.cs.length) (cap := ocp) (x := (.tmp 153)) (y := (.tmp 154)) rfl Try.underlying31 kr (j) kr (by omega) (sz := 2) kr w) ?_
            clear F; intro a F
            refine T_k F H (pt gh ((0 + (j) * 2) + 0)) ?_
            clear F; intro a F
            refine T_valK F H kr (nw hc0.1) (fun w hk hl => R_ld (y := (.tmp 156)) rfl (g := gh) (off := ((0 + (j) * 2) + 0)) kr (hce _ (fun p hp => hl.held p (by simp only [List.mem_append, List.mem_cons, hp, true_or, or_true])) 0 _ rfl) _ Try.underlying29 rfl) ?_
            clear F; intro a F
            refine T_k F H (nw nx3) ?_
            clear F; intro a F
            refine T_val F H kr (nw (nx3 + 3)) (fun w _ => R_bin (x := (.tmp 158)) (y := (.const (.int .u32 3))) rfl (k := .u32) (a := ((nx3 : Nat) : Int)) (b := ((3 : Nat) : Int)) kr kr (i_addu32 (a := nx3) (b := 3) (by omega)) w) ?_
            clear F; intro a F
            refine T_val F H kr (.bool false) (fun w _ => R_bin (x := (.tmp 157)) (y := (.tmp 159)) rfl (k := .u32) (a := ((hc0.1 : Nat) : Int)) (b := (((nx3 + 3) : Nat) : Int)) kr kr (i_gtrd.trans (by rw [decide_eq_false (by omega)])) w) ?_
            clear F; intro a F
            refine T_k F H (.bool false) ?_
            clear F; intro a F
            refine wpList_nil ?_
            refine hK114 _ _ ?_
            clear hK114
            try clear K114
            refine C_if F false rfl rfl ?_
            refine wp_skip ?_
            refine hK113 _ _ ?_
            clear hK113
            try clear K113
            refine C_region ?_
            refine T_k F H (ni j) ?_
            clear F; intro a F
            refine T_val F H kr (ni (j + 1)) (fun w _ => R_bin (x := (.tmp 143)) (y := (.const (.int .i64 1))) rfl (k := .i64) (a := ((j : Nat) : Int)) (b := ((1 : Nat) : Int)) kr kr (i_addn64 (a := j) (b := 1) (by omega)) w) ?_
            clear F; intro a F
            refine T_k F H (ni (j + 1)) ?_
            clear F; intro a F
            refine wpList_nil ?_
            exact ⟨mj, Nat.lt_succ_self mj, j + 1, by omega, F.weak _ (subL_of kr), H⟩
          refine C_seqK (fun K115 hK115 => ?_)
          refine C_seqK (fun K116 hK116 => ?_)
          refine C_region ?_
          refine T_k F H (ni j) ?_
          clear F; intro a F
          refine T_k F H (.slice oad o.cs.length ocp) ?_
          clear F; intro a F
          refine T_k F H (ni o.cs.length) ?_
          clear F; intro a F
          refine T_val F H kr (.bool false) (fun w _ => R_bin (x := (.tmp 139)) (y := (.tmp 141)) rfl (k := .i64) (a := ((j : Nat) : Int)) (b := ((o.cs.length : Nat) : Int)) kr kr (i_nlt (by omega)) w) ?_
          clear F; intro a F
          refine wpList_nil ?_
          refine hK116 _ _ ?_
          clear hK116
          try clear K116
          refine C_if F false rfl rfl ?_
          refine wp_exit ?_
          refine hK88 _ _ ?_
          clear hK88
          try clear K88
          refine C_region ?_
          refine T_k F H (ni k) ?_
          clear F; intro a F
          refine T_val F H kr (ni (k + 1)) (fun w _ => R_bin (x := (.tmp 33)) (y := (.const (.int .i64 1))) rfl (k := .i64) (a := ((k : Nat) : Int)) (b := ((1 : Nat) : Int)) kr kr (i_addn64 (a := k) (b := 1) (by omega)) w) ?_
          clear F; intro a F
          refine T_k F H (ni (k + 1)) ?_
          clear F; intro a F
          refine wpList_nil ?_
          exact ⟨m, Nat.lt_succ_self m, k + 1, s3, nx3, by omega, ⟨hs3, hN3, by omega, hL3⟩, F.weak _ (subL_of kr), ix_weak (T := []) H⟩
        · skip
          replace F : Fm 163 [] [(8, ni k), (0, sc ga oa ops.length c), (5, .bool true), (6, pt xb 0), (7, nw nx)] a := F
          replace H : Hp [] w (s.blks xb ++ []) v := H
          refine C_seqK (fun K117 hK117 => ?_)
          refine C_seqK (fun K118 hK118 => ?_)
          refine C_region ?_
          refine T_k F H (ni k) ?_
          clear F; intro a F
          refine T_k F H (sc ga oa ops.length c) ?_
          clear F; intro a F
          refine T_k F H (ni ops.length) ?_
          clear F; intro a F
          refine T_val F H kr (.bool true) (fun w _ => R_bin (x := (.tmp 29)) (y := (.tmp 31)) rfl (k := .i64) (a := ((k : Nat) : Int)) (b := ((ops.length : Nat) : Int)) kr kr (i_lt (by omega)) w) ?_
          clear F; intro a F
          refine wpList_nil ?_
          refine hK118 _ _ ?_
          clear hK118
          try clear K118
          refine C_if F true rfl rfl ?_
          refine wp_skip ?_
          refine hK117 _ _ ?_
          clear hK117
          try clear K117
          refine C_seqK (fun K119 hK119 => ?_)
          refine wp_block ?_
          refine C_seqK (fun K120 hK120 => ?_)
          refine Z_region F H [(35, pt xb 0), (36, nw nx), (37, sc ga oa ops.length c), (38, ni k), (39, pt ga (oa + (k) * 6)), (40, pt ga ((oa + (k) * 6) + 2)), (41, nw op.ix), (42, sc ga oa ops.length c), (43, ni k), (44, pt ga (oa + (k) * 6)), (45, pt ga ((oa + (k) * 6) + 3)), (46, .slice op.b.ad op.b.l.length op.b.c), (47, .int .i64 0), (9, .int .i64 0)] [35, 36, 37, 38, 39, 40, 41, 42, 43, 44, 45, 46, 47, 9] 12 (fun v => ∃ s' : InS, (s'.ok ∧ s'.hD = D2) ∧ Hp [] w (s'.blks xb ++ []) v) 8 [] kr kr rfl ⟨?_, ?_, ?_, ?_, ?_, ?_, ?_, ?_, ?_, ?_, ?_, ?_, ?_, ?_, trivial⟩ ?_
          · exact Z_any kr (pt xb 0)
          · exact Z_any kr (nw nx)
          · exact Z_any kr (sc ga oa ops.length c)
          · exact Z_any kr (ni k)
          · exact Z_any kr (pt ga (oa + (k) * 6)) (fun w => R_indexS (k := .i64) (g := ga) (off := oa) (len := ops.length) (cap := c) (x := (.tmp 37)) (y := (.tmp 38)) rfl Try.underlying22 kr (k) kr (by omega) (sz := 6) kr w)
          · exact Z_any kr (pt ga ((oa + (k) * 6) + 2))
          · exact Z_pre (fu := 8) kr (nw op.ix) (fun w hk hl => R_ld (y := (.tmp 40)) rfl (g := ga) (off := ((oa + (k) * 6) + 2)) kr (opj_cell (j := 2) (hr.kept hk List.not_mem_nil) hop rfl) _ Try.underlying29 rfl)
          · exact Z_any kr (sc ga oa ops.length c)
          · exact Z_any kr (ni k)
          · exact Z_any kr (pt ga (oa + (k) * 6)) (fun w => R_indexS (k := .i64) (g := ga) (off := oa) (len := ops.length) (cap := c) (x := (.tmp 42)) (y := (.tmp 43)) rfl Try.underlying22 kr (k) kr (by omega) (sz := 6) kr w)
          · exact Z_any kr (pt ga ((oa + (k) * 6) + 3))
          · exact Z_pre (fu := 8) kr (.slice op.b.ad op.b.l.length op.b.c) (fun w hk hl => R_ld (y := (.tmp 45)) rfl (g := ga) (off := ((oa + (k) * 6) + 3)) kr (opj_cell (j := 3) (hr.kept hk List.not_mem_nil) hop rfl) _ Try.underlying30 rfl)
          · exact Z_call rfl 20 #[pt xb 0, nw nx, nw op.ix, .slice op.b.ad op.b.l.length op.b.c] (.int .i64 0) (fun w H => (hold_S hs H nx op.ix op.b (ix_rd0 H hob) hoo hN.o hix).mono fun e w' ⟨s', q1, q2, q3⟩ => ⟨by rw [q1, hh]; rfl, s', ⟨q2.1, by rw [q2.2.2, hh]⟩, q3⟩)
          · exact Z_any kr (.int .i64 0)
          clear F H; intro a v hKp F
          obtain ⟨s1, ⟨hs1, hD1⟩, H⟩ := hKp
          rw [← hD1] at hN2 hL2
          rw [← hD1] at hmem
          replace F : Fm 163 [] [(35, pt xb 0), (36, nw nx), (37, sc ga oa ops.length c), (38, ni k), (39, pt ga (oa + (k) * 6)), (40, pt ga ((oa + (k) * 6) + 2)), (41, nw op.ix), (42, sc ga oa ops.length c), (43, ni k), (44, pt ga (oa + (k) * 6)), (45, pt ga ((oa + (k) * 6) + 3)), (46, .slice op.b.ad op.b.l.length op.b.c), (47, .int .i64 0), (9, .int .i64 0), (32, .bool true), (31, ni ops.length), (30, sc ga oa ops.length c), (29, ni k), (8, ni k), (0, sc ga oa ops.length c), (5, .bool true), (6, pt xb 0), (7, nw nx)] a := F.weak _ (subL_of kr)
          refine ?_
          refine hK120 _ _ ?_
          clear hK120
          try clear K120
          refine C_seqK (fun K121 hK121 => ?_)
          refine C_region ?_
          refine T_k F H (sc ga oa ops.length c) ?_
          clear F; intro a F
          refine T_k F H (ni k) ?_
          clear F; intro a F
          refine T_val F H kr (pt ga (oa + (k) * 6)) (fun w _ => R_indexS (k := .i64) (g := ga) (off := oa) (len := ops.length) (cap := c) (x := (.tmp 48)) (y := (.tmp 49)) rfl Try.underlying22 kr (k) kr (by omega) (sz := 6) kr w) ?_
          clear F; intro a F
          refine T_k F H (pt ga ((oa + (k) * 6) + 2)) ?_
          clear F; intro a F
          refine T_valK F H kr (nw op.ix) (fun w hk hl => R_ld (y := (.tmp 51)) rfl (g := ga) (off := ((oa + (k) * 6) + 2)) kr (opj_cell (j := 2) (hr.kept hk List.not_mem_nil) hop rfl) _ Try.underlying29 rfl) ?_
          clear F; intro a F
          refine T_k F H (nw nx) ?_
          clear F; intro a F
          refine T_val F H kr (.bool true) (fun w _ => R_bin (x := (.tmp 52)) (y := (.tmp 53)) rfl (k := .u32) (a := ((op.ix : Nat) : Int)) (b := ((nx : Nat) : Int)) kr kr (i_gtrd.trans (by rw [decide_eq_true (by omega)])) w) ?_
          clear F; intro a F
          refine T_k F H (.bool true) ?_
          clear F; intro a F
          refine T_k F H (sc ga oa ops.length c) ?_
          clear F; intro a F
          refine T_k F H (ni k) ?_
          clear F; intro a F
          refine T_val F H kr (pt ga (oa + (k) * 6)) (fun w _ => R_indexS (k := .i64) (g := ga) (off := oa) (len := ops.length) (cap := c) (x := (.tmp 56)) (y := (.tmp 57)) rfl Try.underlying22 kr (k) kr (by omega) (sz := 6) kr w) ?_
          clear F; intro a F
          refine T_k F H (pt ga ((oa + (k) * 6) + 2)) ?_
          clear F; intro a F
          refine T_valK F H kr (nw op.ix) (fun w hk hl => R_ld (y := (.tmp 59)) rfl (g := ga) (off := ((oa + (k) * 6) + 2)) kr (opj_cell (j := 2) (hr.kept hk List.not_mem_nil) hop rfl) _ Try.underlying29 rfl) ?_
          clear F; intro a F
          refine T_k F H (nw nx) ?_
          clear F; intro a F
          refine T_val F H kr (nw (op.ix - nx)) (fun w _ => R_bin (x := (.tmp 60)) (y := (.tmp 61)) rfl (k := .u32) (a := ((op.ix : Nat) : Int)) (b := ((nx : Nat) : Int)) kr kr (i_subu32 (a := op.ix) (b := nx) (by omega) (by omega)) w) ?_
          clear F; intro a F
          refine T_val F H kr (.bool true) (fun w _ => R_bin (x := (.tmp 62)) (y := (.const (.int .u32 3))) rfl (k := .u32) (a := (((op.ix - nx) : Nat) : Int)) (b := ((3 : Nat) : Int)) kr kr (i_leqd.trans (by rw [decide_eq_true (by omega)])) w) ?_
          clear F; intro a F
          refine T_k F H (.bool true) ?_
          clear F; intro a F
          refine T_k F H (.bool true) ?_
          clear F; intro a F
          refine wpList_nil ?_
          refine hK121 _ _ ?_
          clear hK121
          try clear K121
          refine C_seqK (fun K122 hK122 => ?_)
          refine C_seqK (fun K123 hK123 => ?_)
          refine C_region ?_
          refine T_k F H (.bool true) ?_
          clear F; intro a F
          refine T_k F H (.int .i64 0) ?_
          clear F; intro a F
          refine T_val F H kr (.bool true) (fun w _ => R_bin (x := (.tmp 66)) (y := (.const (.int .i64 0))) rfl (k := .i64) (a := 0) (b := ((0 : Nat) : Int)) kr kr kr w) ?_
          clear F; intro a F
          refine T_k F H (.bool true) ?_
          clear F; intro a F
          refine T_skip F kr kr ?_
          clear F; intro a F
          refine T_skip F kr kr ?_
          clear F; intro a F
          refine T_k F H (.bool true) ?_
          clear F; intro a F
          refine T_k F H (.bool false) ?_
          clear F; intro a F
          refine wpList_nil ?_
          refine hK123 _ _ ?_
          clear hK123
          try clear K123
          refine C_if F false rfl rfl ?_
          refine wp_skip ?_
          refine hK122 _ _ ?_
          clear hK122
          try clear K122
          refine C_seqK (fun K124 hK124 => ?_)
          refine (fun (hN : ∀ a v, (∃ (s3 : InS) (nx3 : Nat), (s3.ok ∧ Near nx3 s3.hD ∧ nx3 ≤ 1073741824 + k + 1 ∧ s3.hD.length ≤ k + 1) ∧ Fm 163 [] [(8, ni k), (0, sc ga oa ops.length c), (5, .bool true), (6, pt xb 0), (7, nw nx3)] a ∧ Hp [] w (s3.blks xb ++ []) v) → K124 a v) => ?_) (fun a v ⟨s3, nx3, ⟨hs3, hN3, hnx3, hL3⟩, F, H⟩ => hK124 _ _ ?_)
          · clear hK124
            by_cases hd : op.do_ = 2
            · have hN3 := hN2.turn
              by_cases hf : ∃ l', (nx + 1, l') ∈ s1.hD
              · obtain ⟨l', hl'⟩ := hf
                by_cases heq : op.ix = nx + 1
                · skip
                  refine C_seqK (fun K125 hK125 => ?_)
                  refine C_region ?_
                  refine T_k F H (sc ga oa ops.length c) ?_
                  clear F; intro a F
                  refine T_k F H (ni k) ?_
                  clear F; intro a F
                  refine T_val F H kr (pt ga (oa + (k) * 6)) (fun w _ => R_indexS (k := .i64) (g := ga) (off := oa) (len := ops.length) (cap := c) (x := (.tmp 73)) (y := (.tmp 74)) rfl Try.underlying22 kr (k) kr (by omega) (sz := 6) kr w) ?_
                  clear F; intro a F
                  refine T_k F H (pt ga ((oa + (k) * 6) + 0)) ?_
                  clear F; intro a F
                  refine T_valK F H kr (.int .i64 op.do_) (fun w hk hl => R_ld (y := (.tmp 76)) rfl (g := ga) (off := ((oa + (k) * 6) + 0)) kr (opj_cell (j := 0) (hr.kept hk List.not_mem_nil) hop rfl) _ Try.underlying3 rfl) ?_
                  clear F; intro a F
                  refine T_val F H kr (.bool true) (fun w _ => R_bin (x := (.tmp 77)) (y := (.const (.int .i64 2))) rfl (k := .i64) (a := op.do_) (b := 2) kr kr (i_eqI'.trans (by rw [decide_eq_true hd])) w) ?_
                  clear F; intro a F
                  refine wpList_nil ?_
                  refine hK125 _ _ ?_
                  clear hK125
                  try clear K125
                  refine C_if F true rfl rfl ?_
                  refine C_seqK (fun K126 hK126 => ?_)
                  refine C_region ?_
                  refine T_k F H (nw nx) ?_
                  clear F; intro a F
                  refine T_val F H kr (nw (nx + 1)) (fun w _ => R_bin (x := (.tmp 79)) (y := (.const (.int .u32 1))) rfl (k := .u32) (a := ((nx : Nat) : Int)) (b := ((1 : Nat) : Int)) kr kr (i_addu32 (a := nx) (b := 1) (by omega)) w) ?_
                  clear F; intro a F
                  refine T_k F H (nw (nx + 1)) ?_
                  clear F; intro a F
                  refine wpList_nil ?_
                  refine hK126 _ _ ?_
                  clear hK126
                  try clear K126
                  refine C_seqK (fun K127 hK127 => ?_)
                  refine C_region ?_
                  refine T_k F H (pt xb 0) ?_
                  clear F; intro a F
                  refine T_k F H (nw (nx + 1)) ?_
                  clear F; intro a F
                  refine T_callX (α := InS × Cl) F H kr 21 #[pt xb 0, nw (nx + 1)] (fun rX => .tuple #[rX.2.v, .bool true]) (fun rX => rX.1.blks xb ++ (rX.2.blks ++ [])) (fun rX => rX.1.ok ∧ rX.2.ok ∧ rX.2.l = l' ∧ rX.1.U = s1.U ∧ rX.1.hD = s1.hD.filter fun d => decide (nx + 1 < d.1)) (fun w => kr) (fun w H => turn_S1 hs1 H (nx + 1) l' hl') ?_
                  clear F H; intro s128 a v Qs128 F H
                  obtain ⟨s128, cs128⟩ := s128
                  dsimp only at Qs128
                  obtain ⟨hs128, hcs128, hls128, hus128, hms128⟩ := Qs128
                  replace F : Fm 163 [] [(84, .tuple #[cs128.v, .bool true]), (83, nw (nx + 1)), (82, pt xb 0), (7, nw (nx + 1)), (80, nw (nx + 1)), (79, nw nx), (78, .bool true), (77, .int .i64 op.do_), (76, pt ga ((oa + (k) * 6) + 0)), (75, pt ga (oa + (k) * 6)), (74, ni k), (73, sc ga oa ops.length c), (72, .bool false), (71, .bool true), (70, undef), (69, undef), (68, .bool true), (67, .bool true), (66, .int .i64 0), (65, .bool true), (10, .bool true), (64, .bool true), (63, .bool true), (62, nw (op.ix - nx)), (61, nw nx), (60, nw op.ix), (59, pt ga ((oa + (k) * 6) + 2)), (58, pt ga (oa + (k) * 6)), (57, ni k), (56, sc ga oa ops.length c), (55, .bool true), (54, .bool true), (53, nw nx), (52, nw op.ix), (51, pt ga ((oa + (k) * 6) + 2)), (50, pt ga (oa + (k) * 6)), (49, ni k), (48, sc ga oa ops.length c), (35, pt xb 0), (36, nw nx), (37, sc ga oa ops.length c), (38, ni k), (39, pt ga (oa + (k) * 6)), (40, pt ga ((oa + (k) * 6) + 2)), (41, nw op.ix), (42, sc ga oa ops.length c), (43, ni k), (44, pt ga (oa + (k) * 6)), (45, pt ga ((oa + (k) * 6) + 3)), (46, .slice op.b.ad op.b.l.length op.b.c), (47, .int .i64 0), (9, .int .i64 0), (32, .bool true), (31, ni ops.length), (30, sc ga oa ops.length c), (29, ni k), (8, ni k), (0, sc ga oa ops.length c), (5, .bool true), (6, pt xb 0)] a := F.weak _ (subL_of kr)
                  replace H : Hp [] w (s128.blks xb ++ (cs128.blks ++ [])) v := H
                  refine T_k F H (.tuple #[cs128.v, .bool true]) ?_
                  clear F; intro a F
                  refine T_k F H (cs128.v) ?_
                  clear F; intro a F
                  refine T_k F H (.bool true) ?_
                  clear F; intro a F
                  refine T_k F H (cs128.v) ?_
                  clear F; intro a F
                  refine T_k F H (.bool true) ?_
                  clear F; intro a F
                  refine wpList_nil ?_
                  refine hK127 _ _ ?_
                  clear hK127
                  try clear K127
                  refine C_seqK (fun K129 hK129 => ?_)
                  refine C_region ?_
                  refine T_k F H (pt xb 0) ?_
                  clear F; intro a F
                  refine T_k F H (nw (nx + 1)) ?_
                  clear F; intro a F
                  refine T_callX (α := InS) F H kr 21 #[pt xb 0, nw (nx + 1)] (fun rX => .tuple #[.slice none 0 0, .bool false]) (fun rX => rX.blks xb ++ (cs128.blks ++ [])) (fun rX => rX.ok ∧ rX.U = s128.U ∧ rX.hD = s128.hD.filter fun d => decide (nx + 1 < d.1)) (fun w => kr) (fun w H => turn_S0 hs128 H (nx + 1) (by rw [hms128]; exact hN3.none)) ?_
                  clear F H; intro s130 a v Qs130 F H
                  have hDz : s130.hD = s1.hD.filter fun d => decide (nx + 1 < d.1) := by rw [Qs130.2.2, hms128, hN3.again]
                  refine T_k F H (.tuple #[.slice none 0 0, .bool false]) ?_
                  clear F; intro a F
                  refine T_k F H (.slice none 0 0) ?_
                  clear F; intro a F
                  refine T_k F H (.bool false) ?_
                  clear F; intro a F
                  refine T_k F H (.slice none 0 0) ?_
                  clear F; intro a F
                  refine T_k F H (.bool false) ?_
                  clear F; intro a F
                  refine wpList_nil ?_
                  refine hK129 _ _ ?_
                  clear hK129
                  try clear K129
                  refine C_seqK (fun K131 hK131 => ?_)
                  refine C_region ?_
                  refine T_k F H (.bool false) ?_
                  clear F; intro a F
                  refine T_k F H (.bool false) ?_
                  clear F; intro a F
                  refine T_k F H (.bool true) ?_
                  clear F; intro a F
                  refine T_k F H (.bool true) ?_
                  clear F; intro a F
                  refine T_k F H (.int .i64 0) ?_
                  clear F; intro a F
                  refine T_val F H kr (.bool true) (fun w _ => R_bin (x := (.tmp 97)) (y := (.const (.int .i64 0))) rfl (k := .i64) (a := 0) (b := ((0 : Nat) : Int)) kr kr kr w) ?_
                  clear F; intro a F
                  refine T_k F H (.bool true) ?_
                  clear F; intro a F
                  refine T_k F H (.bool true) ?_
                  clear F; intro a F
                  refine T_k F H (sc ga oa ops.length c) ?_
                  clear F; intro a F
                  refine T_k F H (ni k) ?_
                  clear F; intro a F
                  refine T_val F H kr (pt ga (oa + (k) * 6)) (fun w _ => R_indexS (k := .i64) (g := ga) (off := oa) (len := ops.length) (cap := c) (x := (.tmp 101)) (y := (.tmp 102)) rfl Try.underlying22 kr (k) kr (by omega) (sz := 6) kr w) ?_
                  clear F; intro a F
                  refine T_k F H (pt ga ((oa + (k) * 6) + 2)) ?_
                  clear F; intro a F
                  refine T_valK F H kr (nw op.ix) (fun w hk hl => R_ld (y := (.tmp 104)) rfl (g := ga) (off := ((oa + (k) * 6) + 2)) kr (opj_cell (j := 2) (hr.kept hk List.not_mem_nil) hop rfl) _ Try.underlying29 rfl) ?_
                  clear F; intro a F
                  refine T_k F H (nw (nx + 1)) ?_
                  clear F; intro a F
                  refine T_val F H kr (.bool true) (fun w _ => R_bin (x := (.tmp 105)) (y := (.tmp 106)) rfl (k := .u32) (a := ((op.ix : Nat) : Int)) (b := (((nx + 1) : Nat) : Int)) kr kr (i_eqd.trans (by rw [decide_eq_true (by omega)])) w) ?_
                  clear F; intro a F
                  refine T_k F H (.bool true) ?_
                  clear F; intro a F
                  refine T_k F H (.bool true) ?_
                  clear F; intro a F
                  refine T_k F H (cs128.v) ?_
                  clear F; intro a F
                  refine T_k F H (sc ga oa ops.length c) ?_
                  clear F; intro a F
                  refine T_k F H (ni k) ?_
                  clear F; intro a F
                  refine T_val F H kr (pt ga (oa + (k) * 6)) (fun w _ => R_indexS (k := .i64) (g := ga) (off := oa) (len := ops.length) (cap := c) (x := (.tmp 111)) (y := (.tmp 112)) rfl Try.underlying22 kr (k) kr (by omega) (sz := 6) kr w) ?_
                  clear F; intro a F
                  refine T_k F H (pt ga ((oa + (k) * 6) + 3)) ?_
                  clear F; intro a F
                  refine T_valK F H kr (.slice op.b.ad op.b.l.length op.b.c) (fun w hk hl => R_ld (y := (.tmp 114)) rfl (g := ga) (off := ((oa + (k) * 6) + 3)) kr (opj_cell (j := 3) (hr.kept hk List.not_mem_nil) hop rfl) _ Try.underlying30 rfl) ?_
                  clear F; intro a F
                  refine T_call F H kr 12 #[cs128.v, .slice op.b.ad op.b.l.length op.b.c] (.bool true) (fun w => kr) (same_true cs128.sv op.b (Cl.sv_v hcs128) rfl (cs128.rd hcs128 (fun p hp => H.held p (by simp only [List.mem_append, List.mem_cons, hp, true_or, or_true]))) (hob.kept H.kept) (by rw [Cl.sv_l, hls128]; exact hN2.uniq hl' (by rw [← heq]; exact hmem))) ?_
                  clear F H; intro a v F H
                  refine T_k F H (.bool false) ?_
                  clear F; intro a F
                  refine T_k F H (.bool false) ?_
                  clear F; intro a F
                  refine T_k F H (.bool false) ?_
                  clear F; intro a F
                  refine T_k F H (.bool false) ?_
                  clear F; intro a F
                  refine T_k F H (.bool true) ?_
                  clear F; intro a F
                  refine T_k F H (.bool false) ?_
                  clear F; intro a F
                  refine T_k F H (.bool false) ?_
                  clear F; intro a F
                  refine T_skip F kr kr ?_
                  clear F; intro a F
                  refine T_skip F kr kr ?_
                  clear F; intro a F
                  refine T_k F H (.bool false) ?_
                  clear F; intro a F
                  refine T_k F H (.bool false) ?_
                  clear F; intro a F
                  refine T_skip F kr kr ?_
                  clear F; intro a F
                  refine T_skip F kr kr ?_
                  clear F; intro a F
                  refine T_skip F kr kr ?_
                  clear F; intro a F
                  refine T_skip F kr kr ?_
                  clear F; intro a F
                  refine T_skip F kr kr ?_
                  clear F; intro a F
                  refine T_skip F kr kr ?_
                  clear F; intro a F
                  refine T_skip F kr kr ?_
                  clear F; intro a F
                  refine T_k F H (.bool false) ?_
                  clear F; intro a F
                  refine T_k F H (.bool false) ?_
                  clear F; intro a F
                  refine wpList_nil ?_
                  refine hK131 _ _ ?_
                  clear hK131
                  try clear K131
                  refine C_if F false rfl rfl ?_
                  refine wp_skip ?_
                  exact hN _ _ ⟨s130, nx + 1, ⟨Qs130.1, by rw [hDz]; exact hN3, by omega, by rw [hDz]; exact Nat.le_trans (List.length_filter_le _ _) (by omega)⟩, F.weak _ (subL_of kr), ix_weak (T := []) H⟩
                · skip
                  refine C_seqK (fun K132 hK132 => ?_)
                  refine C_region ?_
                  refine T_k F H (sc ga oa ops.length c) ?_
                  clear F; intro a F
                  refine T_k F H (ni k) ?_
                  clear F; intro a F
                  refine T_val F H kr (pt ga (oa + (k) * 6)) (fun w _ => R_indexS (k := .i64) (g := ga) (off := oa) (len := ops.length) (cap := c) (x := (.tmp 73)) (y := (.tmp 74)) rfl Try.underlying22 kr (k) kr (by omega) (sz := 6) kr w) ?_
                  clear F; intro a F
                  refine T_k F H (pt ga ((oa + (k) * 6) + 0)) ?_
                  clear F; intro a F
                  refine T_valK F H kr (.int .i64 op.do_) (fun w hk hl => R_ld (y := (.tmp 76)) rfl (g := ga) (off := ((oa + (k) * 6) + 0)) kr (opj_cell (j := 0) (hr.kept hk List.not_mem_nil) hop rfl) _ Try.underlying3 rfl) ?_
                  clear F; intro a F
                  refine T_val F H kr (.bool true) (fun w _ => R_bin (x := (.tmp 77)) (y := (.const (.int .i64 2))) rfl (k := .i64) (a := op.do_) (b := 2) kr kr (i_eqI'.trans (by rw [decide_eq_true hd])) w) ?_
                  clear F; intro a F
                  refine wpList_nil ?_
                  refine hK132 _ _ ?_
                  clear hK132
                  try clear K132
                  refine C_if F true rfl rfl ?_
                  refine C_seqK (fun K133 hK133 => ?_)
                  refine C_region ?_
                  refine T_k F H (nw nx) ?_
                  clear F; intro a F
                  refine T_val F H kr (nw (nx + 1)) (fun w _ => R_bin (x := (.tmp 79)) (y := (.const (.int .u32 1))) rfl (k := .u32) (a := ((nx : Nat) : Int)) (b := ((1 : Nat) : Int)) kr kr (i_addu32 (a := nx) (b := 1) (by omega)) w) ?_
                  clear F; intro a F
                  refine T_k F H (nw (nx + 1)) ?_
                  clear F; intro a F
                  refine wpList_nil ?_
                  refine hK133 _ _ ?_
                  clear hK133
                  try clear K133
                  refine C_seqK (fun K134 hK134 => ?_)
                  refine C_region ?_
                  refine T_k F H (pt xb 0) ?_
                  clear F; intro a F
                  refine T_k F H (nw (nx + 1)) ?_
                  clear F; intro a F
                  refine T_callX (α := InS × Cl) F H kr 21 #[pt xb 0, nw (nx + 1)] (fun rX => .tuple #[rX.2.v, .bool true]) (fun rX => rX.1.blks xb ++ (rX.2.blks ++ [])) (fun rX => rX.1.ok ∧ rX.2.ok ∧ rX.2.l = l' ∧ rX.1.U = s1.U ∧ rX.1.hD = s1.hD.filter fun d => decide (nx + 1 < d.1)) (fun w => kr) (fun w H => turn_S1 hs1 H (nx + 1) l' hl') ?_
                  clear F H; intro s135 a v Qs135 F H
                  obtain ⟨s135, cs135⟩ := s135
                  dsimp only at Qs135
                  obtain ⟨hs135, hcs135, hls135, hus135, hms135⟩ := Qs135
                  replace F : Fm 163 [] [(84, .tuple #[cs135.v, .bool true]), (83, nw (nx + 1)), (82, pt xb 0), (7, nw (nx + 1)), (80, nw (nx + 1)), (79, nw nx), (78, .bool true), (77, .int .i64 op.do_), (76, pt ga ((oa + (k) * 6) + 0)), (75, pt ga (oa + (k) * 6)), (74, ni k), (73, sc ga oa ops.length c), (72, .bool false), (71, .bool true), (70, undef), (69, undef), (68, .bool true), (67, .bool true), (66, .int .i64 0), (65, .bool true), (10, .bool true), (64, .bool true), (63, .bool true), (62, nw (op.ix - nx)), (61, nw nx), (60, nw op.ix), (59, pt ga ((oa + (k) * 6) + 2)), (58, pt ga (oa + (k) * 6)), (57, ni k), (56, sc ga oa ops.length c), (55, .bool true), (54, .bool true), (53, nw nx), (52, nw op.ix), (51, pt ga ((oa + (k) * 6) + 2)), (50, pt ga (oa + (k) * 6)), (49, ni k), (48, sc ga oa ops.length c), (35, pt xb 0), (36, nw nx), (37, sc ga oa ops.length c), (38, ni k), (39, pt ga (oa + (k) * 6)), (40, pt ga ((oa + (k) * 6) + 2)), (41, nw op.ix), (42, sc ga oa ops.length c), (43, ni k), (44, pt ga (oa + (k) * 6)), (45, pt ga ((oa + (k) * 6) + 3)), (46, .slice op.b.ad op.b.l.length op.b.c), (47, .int .i64 0), (9, .int .i64 0), (32, .bool true), (31, ni ops.length), (30, sc ga oa ops.length c), (29, ni k), (8, ni k), (0, sc ga oa ops.length c), (5, .bool true), (6, pt xb 0)] a := F.weak _ (subL_of kr)
                  replace H : Hp [] w (s135.blks xb ++ (cs135.blks ++ [])) v := H
                  refine T_k F H (.tuple #[cs135.v, .bool true]) ?_
                  clear F; intro a F
                  refine T_k F H (cs135.v) ?_
                  clear F; intro a F
                  refine T_k F H (.bool true) ?_
                  clear F; intro a F
                  refine T_k F H (cs135.v) ?_
                  clear F; intro a F
                  refine T_k F H (.bool true) ?_
                  clear F; intro a F
                  refine wpList_nil ?_
                  refine hK134 _ _ ?_
                  clear hK134
                  try clear K134
                  refine C_seqK (fun K136 hK136 => ?_)
                  refine C_region ?_
                  refine T_k F H (pt xb 0) ?_
                  clear F; intro a F
                  refine T_k F H (nw (nx + 1)) ?_
                  clear F; intro a F
                  refine T_callX (α := InS) F H kr 21 #[pt xb 0, nw (nx + 1)] (fun rX => .tuple #[.slice none 0 0, .bool false]) (fun rX => rX.blks xb ++ (cs135.blks ++ [])) (fun rX => rX.ok ∧ rX.U = s135.U ∧ rX.hD = s135.hD.filter fun d => decide (nx + 1 < d.1)) (fun w => kr) (fun w H => turn_S0 hs135 H (nx + 1) (by rw [hms135]; exact hN3.none)) ?_
                  clear F H; intro s137 a v Qs137 F H
                  have hDz : s137.hD = s1.hD.filter fun d => decide (nx + 1 < d.1) := by rw [Qs137.2.2, hms135, hN3.again]
                  refine T_k F H (.tuple #[.slice none 0 0, .bool false]) ?_
                  clear F; intro a F
                  refine T_k F H (.slice none 0 0) ?_
                  clear F; intro a F
                  refine T_k F H (.bool false) ?_
                  clear F; intro a F
                  refine T_k F H (.slice none 0 0) ?_
                  clear F; intro a F
                  refine T_k F H (.bool false) ?_
                  clear F; intro a F
                  refine wpList_nil ?_
                  refine hK136 _ _ ?_
                  clear hK136
                  try clear K136
                  refine C_seqK (fun K138 hK138 => ?_)
                  refine C_region ?_
                  refine T_k F H (.bool false) ?_
                  clear F; intro a F
                  refine T_k F H (.bool false) ?_
                  clear F; intro a F
                  refine T_k F H (.bool true) ?_
                  clear F; intro a F
                  refine T_k F H (.bool true) ?_
                  clear F; intro a F
                  refine T_k F H (.int .i64 0) ?_
                  clear F; intro a F
                  refine T_val F H kr (.bool true) (fun w _ => R_bin (x := (.tmp 97)) (y := (.const (.int .i64 0))) rfl (k := .i64) (a := 0) (b := ((0 : Nat) : Int)) kr kr kr w) ?_
                  clear F; intro a F
                  refine T_k F H (.bool true) ?_
                  clear F; intro a F
                  refine T_k F H (.bool true) ?_
                  clear F; intro a F
                  refine T_k F H (sc ga oa ops.length c) ?_
                  clear F; intro a F
                  refine T_k F H (ni k) ?_
                  clear F; intro a F
                  refine T_val F H kr (pt ga (oa + (k) * 6)) (fun w _ => R_indexS (k := .i64) (g := ga) (off := oa) (len := ops.length) (cap := c) (x := (.tmp 101)) (y := (.tmp 102)) rfl Try.underlying22 kr (k) kr (by omega) (sz := 6) kr w) ?_
                  clear F; intro a F
                  refine T_k F H (pt ga ((oa + (k) * 6) + 2)) ?_
                  clear F; intro a F
                  refine T_valK F H kr (nw op.ix) (fun w hk hl => R_ld (y := (.tmp 104)) rfl (g := ga) (off := ((oa + (k) * 6) + 2)) kr (opj_cell (j := 2) (hr.kept hk List.not_mem_nil) hop rfl) _ Try.underlying29 rfl) ?_
                  clear F; intro a F
                  refine T_k F H (nw (nx + 1)) ?_
                  clear F; intro a F
                  refine T_val F H kr (.bool false) (fun w _ => R_bin (x := (.tmp 105)) (y := (.tmp 106)) rfl (k := .u32) (a := ((op.ix : Nat) : Int)) (b := (((nx + 1) : Nat) : Int)) kr kr (i_eqd.trans (by rw [decide_eq_false (by omega)])) w) ?_
                  clear F; intro a F
                  refine T_k F H (.bool false) ?_
                  clear F; intro a F
                  refine T_k F H (.bool false) ?_
                  clear F; intro a F
                  refine T_skip F kr kr ?_
                  clear F; intro a F
                  refine T_skip F kr kr ?_
                  clear F; intro a F
                  refine T_skip F kr kr ?_
                  clear F; intro a F
                  refine T_skip F kr kr ?_
                  clear F; intro a F
                  refine T_skip F kr kr ?_
                  clear F; intro a F
                  refine T_skip F kr kr ?_
                  clear F; intro a F
                  refine T_skip F kr kr ?_
                  clear F; intro a F
                  refine T_skip F kr kr ?_
                  clear F; intro a F
                  refine T_k F H (.bool false) ?_
                  clear F; intro a F
                  refine T_k F H (.bool false) ?_
                  clear F; intro a F
                  refine T_k F H (.bool false) ?_
                  clear F; intro a F
                  refine T_k F H (.bool true) ?_
                  clear F; intro a F
                  refine T_k F H (.bool false) ?_
                  clear F; intro a F
                  refine T_k F H (.bool false) ?_
                  clear F; intro a F
                  refine T_skip F kr kr ?_
                  clear F; intro a F
                  refine T_skip F kr kr ?_
                  clear F; intro a F
                  refine T_k F H (.bool false) ?_
                  clear F; intro a F
                  refine T_k F H (.bool false) ?_
                  clear F; intro a F
                  refine T_skip F kr kr ?_
                  clear F; intro a F
                  refine T_skip F kr kr ?_
                  clear F; intro a F
                  refine T_skip F kr kr ?_
                  clear F; intro a F
                  refine T_skip F kr kr ?_
                  clear F; intro a F
                  refine T_skip F kr kr ?_
                  clear F; intro a F
                  refine T_skip F kr kr ?_
                  clear F; intro a F
                  refine T_skip F kr kr ?_
                  clear F; intro a F
                  refine T_k F H (.bool false) ?_
                  clear F; intro a F
                  refine T_k F H (.bool false) ?_
                  clear F; intro a F
                  refine wpList_nil ?_
                  refine hK138 _ _ ?_
                  clear hK138
                  try clear K138
                  refine C_if F false rfl rfl ?_
                  refine wp_skip ?_
                  exact hN _ _ ⟨s137, nx + 1, ⟨Qs137.1, by rw [hDz]; exact hN3, by omega, by rw [hDz]; exact Nat.le_trans (List.length_filter_le _ _) (by omega)⟩, F.weak _ (subL_of kr), ix_weak (T := []) H⟩
              · have heq : op.ix ≠ nx + 1 := fun e => hf ⟨_, by rw [← e]; exact hmem⟩
                refine C_seqK (fun K139 hK139 => ?_)
                refine C_region ?_
                refine T_k F H (sc ga oa ops.length c) ?_
                clear F; intro a F
                refine T_k F H (ni k) ?_
                clear F; intro a F
                refine T_val F H kr (pt ga (oa + (k) * 6)) (fun w _ => R_indexS (k := .i64) (g := ga) (off := oa) (len := ops.length) (cap := c) (x := (.tmp 73)) (y := (.tmp 74)) rfl Try.underlying22 kr (k) kr (by omega) (sz := 6) kr w) ?_
                clear F; intro a F
                refine T_k F H (pt ga ((oa + (k) * 6) + 0)) ?_
                clear F; intro a F
                refine T_valK F H kr (.int .i64 op.do_) (fun w hk hl => R_ld (y := (.tmp 76)) rfl (g := ga) (off := ((oa + (k) * 6) + 0)) kr (opj_cell (j := 0) (hr.kept hk List.not_mem_nil) hop rfl) _ Try.underlying3 rfl) ?_
                clear F; intro a F
                refine T_val F H kr (.bool true) (fun w _ => R_bin (x := (.tmp 77)) (y := (.const (.int .i64 2))) rfl (k := .i64) (a := op.do_) (b := 2) kr kr (i_eqI'.trans (by rw [decide_eq_true hd])) w) ?_
                clear F; intro a F
                refine wpList_nil ?_
                refine hK139 _ _ ?_
                clear hK139
                try clear K139
                refine C_if F true rfl rfl ?_
                refine C_seqK (fun K140 hK140 => ?_)
                refine C_region ?_
                refine T_k F H (nw nx) ?_
                clear F; intro a F
                refine T_val F H kr (nw (nx + 1)) (fun w _ => R_bin (x := (.tmp 79)) (y := (.const (.int .u32 1))) rfl (k := .u32) (a := ((nx : Nat) : Int)) (b := ((1 : Nat) : Int)) kr kr (i_addu32 (a := nx) (b := 1) (by omega)) w) ?_
                clear F; intro a F
                refine T_k F H (nw (nx + 1)) ?_
                clear F; intro a F
                refine wpList_nil ?_
                refine hK140 _ _ ?_
                clear hK140
                try clear K140
                refine C_seqK (fun K141 hK141 => ?_)
                refine C_region ?_
                refine T_k F H (pt xb 0) ?_
                clear F; intro a F
                refine T_k F H (nw (nx + 1)) ?_
                clear F; intro a F
                refine T_callX (α := InS) F H kr 21 #[pt xb 0, nw (nx + 1)] (fun rX => .tuple #[.slice none 0 0, .bool false]) (fun rX => rX.blks xb ++ []) (fun rX => rX.ok ∧ rX.U = s1.U ∧ rX.hD = s1.hD.filter fun d => decide (nx + 1 < d.1)) (fun w => kr) (fun w H => turn_S0 hs1 H (nx + 1) (fun d hd he => hf ⟨d.2, by rw [← he]; exact hd⟩)) ?_
                clear F H; intro s142 a v Qs142 F H
                refine T_k F H (.tuple #[.slice none 0 0, .bool false]) ?_
                clear F; intro a F
                refine T_k F H (.slice none 0 0) ?_
                clear F; intro a F
                refine T_k F H (.bool false) ?_
                clear F; intro a F
                refine T_k F H (.slice none 0 0) ?_
                clear F; intro a F
                refine T_k F H (.bool false) ?_
                clear F; intro a F
                refine wpList_nil ?_
                refine hK141 _ _ ?_
                clear hK141
                try clear K141
                refine C_seqK (fun K143 hK143 => ?_)
                refine C_region ?_
                refine T_k F H (pt xb 0) ?_
                clear F; intro a F
                refine T_k F H (nw (nx + 1)) ?_
                clear F; intro a F
                refine T_callX (α := InS) F H kr 21 #[pt xb 0, nw (nx + 1)] (fun rX => .tuple #[.slice none 0 0, .bool false]) (fun rX => rX.blks xb ++ []) (fun rX => rX.ok ∧ rX.U = s142.U ∧ rX.hD = s142.hD.filter fun d => decide (nx + 1 < d.1)) (fun w => kr) (fun w H => turn_S0 Qs142.1 H (nx + 1) (by rw [Qs142.2.2]; exact hN3.none)) ?_
                clear F H; intro s144 a v Qs144 F H
                have hDz : s144.hD = s1.hD.filter fun d => decide (nx + 1 < d.1) := by rw [Qs144.2.2, Qs142.2.2, hN3.again]
                refine T_k F H (.tuple #[.slice none 0 0, .bool false]) ?_
                clear F; intro a F
                refine T_k F H (.slice none 0 0) ?_
                clear F; intro a F
                refine T_k F H (.bool false) ?_
                clear F; intro a F
                refine T_k F H (.slice none 0 0) ?_
                clear F; intro a F
                refine T_k F H (.bool false) ?_
                clear F; intro a F
                refine wpList_nil ?_
                refine hK143 _ _ ?_
                clear hK143
                try clear K143
                refine C_seqK (fun K145 hK145 => ?_)
                refine C_region ?_
                refine T_k F H (.bool false) ?_
                clear F; intro a F
                refine T_k F H (.bool false) ?_
                clear F; intro a F
                refine T_k F H (.bool false) ?_
                clear F; intro a F
                refine T_k F H (.bool false) ?_
                clear F; intro a F
                refine T_skip F kr kr ?_
                clear F; intro a F
                refine T_skip F kr kr ?_
                clear F; intro a F
                refine T_k F H (.bool false) ?_
                clear F; intro a F
                refine T_k F H (.bool false) ?_
                clear F; intro a F
                refine T_skip F kr kr ?_
                clear F; intro a F
                refine T_skip F kr kr ?_
                clear F; intro a F
                refine T_skip F kr kr ?_
                clear F; intro a F
                refine T_skip F kr kr ?_
                clear F; intro a F
                refine T_skip F kr kr ?_
                clear F; intro a F
                refine T_skip F kr kr ?_
                clear F; intro a F
                refine T_skip F kr kr ?_
                clear F; intro a F
                refine T_k F H (.bool false) ?_
                clear F; intro a F
                refine T_k F H (.bool false) ?_
                clear F; intro a F
                refine T_skip F kr kr ?_
                clear F; intro a F
                refine T_skip F kr kr ?_
                clear F; intro a F
                refine T_skip F kr kr ?_
                clear F; intro a F
                refine T_skip F kr kr ?_
                clear F; intro a F
                refine T_skip F kr kr ?_
                clear F; intro a F
                refine T_skip F kr kr ?_
                clear F; intro a F
                refine T_skip F kr kr ?_
                clear F; intro a F
                refine T_skip F kr kr ?_
                clear F; intro a F
                refine T_k F H (.bool false) ?_
                clear F; intro a F
                refine T_k F H (.bool false) ?_
                clear F; intro a F
                refine T_k F H (.bool false) ?_
                clear F; intro a F
                refine T_k F H (.bool false) ?_
                clear F; intro a F
                refine T_k F H (.bool true) ?_
                clear F; intro a F
                refine T_k F H (.bool true) ?_
                clear F; intro a F
                refine T_k F H (.int .i64 0) ?_
                clear F; intro a F
                refine T_val F H kr (.bool true) (fun w _ => R_bin (x := (.tmp 124)) (y := (.const (.int .i64 0))) rfl (k := .i64) (a := 0) (b := ((0 : Nat) : Int)) kr kr kr w) ?_
                clear F; intro a F
                refine T_k F H (.bool true) ?_
                clear F; intro a F
                refine T_k F H (.bool true) ?_
                clear F; intro a F
                refine T_k F H (sc ga oa ops.length c) ?_
                clear F; intro a F
                refine T_k F H (ni k) ?_
                clear F; intro a F
                refine T_val F H kr (pt ga (oa + (k) * 6)) (fun w _ => R_indexS (k := .i64) (g := ga) (off := oa) (len := ops.length) (cap := c) (x := (.tmp 128)) (y := (.tmp 129)) rfl Try.underlying22 kr (k) kr (by omega) (sz := 6) kr w) ?_
                clear F; intro a F
                refine T_k F H (pt ga ((oa + (k) * 6) + 2)) ?_
                clear F; intro a F
                refine T_valK F H kr (nw op.ix) (fun w hk hl => R_ld (y := (.tmp 131)) rfl (g := ga) (off := ((oa + (k) * 6) + 2)) kr (opj_cell (j := 2) (hr.kept hk List.not_mem_nil) hop rfl) _ Try.underlying29 rfl) ?_
                clear F; intro a F
                refine T_k F H (nw (nx + 1)) ?_
                clear F; intro a F
                refine T_val F H kr (.bool false) (fun w _ => R_bin (x := (.tmp 132)) (y := (.tmp 133)) rfl (k := .u32) (a := ((op.ix : Nat) : Int)) (b := (((nx + 1) : Nat) : Int)) kr kr (i_eqd.trans (by rw [decide_eq_false (by omega)])) w) ?_
                clear F; intro a F
                refine T_k F H (.bool false) ?_
                clear F; intro a F
                refine T_k F H (.bool false) ?_
                clear F; intro a F
                refine wpList_nil ?_
                refine hK145 _ _ ?_
                clear hK145
                try clear K145
                refine C_if F false rfl rfl ?_
                refine wp_skip ?_
                exact hN _ _ ⟨s144, nx + 1, ⟨Qs144.1, by rw [hDz]; exact hN3, by omega, by rw [hDz]; exact Nat.le_trans (List.length_filter_le _ _) (by omega)⟩, F.weak _ (subL_of kr), ix_weak (T := []) H⟩
            · skip
              refine C_seqK (fun K146 hK146 => ?_)
              refine C_region ?_
              refine T_k F H (sc ga oa ops.length c) ?_
              clear F; intro a F
              refine T_k F H (ni k) ?_
              clear F; intro a F
              refine T_val F H kr (pt ga (oa + (k) * 6)) (fun w _ => R_indexS (k := .i64) (g := ga) (off := oa) (len := ops.length) (cap := c) (x := (.tmp 73)) (y := (.tmp 74)) rfl Try.underlying22 kr (k) kr (by omega) (sz := 6) kr w) ?_
              clear F; intro a F
              refine T_k F H (pt ga ((oa + (k) * 6) + 0)) ?_
              clear F; intro a F
              refine T_valK F H kr (.int .i64 op.do_) (fun w hk hl => R_ld (y := (.tmp 76)) rfl (g := ga) (off := ((oa + (k) * 6) + 0)) kr (opj_cell (j := 0) (hr.kept hk List.not_mem_nil) hop rfl) _ Try.underlying3 rfl) ?_
              clear F; intro a F
              refine T_val F H kr (.bool false) (fun w _ => R_bin (x := (.tmp 77)) (y := (.const (.int .i64 2))) rfl (k := .i64) (a := op.do_) (b := 2) kr kr (i_eqI'.trans (by rw [decide_eq_false hd])) w) ?_
              clear F; intro a F
              refine wpList_nil ?_
              refine hK146 _ _ ?_
              clear hK146
              try clear K146
              refine C_if F false rfl rfl ?_
              refine wp_skip ?_
              exact hN _ _ ⟨s1, nx, ⟨hs1, hN2, by omega, by omega⟩, F.weak _ (subL_of kr), H⟩
          clear hK124
          try clear K124
          refine C_seqK (fun K147 hK147 => ?_)
          refine C_region ?_
          refine T_k F H (pt xb 0) ?_
          clear F; intro a F
          refine T_callX (α := Hs) F H kr 22 #[pt xb 0] (fun r => r.v) (fun r => s3.blks xb ++ (r.blks ++ [])) (fun r => r.ok ∧ r.cs.Pairwise (fun a b => a.1 ≤ b.1) ∧ r.D.Perm s3.hD) (fun w => kr) (fun w H => held_S hs3 (by omega) H) ?_
          clear F H; intro o a v ⟨ho, hpw, hpm⟩ F H
          rw [Hs.v_eq ho] at F
          have holen := Hs.le ho
          have hol : o.cs.length < 1000000 := by
            have h1 := hpm.length_eq
            unfold Hs.D at h1
            rw [List.length_map] at h1
            omega
          have hcell := fun k c (hk : o.cs[k]? = some c) => Hs.cell ho hk
          generalize o.ad = oad at F hcell
          generalize o.cp = ocp at F holen
          replace F : Fm 163 [] [(138, .slice oad o.cs.length ocp), (137, pt xb 0), (8, ni k), (0, sc ga oa ops.length c), (5, .bool true), (6, pt xb 0), (7, nw nx3)] a := F.weak _ (subL_of kr)
          replace H : Hp [] w (s3.blks xb ++ (o.blks ++ [])) v := H
          refine T_k F H (.slice oad o.cs.length ocp) ?_
          clear F; intro a F
          refine wpList_nil ?_
          refine hK147 _ _ ?_
          clear hK147
          try clear K147
          refine C_seqK (fun K148 hK148 => ?_)
          refine C_region ?_
          refine T_k F H (ni 0) ?_
          clear F; intro a F
          refine wpList_nil ?_
          refine hK148 _ _ ?_
          clear hK148
          try clear K148
          replace F : Fm 163 [] [(16, ni 0), (15, .slice oad o.cs.length ocp), (8, ni k), (0, sc ga oa ops.length c), (5, .bool true), (6, pt xb 0), (7, nw nx3)] a := F.weak _ (subL_of kr)
          refine wp_block ?_
          refine C_loop (fun mj a v => ∃ j, j + mj = o.cs.length ∧ Fm 163 [] [(16, ni j), (15, .slice oad o.cs.length ocp), (8, ni k), (0, sc ga oa ops.length c), (5, .bool true), (6, pt xb 0), (7, nw nx3)] a ∧ Hp [] w (s3.blks xb ++ (o.blks ++ [])) v) (o.cs.length) ⟨0, Nat.zero_add _, F, H⟩ ?_
          clear F H
          intro mj a v ⟨j, hj, F, H⟩
          rcases mj with _ | mj
          rotate_left
          · obtain ⟨hc0, hhc⟩ : ∃ hc0, o.cs[j]? = some hc0 := ⟨_, List.getElem?_eq_getElem (show j < o.cs.length by omega)⟩
            obtain ⟨hkey1, hkey2⟩ := hN3.at_ _ (Hs.key hpm hhc)
            dsimp only at hkey1 hkey2
            obtain ⟨gh, e2, hce⟩ := hcell j hc0 hhc
            subst e2
            replace F : Fm 163 [] [(16, ni j), (15, sc gh 0 o.cs.length ocp), (8, ni k), (0, sc ga oa ops.length c), (5, .bool true), (6, pt xb 0), (7, nw nx3)] a := F
            refine C_seqK (fun K149 hK149 => ?_)
            refine C_seqK (fun K150 hK150 => ?_)
            refine C_region ?_
            refine T_k F H (ni j) ?_
            clear F; intro a F
            refine T_k F H (sc gh 0 o.cs.length ocp) ?_
            clear F; intro a F
            refine T_k F H (ni o.cs.length) ?_
            clear F; intro a F
            refine T_val F H kr (.bool true) (fun w _ => R_bin (x := (.tmp 139)) (y := (.tmp 141)) rfl (k := .i64) (a := ((j : Nat) : Int)) (b := ((o.cs.length : Nat) : Int)) kr kr (i_lt (by omega)) w) ?_
            clear F; intro a F
            refine wpList_nil ?_
            refine hK150 _ _ ?_
            clear hK150
            try clear K150
            refine C_if F true rfl rfl ?_
            refine wp_skip ?_
            refine hK149 _ _ ?_
            clear hK149
            try clear K149
            refine C_seqK (fun K151 hK151 => ?_)
            refine wp_block ?_
            refine C_seqK (fun K152 hK152 => ?_)
            refine C_region ?_
            refine T_k F H (sc gh 0 o.cs.length ocp) ?_
            clear F; intro a F
            refine T_k F H (ni j) ?_
            clear F; intro a F
            refine T_val F H kr (pt gh (0 + (j) * 2)) (fun w _ => R_indexS (k := .i64) (g := gh) (off := 0) (len := o.cs.length) (cap := ocp) (x := (.tmp 145)) (y := (.tmp 146)) rfl Try.underlying31 kr (j) kr (by omega) (sz := 2) kr w) ?_
            clear F; intro a F
            refine T_k F H (pt gh ((0 + (j) * 2) + 0)) ?_
            clear F; intro a F
            refine T_valK F H kr (nw hc0.1) (fun w hk hl => R_ld (y := (.tmp 148)) rfl (g := gh) (off := ((0 + (j) * 2) + 0)) kr (hce _ (fun p hp => hl.held p (by simp only [List.mem_append, List.mem_cons, hp, true_or, or_true])) 0 _ rfl) _ Try.underlying29 rfl) ?_
            clear F; intro a F
            refine T_k F H (nw nx3) ?_
            clear F; intro a F
            refine T_val F H kr (.bool false) (fun w _ => R_bin (x := (.tmp 149)) (y := (.tmp 150)) rfl (k := .u32) (a := ((hc0.1 : Nat) : Int)) (b := ((nx3 : Nat) : Int)) kr kr (i_leqd.trans (by rw [decide_eq_false (by omega)])) w) ?_
            clear F; intro a F
            refine T_k F H (.bool false) ?_
            clear F; intro a F
            refine T_k F H (sc gh 0 o.cs.length ocp) ?_
            clear F; intro a F
            refine T_k F H (ni j) ?_
            clear F; intro a F
            refine T_val F H kr (pt gh (0 + (j) * 2)) (fun w _ => R_indexS (k := .i64) (g := gh) (off := 0) (len := o.cs.length) (cap := ocp) (x := (.tmp 153)) (y := (.tmp 154)) rfl Try.underlying31 kr (j) kr (by omega) (sz := 2) kr w) ?_
            clear F; intro a F
            refine T_k F H (pt gh ((0 + (j) * 2) + 0)) ?_
            clear F; intro a F
            refine T_valK F H kr (nw hc0.1) (fun w hk hl => R_ld (y := (.tmp 156)) rfl (g := gh) (off := ((0 + (j) * 2) + 0)) kr (hce _ (fun p hp => hl.held p (by simp only [List.mem_append, List.mem_cons, hp, true_or, or_true])) 0 _ rfl) _ Try.underlying29 rfl) ?_
            clear F; intro a F
            refine T_k F H (nw nx3) ?_
            clear F; intro a F
            refine T_val F H kr (nw (nx3 + 3)) (fun w _ => R_bin (x := (.tmp 158)) (y := (.const (.int .u32 3))) rfl (k := .u32) (a := ((nx3 : Nat) : Int)) (b := ((3 : Nat) : Int)) kr kr (i_addu32 (a := nx3) (b := 3) (by omega)) w) ?_
            clear F; intro a F
            refine T_val F H kr (.bool false) (fun w _ => R_bin (x := (.tmp 157)) (y := (.tmp 159)) rfl (k := .u32) (a := ((hc0.1 : Nat) : Int)) (b := (((nx3 + 3) : Nat) : Int)) kr kr (i_gtrd.trans (by rw [decide_eq_false (by omega)])) w) ?_
            clear F; intro a F
            refine T_k F H (.bool false) ?_
            clear F; intro a F
            refine wpList_nil ?_
            refine hK152 _ _ ?_
            clear hK152
            try clear K152
            refine C_if F false rfl rfl ?_
            refine wp_skip ?_
            refine hK151 _ _ ?_
            clear hK151
            try clear K151
            refine C_region ?_
            refine T_k F H (ni j) ?_
            clear F; intro a F
            refine T_val F H kr (ni (j + 1)) (fun w _ => R_bin (x := (.tmp 143)) (y := (.const (.int .i64 1))) rfl (k := .i64) (a := ((j : Nat) : Int)) (b := ((1 : Nat) : Int)) kr kr (i_addn64 (a := j) (b := 1) (by omega)) w) ?_
            clear F; intro a F
            refine T_k F H (ni (j + 1)) ?_
            clear F; intro a F
            refine wpList_nil ?_
            exact ⟨mj, Nat.lt_succ_self mj, j + 1, by omega, F.weak _ (subL_of kr), H⟩
          refine C_seqK (fun K153 hK153 => ?_)
          refine C_seqK (fun K154 hK154 => ?_)
          refine C_region ?_
          refine T_k F H (ni j) ?_
          clear F; intro a F
          refine T_k F H (.slice oad o.cs.length ocp) ?_
          clear F; intro a F
          refine T_k F H (ni o.cs.length) ?_
          clear F; intro a F
          refine T_val F H kr (.bool false) (fun w _ => R_bin (x := (.tmp 139)) (y := (.tmp 141)) rfl (k := .i64) (a := ((j : Nat) : Int)) (b := ((o.cs.length : Nat) : Int)) kr kr (i_nlt (by omega)) w) ?_
          clear F; intro a F
          refine wpList_nil ?_
          refine hK154 _ _ ?_
          clear hK154
          try clear K154
          refine C_if F false rfl rfl ?_
          refine wp_exit ?_
          refine hK119 _ _ ?_
          clear hK119
          try clear K119
          refine C_region ?_
          refine T_k F H (ni k) ?_
          clear F; intro a F
          refine T_val F H kr (ni (k + 1)) (fun w _ => R_bin (x := (.tmp 33)) (y := (.const (.int .i64 1))) rfl (k := .i64) (a := ((k : Nat) : Int)) (b := ((1 : Nat) : Int)) kr kr (i_addn64 (a := k) (b := 1) (by omega)) w) ?_
          clear F; intro a F
          refine T_k F H (ni (k + 1)) ?_
          clear F; intro a F
          refine wpList_nil ?_
          exact ⟨m, Nat.lt_succ_self m, k + 1, s3, nx3, by omega, ⟨hs3, hN3, by omega, hL3⟩, F.weak _ (subL_of kr), ix_weak (T := []) H⟩
      refine C_seqK (fun K155 hK155 => ?_)
      refine C_seqK (fun K156 hK156 => ?_)
      refine C_region ?_
      refine T_k F H (ni k) ?_
      clear F; intro a F
      refine T_k F H (.slice la ops.length c) ?_
      clear F; intro a F
      refine T_k F H (ni ops.length) ?_
      clear F; intro a F
      refine T_val F H kr (.bool false) (fun w _ => R_bin (x := (.tmp 29)) (y := (.tmp 31)) rfl (k := .i64) (a := ((k : Nat) : Int)) (b := ((ops.length : Nat) : Int)) kr kr (i_nlt (by omega)) w) ?_
      clear F; intro a F
      refine wpList_nil ?_
      refine hK156 _ _ ?_
      clear hK156
      try clear K156
      refine C_if F false rfl rfl ?_
      refine wp_exit ?_
      refine hK22 _ _ ?_
      clear hK22
      try clear K22
      refine C_seqK (fun K157 hK157 => ?_)
      refine C_region ?_
      refine T_k F H (.bool true) ?_
      clear F; intro a F
      refine T_k F H (.bool true) ?_
      clear F; intro a F
      refine wpList_nil ?_
      refine hK157 _ _ ?_
      clear hK157
      try clear K157
      refine wp_ret ?_
      exact C_ret F H (rs := [.tmp 4]) rfl (vs := [.bool true]) (.tmp rfl .nil) (.bool true) rfl ⟨rfl, H.kept⟩
end Go.Proofs.Ytlnlppmhiobgjaa
