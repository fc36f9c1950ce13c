/- bytes.Equal. -/
import Derived.Test.YtlnlppmhiobgjaaGP
import Derived.Lib.SlicesS
import Derived.Laws.StructEq
set_option linter.unusedVariables false
set_option linter.unusedSimpArgs false
namespace Go.Proofs.Ytlnlppmhiobgjaa
open Go Go.RowKit
theorem R_strS {P : Program} {o : Oper} {V : List (Nat × Value)} {w : World} {t t2 e : TypeId} {x : Operand} (ho : o.op = .convert t t2 x) (ht : P.underlying t = some (.slice e)) (he : P.underlying e = some (.int .u8)) (h2 : P.underlying t2 = some .string) (s : Sv) (hx : evV V x = s.v) (hs : s.Rd w) (h8 : ∀ y ∈ s.l, y < 256) : (execOp (evV V) o).run P w = .ok (.value (.string ⟨(s.l.map UInt8.ofNat).toArray⟩)) w := by
  have hrun : (convert t t2 s.v).run P w = .ok (.string ⟨(s.l.map UInt8.ofNat).toArray⟩) w := by
    obtain ⟨ad, c, l⟩ := s
    cases ad with
    | none =>
      have hl : l = [] := hs.empty rfl
      subst hl
      simp [Sv.v, convert, run_underlying ht, run_underlying he, run_underlying h2, Conv.bytesToString]
      rfl
    | some a =>
      have h := run_convert_bytes_back (P := P) w t t2 e a c (l.map UInt8.ofNat) ht he h2 (fun j hj => by
        rw [List.length_map] at hj
        have hne : l ≠ [] := fun e => by rw [e] at hj; exact absurd hj (Nat.not_lt_zero _)
        obtain ⟨g, off, h1, hr⟩ := hs.at_ hne
        injection h1 with h1
        subst h1
        have hadd : (⟨g, off, none⟩ : Addr).add j = ⟨g, off + j, none⟩ := by unfold Addr.add; split <;> simp_all
        rw [hadd, hr j _ (oct_at hj)]
        congr 3
        rw [List.getElem_map, List.getD_eq_getElem?_getD, List.getElem?_eq_getElem hj]
        have h3 : l[j] < 256 := h8 _ (List.getElem_mem hj)
        show _ = (UInt8.ofNat l[j]).toNat
        rw [UInt8.toNat_ofNat']
        exact (Nat.mod_eq_of_lt h3).symm)
      rw [List.length_map] at h
      exact h
  unfold execOp
  simp only [ho, hx, Sem.run_bind, hrun, Result.andThen]
  rfl
theorem str_eq {l m : List Nat} (hl : ∀ y ∈ l, y < 256) (hm : ∀ y ∈ m, y < 256) : ((⟨(l.map UInt8.ofNat).toArray⟩ : ByteArray) = ⟨(m.map UInt8.ofNat).toArray⟩) ↔ l = m := by
  constructor
  · intro h
    have h1 : (l.map UInt8.ofNat).toArray = (m.map UInt8.ofNat).toArray := congrArg ByteArray.data h
    have h2 : l.map UInt8.ofNat = m.map UInt8.ofNat := by simpa using h1
    have back : ∀ q : List Nat, (∀ y ∈ q, y < 256) → (q.map UInt8.ofNat).map UInt8.toNat = q := fun q hq => by
      rw [List.map_map]
      refine (List.map_congr_left fun y hy => ?_).trans (List.map_id _)
      show (UInt8.ofNat y).toNat = y
      rw [UInt8.toNat_ofNat']
      exact Nat.mod_eq_of_lt (hq y hy)
    rw [← back l hl, ← back m hm, h2]
  · rintro rfl; rfl
theorem R_streq {P : Program} {o : Oper} {V : List (Nat × Value)} {w : World} {t t2 : TypeId} {x y : Operand} (ho : o.op = .binOp .eql t x y t2) (ht : P.underlying t = some .string) {a b : ByteArray} (hx : evV V x = .string a) (hy : evV V y = .string b) (v : Bool) (hv : v = true ↔ a = b) : (execOp (evV V) o).run P w = .ok (.value (.bool v)) w := by
  have hq : (Op.stringOp .eql a b).run P w = .ok (.bool v) w := by
    have e : (a.toList == b.toList) = v := by rw [Bool.eq_iff_iff, Lib.bytes_beq_iff]; exact hv.symm
    unfold Op.stringOp
    simp only [e]
    rfl
  clear hv
  unfold execOp
  simp only [ho, hx, hy]
  simp [eqGuard, binOp, hq, Sem.run_bind, Sem.run_pure, go_sem]

set_option maxRecDepth 100000 in
set_option maxHeartbeats 4000000 in
theorem eqb_any (ada : Option Addr) (ca : Nat) (la : List Nat) (adb : Option Addr) (cb : Nat) (lb : List Nat) (oa : ∀ y ∈ la, y < 256) (ob : ∀ y ∈ lb, y < 256) (w : World) (ha : Sv.Rd w ⟨ada, ca, la⟩) (hb : Sv.Rd w ⟨adb, cb, lb⟩) : Calls Try.prog 33 #[.slice ada la.length ca, .slice adb lb.length cb] w fun e w' => e = .returned (.bool (decide (la = lb))) ∧ Kept [] w w' := by
  refine C_enter Try.func33 rfl 10 Try.ntmps33 (Nat.le_of_ble_eq_true rfl) (fun a F => ?_)
  have H := Hp.start [] w
  replace F : Fm 10 [] [(0, .slice ada la.length ca), (1, .slice adb lb.length cb)] a := F.weak _ (subL_of kr)
  refine C_seqK (fun K1 hK1 => ?_)
  refine C_region ?_
  refine T_k F H (.bool false) ?_
  clear F; intro a F
  refine wpList_nil ?_
  refine hK1 _ _ ?_
  clear hK1
  try clear K1
  refine C_seqK (fun K2 hK2 => ?_)
  refine C_region ?_
  refine T_k F H (.slice ada la.length ca) ?_
  clear F; intro a F
  refine T_valK F H kr (.string ⟨(la.map UInt8.ofNat).toArray⟩) (fun w hk hl => R_strS (x := (.tmp 5)) rfl Try.underlying30 Try.underlying5 Try.underlying9 ⟨ada, ca, la⟩ kr (ha.kept hk) oa) ?_
  clear F; intro a F
  refine T_k F H (.slice adb lb.length cb) ?_
  clear F; intro a F
  refine T_valK F H kr (.string ⟨(lb.map UInt8.ofNat).toArray⟩) (fun w hk hl => R_strS (x := (.tmp 7)) rfl Try.underlying30 Try.underlying5 Try.underlying9 ⟨adb, cb, lb⟩ kr (hb.kept hk) ob) ?_
  clear F; intro a F
  refine T_val F H kr (.bool (decide (la = lb))) (fun w _ => R_streq (a := ⟨(la.map UInt8.ofNat).toArray⟩) (b := ⟨(lb.map UInt8.ofNat).toArray⟩) (x := (.tmp 6)) (y := (.tmp 8)) rfl Try.underlying9 kr kr (decide (la = lb)) (by rw [decide_eq_true_iff, str_eq oa ob])) ?_
  clear F; intro a F
  refine T_k F H (.bool (decide (la = lb))) ?_
  clear F; intro a F
  refine wpList_nil ?_
  refine hK2 _ _ ?_
  clear hK2
  try clear K2
  refine wp_ret ?_
  exact C_ret F H (rs := [.tmp 4]) rfl (vs := [.bool (decide (la = lb))]) (.tmp rfl .nil) (.bool (decide (la = lb))) rfl ⟨rfl, H.kept⟩

theorem eqb_S (c : Cl) (s : Sv) (v : Bool) (hv : v = decide (c.l = s.l)) (hc : c.ok) (oc : ∀ y ∈ c.l, y < 256) (os : ∀ y ∈ s.l, y < 256) (w : World) (hr : c.sv.Rd w) (hs : s.Rd w) : Calls Try.prog 33 #[c.v, s.v] w fun e w' => e = .returned (.bool v) ∧ Kept [] w w' := by
  have h := eqb_any c.sv.ad c.sv.c c.sv.l s.ad s.c s.l (by rw [Cl.sv_l]; exact oc) os w hr hs
  rw [Cl.sv_l] at h
  subst hv
  rw [← Cl.sv_v hc]
  have e : c.sv.v = .slice c.sv.ad c.l.length c.sv.c := by unfold Sv.v; rw [Cl.sv_l]
  rw [e]
  exact h

set_option maxRecDepth 100000 in
set_option maxHeartbeats 4000000 in
theorem hold_full (xb nx ix mb clock : Nat) (M : List MEn) (uv : Value) (h : nx < ix) (h4 : ix - nx < 4) (hix : ix < 4294967296) (i0 : Nat) (c0 : Cl) (hq : mfi ix M 0 = some (i0, c0.v)) (h0 : c0.ok) (o0 : ∀ y ∈ c0.l, y < 256) (b : Sv) (ob : ∀ y ∈ (b.l : List Nat), y < 256) (he : ¬ c0.l = b.l) (w : World) (hx : w.heap[xb]? = some (.cells #[.map (some mb), uv] 28 (0, 0))) (hm0 : w.heap[mb]? = some (mpO M clock)) (hne : mb ≠ xb) (hc : Sv.RdK [mb] w c0.sv) (hb : Sv.RdK [mb] w b) : Calls Try.prog 20 #[.pointer (some ⟨xb, 0, none⟩), .int .u32 ((nx : Nat) : Int), .int .u32 ((ix : Nat) : Int), b.v] w fun e w' => e = .returned (.int .i64 63) ∧ Hp [mb] w [⟨true, mb, mpO M clock⟩] w' := by
  refine C_enter Try.func20 rfl 52 Try.ntmps20 (Nat.le_of_ble_eq_true rfl) (fun a F => ?_)
  have H : Hp [mb] w [⟨true, mb, mpO M clock⟩, br xb #[.map (some mb), uv] 28] w := Hp.startWR hm0 hx hne
  replace F : Fm 52 [] [(0, pt xb 0), (1, nw nx), (2, nw ix), (3, b.v)] a := F.weak _ (subL_of kr)
  refine C_seqK (fun K1 hK1 => ?_)
  refine C_region ?_
  refine T_k F H (ni 0) ?_
  clear F; intro a F
  refine wpList_nil ?_
  refine hK1 _ _ ?_
  clear hK1
  try clear K1
  refine C_seqK (fun K2 hK2 => ?_)
  refine wp_block ?_
  refine C_seqK (fun K3 hK3 => ?_)
  refine C_region ?_
  refine T_k F H (nw ix) ?_
  clear F; intro a F
  refine T_k F H (nw nx) ?_
  clear F; intro a F
  refine T_val F H kr (.bool false) (fun w _ => R_bin (x := (.tmp 12)) (y := (.tmp 13)) rfl (k := .u32) (a := ((ix : Nat) : Int)) (b := ((nx : Nat) : Int)) kr kr (i_leqd.trans (by rw [decide_eq_false (by omega)])) w) ?_
  clear F; intro a F
  refine T_k F H (.bool false) ?_
  clear F; intro a F
  refine wpList_nil ?_
  refine hK3 _ _ ?_
  clear hK3
  try clear K3
  refine C_if F false rfl rfl ?_
  refine C_seqK (fun K4 hK4 => ?_)
  refine C_region ?_
  refine T_k F H (nw ix) ?_
  clear F; intro a F
  refine T_k F H (nw nx) ?_
  clear F; intro a F
  refine T_val F H kr (nw (ix - nx)) (fun w _ => R_bin (x := (.tmp 16)) (y := (.tmp 17)) rfl (k := .u32) (a := ((ix : Nat) : Int)) (b := ((nx : Nat) : Int)) kr kr (i_subu32 (a := ix) (b := nx) (by omega) (by omega)) w) ?_
  clear F; intro a F
  refine T_val F H kr (.bool false) (fun w _ => R_bin (x := (.tmp 18)) (y := (.const (.int .u32 4))) rfl (k := .u32) (a := (((ix - nx) : Nat) : Int)) (b := ((4 : Nat) : Int)) kr kr (i_geqd.trans (by rw [decide_eq_false (by omega)])) w) ?_
  clear F; intro a F
  refine T_k F H (.bool false) ?_
  clear F; intro a F
  refine wpList_nil ?_
  refine hK4 _ _ ?_
  clear hK4
  try clear K4
  refine C_if F false rfl rfl ?_
  refine wp_skip ?_
  refine hK2 _ _ ?_
  clear hK2
  try clear K2
  refine C_seqK (fun K5 hK5 => ?_)
  refine C_seqK (fun K6 hK6 => ?_)
  refine C_region ?_
  refine T_k F H (pt xb 0) ?_
  clear F; intro a F
  refine T_k F H (pt xb 0) ?_
  clear F; intro a F
  refine T_k F H (pt xb 0) ?_
  clear F; intro a F
  refine T_val F H kr (.map (some mb)) (R_cell (own := false) (g := xb) (all := #[.map (some mb), uv]) (t := 28) (fr := (0, 0)) 1 kr 25 (.tmp 23) rfl 0 kr (.map (some mb)) kr _ Try.underlying25 rfl) ?_
  clear F; intro a F
  refine T_k F H (nw ix) ?_
  clear F; intro a F
  refine T_val F H kr (.tuple #[c0.v, .bool true]) (fun w hl => (R_lookup (x := (.tmp 24)) (y := (.tmp 25)) rfl Try.underlying25 Try.underlying29 (fun w => kr) (k := ix) kr kr (hl.at_ (k := 0) rfl)).trans (by rw [hq]; rfl)) ?_
  clear F; intro a F
  refine T_k F H (.tuple #[c0.v, .bool true]) ?_
  clear F; intro a F
  refine T_k F H (c0.v) ?_
  clear F; intro a F
  refine T_k F H (.bool true) ?_
  clear F; intro a F
  refine T_k F H (c0.v) ?_
  clear F; intro a F
  refine T_k F H (.bool true) ?_
  clear F; intro a F
  refine wpList_nil ?_
  refine hK6 _ _ ?_
  clear hK6
  try clear K6
  refine C_seqK (fun K7 hK7 => ?_)
  refine C_region ?_
  refine T_k F H (.bool true) ?_
  clear F; intro a F
  refine T_k F H (.bool true) ?_
  clear F; intro a F
  refine T_k F H (c0.v) ?_
  clear F; intro a F
  refine T_k F H (b.v) ?_
  clear F; intro a F
  refine T_call F H kr 33 #[c0.v, b.v] (.bool false) (fun w => kr) (eqb_S c0 b false (decide_eq_false he).symm h0 o0 ob _ (hc _ H.kept) (hb _ H.kept)) ?_
  clear F H; intro a v F H
  refine T_k F H (.bool true) ?_
  clear F; intro a F
  refine T_k F H (.bool true) ?_
  clear F; intro a F
  refine wpList_nil ?_
  refine hK7 _ _ ?_
  clear hK7
  try clear K7
  refine C_if F true rfl rfl ?_
  refine C_seqK (fun K8 hK8 => ?_)
  refine C_region ?_
  refine T_k F H (ni 63) ?_
  clear F; intro a F
  refine wpList_nil ?_
  refine hK8 _ _ ?_
  clear hK8
  try clear K8
  refine wp_ret ?_
  repeat (first | with_reducible refine then_ret ?_ | with_reducible refine inB_ret ?_)
  exact C_ret F H (rs := [.tmp 8]) rfl (vs := [ni 63]) (.tmp rfl .nil) (ni 63) rfl ⟨rfl, H.pick [0] kr _ rfl⟩

set_option maxRecDepth 100000 in
set_option maxHeartbeats 4000000 in
theorem hold_same_nil (xb nx ix mb clock : Nat) (M : List MEn) (uv : Value) (h : nx < ix) (h4 : ix - nx < 4) (hix : ix < 4294967296) (i0 : Nat) (c0 : Cl) (hq : mfi ix M 0 = some (i0, c0.v)) (h0 : c0.ok) (o0 : ∀ y ∈ c0.l, y < 256) (ob : ∀ y ∈ ([] : List Nat), y < 256) (he : c0.l = []) (w : World) (hx : w.heap[xb]? = some (.cells #[.map (some mb), uv] 28 (0, 0))) (hm0 : w.heap[mb]? = some (mpO M clock)) (hne : mb ≠ xb) (hc : Sv.RdK [mb] w c0.sv) (hb : Sv.RdK [mb] w ⟨none, 0, []⟩) : Calls Try.prog 20 #[.pointer (some ⟨xb, 0, none⟩), .int .u32 ((nx : Nat) : Int), .int .u32 ((ix : Nat) : Int), .slice none 0 0] w fun e w' => ∃ c : Cl, e = .returned (.int .i64 0) ∧ c.l = [] ∧ c.ok ∧ Hp [mb] w (⟨true, mb, mpO (mset ix c clock M) clock⟩ :: c.blks) w' := by
  refine C_enter Try.func20 rfl 52 Try.ntmps20 (Nat.le_of_ble_eq_true rfl) (fun a F => ?_)
  have H : Hp [mb] w [⟨true, mb, mpO M clock⟩, br xb #[.map (some mb), uv] 28] w := Hp.startWR hm0 hx hne
  replace F : Fm 52 [] [(0, pt xb 0), (1, nw nx), (2, nw ix), (3, .slice none 0 0)] a := F.weak _ (subL_of kr)
  refine C_seqK (fun K1 hK1 => ?_)
  refine C_region ?_
  refine T_k F H (ni 0) ?_
  clear F; intro a F
  refine wpList_nil ?_
  refine hK1 _ _ ?_
  clear hK1
  try clear K1
  refine C_seqK (fun K2 hK2 => ?_)
  refine wp_block ?_
  refine C_seqK (fun K3 hK3 => ?_)
  refine C_region ?_
  refine T_k F H (nw ix) ?_
  clear F; intro a F
  refine T_k F H (nw nx) ?_
  clear F; intro a F
  refine T_val F H kr (.bool false) (fun w _ => R_bin (x := (.tmp 12)) (y := (.tmp 13)) rfl (k := .u32) (a := ((ix : Nat) : Int)) (b := ((nx : Nat) : Int)) kr kr (i_leqd.trans (by rw [decide_eq_false (by omega)])) w) ?_
  clear F; intro a F
  refine T_k F H (.bool false) ?_
  clear F; intro a F
  refine wpList_nil ?_
  refine hK3 _ _ ?_
  clear hK3
  try clear K3
  refine C_if F false rfl rfl ?_
  refine C_seqK (fun K4 hK4 => ?_)
  refine C_region ?_
  refine T_k F H (nw ix) ?_
  clear F; intro a F
  refine T_k F H (nw nx) ?_
  clear F; intro a F
  refine T_val F H kr (nw (ix - nx)) (fun w _ => R_bin (x := (.tmp 16)) (y := (.tmp 17)) rfl (k := .u32) (a := ((ix : Nat) : Int)) (b := ((nx : Nat) : Int)) kr kr (i_subu32 (a := ix) (b := nx) (by omega) (by omega)) w) ?_
  clear F; intro a F
  refine T_val F H kr (.bool false) (fun w _ => R_bin (x := (.tmp 18)) (y := (.const (.int .u32 4))) rfl (k := .u32) (a := (((ix - nx) : Nat) : Int)) (b := ((4 : Nat) : Int)) kr kr (i_geqd.trans (by rw [decide_eq_false (by omega)])) w) ?_
  clear F; intro a F
  refine T_k F H (.bool false) ?_
  clear F; intro a F
  refine wpList_nil ?_
  refine hK4 _ _ ?_
  clear hK4
  try clear K4
  refine C_if F false rfl rfl ?_
  refine wp_skip ?_
  refine hK2 _ _ ?_
  clear hK2
  try clear K2
  refine C_seqK (fun K5 hK5 => ?_)
  refine C_seqK (fun K6 hK6 => ?_)
  refine C_region ?_
  refine T_k F H (pt xb 0) ?_
  clear F; intro a F
  refine T_k F H (pt xb 0) ?_
  clear F; intro a F
  refine T_k F H (pt xb 0) ?_
  clear F; intro a F
  refine T_val F H kr (.map (some mb)) (R_cell (own := false) (g := xb) (all := #[.map (some mb), uv]) (t := 28) (fr := (0, 0)) 1 kr 25 (.tmp 23) rfl 0 kr (.map (some mb)) kr _ Try.underlying25 rfl) ?_
  clear F; intro a F
  refine T_k F H (nw ix) ?_
  clear F; intro a F
  refine T_val F H kr (.tuple #[c0.v, .bool true]) (fun w hl => (R_lookup (x := (.tmp 24)) (y := (.tmp 25)) rfl Try.underlying25 Try.underlying29 (fun w => kr) (k := ix) kr kr (hl.at_ (k := 0) rfl)).trans (by rw [hq]; rfl)) ?_
  clear F; intro a F
  refine T_k F H (.tuple #[c0.v, .bool true]) ?_
  clear F; intro a F
  refine T_k F H (c0.v) ?_
  clear F; intro a F
  refine T_k F H (.bool true) ?_
  clear F; intro a F
  refine T_k F H (c0.v) ?_
  clear F; intro a F
  refine T_k F H (.bool true) ?_
  clear F; intro a F
  refine wpList_nil ?_
  refine hK6 _ _ ?_
  clear hK6
  try clear K6
  refine C_seqK (fun K7 hK7 => ?_)
  refine C_region ?_
  refine T_k F H (.bool true) ?_
  clear F; intro a F
  refine T_k F H (.bool true) ?_
  clear F; intro a F
  refine T_k F H (c0.v) ?_
  clear F; intro a F
  refine T_k F H (.slice none 0 0) ?_
  clear F; intro a F
  refine T_call F H kr 33 #[c0.v, .slice none 0 0] (.bool true) (fun w => kr) (eqb_S c0 ⟨none, 0, []⟩ true (decide_eq_true he).symm h0 o0 ob _ (hc _ H.kept) (hb _ H.kept)) ?_
  clear F H; intro a v F H
  refine T_k F H (.bool false) ?_
  clear F; intro a F
  refine T_k F H (.bool false) ?_
  clear F; intro a F
  refine wpList_nil ?_
  refine hK7 _ _ ?_
  clear hK7
  try clear K7
  refine C_if F false rfl rfl ?_
  refine wp_skip ?_
  refine hK5 _ _ ?_
  clear hK5
  try clear K5
  refine C_seqK (fun K8 hK8 => ?_)
  refine C_seqK (fun K9 hK9 => ?_)
  refine C_region ?_
  refine T_k F H (pt xb 0) ?_
  clear F; intro a F
  refine T_k F H (pt xb 0) ?_
  clear F; intro a F
  refine T_k F H (pt xb 0) ?_
  clear F; intro a F
  refine T_val F H kr (.map (some mb)) (R_cell (own := false) (g := xb) (all := #[.map (some mb), uv]) (t := 28) (fr := (0, 0)) 1 kr 25 (.tmp 38) rfl 0 kr (.map (some mb)) kr _ Try.underlying25 rfl) ?_
  clear F; intro a F
  refine T_k F H (.bool false) ?_
  clear F; intro a F
  refine wpList_nil ?_
  refine hK9 _ _ ?_
  clear hK9
  try clear K9
  refine C_if F false rfl rfl ?_
  refine wp_skip ?_
  refine hK8 _ _ ?_
  clear hK8
  try clear K8
  refine C_seqK (fun K10 hK10 => ?_)
  refine E_region F H (fun β => [(45, pt xb 0), (46, pt xb 0), (47, pt xb 0), (48, .map (some mb)), (49, nw ix), (50, .slice none 0 0), (51, .slice none 0 0)]) [45, 46, 47, 48, 49, 50, 51] [⟨none, none, mb, [], fun q_ => mpO M clock, gT, [⟨7, [], fun q_ => mpO (mset ix (⟨true, 0, 0, [], []⟩ : Cl) clock M) (if (mfi ix M 0).isSome then clock else clock + 1), gT⟩]⟩] [br xb #[.map (some mb), uv] 28] [0, 1] 2 [] kr kr kr (fun β => rfl) ⟨fun _ _ => trivial, trivial⟩ ⟨?_, ?_, ?_, ?_, ?_, ?_, ?_, ?_, trivial⟩ ?_
  · exact E_k 52 (fun β => pt xb 0) 45 2
  · exact E_k 52 (fun β => pt xb 0) 46 2
  · exact E_k 52 (fun β => pt xb 0) 47 2
  · exact E_v 52 (fun β => .map (some mb)) 48 2 [] (fun β w hk hl hq => R_cellH hl (own := false) (g := xb) (all := #[.map (some mb), uv]) (t := 28) (fr := (0, 0)) 0 kr 25 (.tmp 47) rfl 0 kr (.map (some mb)) kr _ Try.underlying25 rfl)
  · exact E_k 52 (fun β => nw ix) 49 2
  · exact E_k 52 (fun β => .slice none 0 0) 50 2
  · exact E_call 52 kq (fun β => .slice none 0 0) 51 rfl kq 29 (fun β => #[.slice none 0 0]) (fun β w => kr) 2 [] kr rfl (fun β w hk hl hq => clone_nil _)
  · exact E_store 52 kq rfl 2 [] 0 0 _ _ rfl rfl kr rfl (fun _ => trivial) (fun β w hk hl hq hm => let ⟨w', h1, h2, h3⟩ := P_update (x := (.tmp 48)) (y := (.tmp 49)) (z := (.tmp 51)) rfl Try.underlying25 Try.underlying29 (k := ix) (M := M) (clock := clock) (⟨true, 0, 0, [], []⟩ : Cl) kr kr kr hm; ⟨w', h1, h2, h3⟩)
  clear F H; intro β a v Q F H
  replace H : Hp [mb] w [⟨true, mb, mpO (mset ix (⟨true, 0, 0, [], []⟩ : Cl) clock M) (if (mfi ix M 0).isSome then clock else clock + 1)⟩, br xb #[.map (some mb), uv] 28] v := H
  replace F : Fm 52 [] [(51, .slice none 0 0), (50, .slice none 0 0), (49, nw ix), (48, .map (some mb)), (47, pt xb 0), (46, pt xb 0), (45, pt xb 0), (40, .bool false), (39, .map (some mb)), (38, pt xb 0), (37, pt xb 0), (36, pt xb 0), (35, .bool false), (34, .bool false), (33, .bool true), (32, .slice none 0 0), (31, c0.v), (30, .bool true), (29, .bool true), (10, .bool true), (9, c0.v), (28, .bool true), (27, c0.v), (20, .tuple #[c0.v, .bool true]), (26, .tuple #[c0.v, .bool true]), (25, nw ix), (24, .map (some mb)), (23, pt xb 0), (22, pt xb 0), (21, pt xb 0), (15, .bool false), (19, .bool false), (18, nw (ix - nx)), (17, nw nx), (16, nw ix), (11, .bool false), (14, .bool false), (13, nw nx), (12, nw ix), (8, ni 0), (0, pt xb 0), (1, nw nx), (2, nw ix), (3, .slice none 0 0)] a := F.weak _ (subL_of kr)
  clear Q
  refine ?_
  refine hK10 _ _ ?_
  clear hK10
  try clear K10
  refine C_seqK (fun K11 hK11 => ?_)
  refine C_region ?_
  refine T_k F H (ni 0) ?_
  clear F; intro a F
  refine wpList_nil ?_
  refine hK11 _ _ ?_
  clear hK11
  try clear K11
  refine wp_ret ?_
  exact C_ret F H (rs := [.tmp 8]) rfl (vs := [ni 0]) (.tmp rfl .nil) (ni 0) rfl ⟨⟨true, 0, 0, [], []⟩, rfl, rfl, ⟨Nat.zero_le _, fun _ => rfl, fun e => by cases e⟩, by rw [hq] at H; exact H.pick [0] kr _ rfl⟩

set_option maxRecDepth 100000 in
set_option maxHeartbeats 4000000 in
theorem hold_same_some (xb nx ix mb clock : Nat) (M : List MEn) (uv : Value) (h : nx < ix) (h4 : ix - nx < 4) (hix : ix < 4294967296) (i0 : Nat) (c0 : Cl) (hq : mfi ix M 0 = some (i0, c0.v)) (h0 : c0.ok) (o0 : ∀ y ∈ c0.l, y < 256) (bq : Addr) (bc : Nat) (l : List Nat) (hbig : l.length ≤ 140737488355328) (ob : ∀ y ∈ (l : List Nat), y < 256) (he : c0.l = l) (w : World) (hx : w.heap[xb]? = some (.cells #[.map (some mb), uv] 28 (0, 0))) (hm0 : w.heap[mb]? = some (mpO M clock)) (hne : mb ≠ xb) (hc : Sv.RdK [mb] w c0.sv) (hb : Sv.RdK [mb] w ⟨some bq, bc, l⟩) : Calls Try.prog 20 #[.pointer (some ⟨xb, 0, none⟩), .int .u32 ((nx : Nat) : Int), .int .u32 ((ix : Nat) : Int), .slice (some bq) l.length bc] w fun e w' => ∃ c : Cl, e = .returned (.int .i64 0) ∧ c.l = l ∧ c.ok ∧ Hp [mb] w (⟨true, mb, mpO (mset ix c clock M) clock⟩ :: c.blks) w' := by
  refine C_enter Try.func20 rfl 52 Try.ntmps20 (Nat.le_of_ble_eq_true rfl) (fun a F => ?_)
  have H : Hp [mb] w [⟨true, mb, mpO M clock⟩, br xb #[.map (some mb), uv] 28] w := Hp.startWR hm0 hx hne
  replace F : Fm 52 [] [(0, pt xb 0), (1, nw nx), (2, nw ix), (3, .slice (some bq) l.length bc)] a := F.weak _ (subL_of kr)
  refine C_seqK (fun K1 hK1 => ?_)
  refine C_region ?_
  refine T_k F H (ni 0) ?_
  clear F; intro a F
  refine wpList_nil ?_
  refine hK1 _ _ ?_
  clear hK1
  try clear K1
  refine C_seqK (fun K2 hK2 => ?_)
  refine wp_block ?_
  refine C_seqK (fun K3 hK3 => ?_)
  refine C_region ?_
  refine T_k F H (nw ix) ?_
  clear F; intro a F
  refine T_k F H (nw nx) ?_
  clear F; intro a F
  refine T_val F H kr (.bool false) (fun w _ => R_bin (x := (.tmp 12)) (y := (.tmp 13)) rfl (k := .u32) (a := ((ix : Nat) : Int)) (b := ((nx : Nat) : Int)) kr kr (i_leqd.trans (by rw [decide_eq_false (by omega)])) w) ?_
  clear F; intro a F
  refine T_k F H (.bool false) ?_
  clear F; intro a F
  refine wpList_nil ?_
  refine hK3 _ _ ?_
  clear hK3
  try clear K3
  refine C_if F false rfl rfl ?_
  refine C_seqK (fun K4 hK4 => ?_)
  refine C_region ?_
  refine T_k F H (nw ix) ?_
  clear F; intro a F
  refine T_k F H (nw nx) ?_
  clear F; intro a F
  refine T_val F H kr (nw (ix - nx)) (fun w _ => R_bin (x := (.tmp 16)) (y := (.tmp 17)) rfl (k := .u32) (a := ((ix : Nat) : Int)) (b := ((nx : Nat) : Int)) kr kr (i_subu32 (a := ix) (b := nx) (by omega) (by omega)) w) ?_
  clear F; intro a F
  refine T_val F H kr (.bool false) (fun w _ => R_bin (x := (.tmp 18)) (y := (.const (.int .u32 4))) rfl (k := .u32) (a := (((ix - nx) : Nat) : Int)) (b := ((4 : Nat) : Int)) kr kr (i_geqd.trans (by rw [decide_eq_false (by omega)])) w) ?_
  clear F; intro a F
  refine T_k F H (.bool false) ?_
  clear F; intro a F
  refine wpList_nil ?_
  refine hK4 _ _ ?_
  clear hK4
  try clear K4
  refine C_if F false rfl rfl ?_
  refine wp_skip ?_
  refine hK2 _ _ ?_
  clear hK2
  try clear K2
  refine C_seqK (fun K5 hK5 => ?_)
  refine C_seqK (fun K6 hK6 => ?_)
  refine C_region ?_
  refine T_k F H (pt xb 0) ?_
  clear F; intro a F
  refine T_k F H (pt xb 0) ?_
  clear F; intro a F
  refine T_k F H (pt xb 0) ?_
  clear F; intro a F
  refine T_val F H kr (.map (some mb)) (R_cell (own := false) (g := xb) (all := #[.map (some mb), uv]) (t := 28) (fr := (0, 0)) 1 kr 25 (.tmp 23) rfl 0 kr (.map (some mb)) kr _ Try.underlying25 rfl) ?_
  clear F; intro a F
  refine T_k F H (nw ix) ?_
  clear F; intro a F
  refine T_val F H kr (.tuple #[c0.v, .bool true]) (fun w hl => (R_lookup (x := (.tmp 24)) (y := (.tmp 25)) rfl Try.underlying25 Try.underlying29 (fun w => kr) (k := ix) kr kr (hl.at_ (k := 0) rfl)).trans (by rw [hq]; rfl)) ?_
  clear F; intro a F
  refine T_k F H (.tuple #[c0.v, .bool true]) ?_
  clear F; intro a F
  refine T_k F H (c0.v) ?_
  clear F; intro a F
  refine T_k F H (.bool true) ?_
  clear F; intro a F
  refine T_k F H (c0.v) ?_
  clear F; intro a F
  refine T_k F H (.bool true) ?_
  clear F; intro a F
  refine wpList_nil ?_
  refine hK6 _ _ ?_
  clear hK6
  try clear K6
  refine C_seqK (fun K7 hK7 => ?_)
  refine C_region ?_
  refine T_k F H (.bool true) ?_
  clear F; intro a F
  refine T_k F H (.bool true) ?_
  clear F; intro a F
  refine T_k F H (c0.v) ?_
  clear F; intro a F
  refine T_k F H (.slice (some bq) l.length bc) ?_
  clear F; intro a F
  refine T_call F H kr 33 #[c0.v, .slice (some bq) l.length bc] (.bool true) (fun w => kr) (eqb_S c0 ⟨some bq, bc, l⟩ true (decide_eq_true he).symm h0 o0 ob _ (hc _ H.kept) (hb _ H.kept)) ?_
  clear F H; intro a v F H
  refine T_k F H (.bool false) ?_
  clear F; intro a F
  refine T_k F H (.bool false) ?_
  clear F; intro a F
  refine wpList_nil ?_
  refine hK7 _ _ ?_
  clear hK7
  try clear K7
  refine C_if F false rfl rfl ?_
  refine wp_skip ?_
  refine hK5 _ _ ?_
  clear hK5
  try clear K5
  refine C_seqK (fun K8 hK8 => ?_)
  refine C_seqK (fun K9 hK9 => ?_)
  refine C_region ?_
  refine T_k F H (pt xb 0) ?_
  clear F; intro a F
  refine T_k F H (pt xb 0) ?_
  clear F; intro a F
  refine T_k F H (pt xb 0) ?_
  clear F; intro a F
  refine T_val F H kr (.map (some mb)) (R_cell (own := false) (g := xb) (all := #[.map (some mb), uv]) (t := 28) (fr := (0, 0)) 1 kr 25 (.tmp 38) rfl 0 kr (.map (some mb)) kr _ Try.underlying25 rfl) ?_
  clear F; intro a F
  refine T_k F H (.bool false) ?_
  clear F; intro a F
  refine wpList_nil ?_
  refine hK9 _ _ ?_
  clear hK9
  try clear K9
  refine C_if F false rfl rfl ?_
  refine wp_skip ?_
  refine hK8 _ _ ?_
  clear hK8
  try clear K8
  refine C_seqK (fun K10 hK10 => ?_)
  refine E_region F H (fun β => [(45, pt xb 0), (46, pt xb 0), (47, pt xb 0), (48, .map (some mb)), (49, nw ix), (50, .slice (some bq) l.length bc), (51, sc ((β 6).g) 0 l.length (β 6).cap)]) [45, 46, 47, 48, 49, 50, 51] [⟨some 6, none, 0, [6], fun q_ => ce (sl (oct (l)) (gh q_ 0).rest) 5, fun q_ => Own (oct (l)) (gh q_ 0).rest (l.length) (gh q_ 0).cap 1, []⟩,
    ⟨none, none, mb, [], fun q_ => mpO M clock, gT, [⟨7, [6], fun q_ => mpO (mset ix (⟨false, (gh q_ 0).g, (gh q_ 0).cap, (gh q_ 0).rest, l⟩ : Cl) clock M) (if (mfi ix M 0).isSome then clock else clock + 1), gT⟩]⟩] [br xb #[.map (some mb), uv] 28] [0, 1] 2 [] kr kr kr (fun β => rfl) ⟨fun h _ => Bool.noConfusion h, ⟨fun _ _ => trivial, trivial⟩⟩ ⟨?_, ?_, ?_, ?_, ?_, ?_, ?_, ?_, trivial⟩ ?_
  · exact E_k 52 (fun β => pt xb 0) 45 2
  · exact E_k 52 (fun β => pt xb 0) 46 2
  · exact E_k 52 (fun β => pt xb 0) 47 2
  · exact E_v 52 (fun β => .map (some mb)) 48 2 [] (fun β w hk hl hq => R_cellH hl (own := false) (g := xb) (all := #[.map (some mb), uv]) (t := 28) (fr := (0, 0)) 0 kr 25 (.tmp 47) rfl 0 kr (.map (some mb)) kr _ Try.underlying25 rfl)
  · exact E_k 52 (fun β => nw ix) 49 2
  · exact E_k 52 (fun β => .slice (some bq) l.length bc) 50 2
  · exact E_callS 52 kq (fun β => sc ((β 6).g) 0 l.length (β 6).cap) 51 rfl kq 2 (fun β r => offAt2_of kr kr) 29 (fun β => #[.slice (some bq) l.length bc]) (fun β w => kr) 2 [] 0 _ rfl kr kr rfl (fun β w hk hl hq => clone_some bq l.length bc l rfl hbig _ ((hb _ hk).rds rfl))
  · exact E_store 52 kq rfl 2 [] 1 0 _ _ rfl rfl kr rfl (fun _ => trivial) (fun β w hk hl hq hm => let ⟨w', h1, h2, h3⟩ := P_update (x := (.tmp 48)) (y := (.tmp 49)) (z := (.tmp 51)) rfl Try.underlying25 Try.underlying29 (k := ix) (M := M) (clock := clock) (⟨false, (β 6).g, (β 6).cap, (β 6).rest, l⟩ : Cl) kr kr kr hm; ⟨w', h1, h2, h3⟩)
  clear F H; intro β a v Q F H
  replace H : Hp [mb] w [bk ((β 6).g) (sl (oct (l)) (β 6).rest) 5, ⟨true, mb, mpO (mset ix (⟨false, (β 6).g, (β 6).cap, (β 6).rest, l⟩ : Cl) clock M) (if (mfi ix M 0).isSome then clock else clock + 1)⟩, br xb #[.map (some mb), uv] 28] v := H
  replace F : Fm 52 [] [(51, sc ((β 6).g) 0 l.length (β 6).cap), (50, .slice (some bq) l.length bc), (49, nw ix), (48, .map (some mb)), (47, pt xb 0), (46, pt xb 0), (45, pt xb 0), (40, .bool false), (39, .map (some mb)), (38, pt xb 0), (37, pt xb 0), (36, pt xb 0), (35, .bool false), (34, .bool false), (33, .bool true), (32, .slice (some bq) l.length bc), (31, c0.v), (30, .bool true), (29, .bool true), (10, .bool true), (9, c0.v), (28, .bool true), (27, c0.v), (20, .tuple #[c0.v, .bool true]), (26, .tuple #[c0.v, .bool true]), (25, nw ix), (24, .map (some mb)), (23, pt xb 0), (22, pt xb 0), (21, pt xb 0), (15, .bool false), (19, .bool false), (18, nw (ix - nx)), (17, nw nx), (16, nw ix), (11, .bool false), (14, .bool false), (13, nw nx), (12, nw ix), (8, ni 0), (0, pt xb 0), (1, nw nx), (2, nw ix), (3, .slice (some bq) l.length bc)] a := F.weak _ (subL_of kr)
  have Qh11_0 : Own (oct (l)) (β 6).rest (l.length) (β 6).cap 1 := Q.1
  clear Q
  generalize β 6 = rq11 at F H Qh11_0
  skip
  refine ?_
  refine hK10 _ _ ?_
  clear hK10
  try clear K10
  refine C_seqK (fun K12 hK12 => ?_)
  refine C_region ?_
  refine T_k F H (ni 0) ?_
  clear F; intro a F
  refine wpList_nil ?_
  refine hK12 _ _ ?_
  clear hK12
  try clear K12
  refine wp_ret ?_
  exact C_ret F H (rs := [.tmp 8]) rfl (vs := [ni 0]) (.tmp rfl .nil) (ni 0) rfl ⟨⟨false, rq11.g, rq11.cap, rq11.rest, l⟩, rfl, rfl, ⟨hbig, (fun e => by cases e), fun _ => Qh11_0⟩, by rw [hq] at H; exact H.pick [1, 0] kr _ rfl⟩
end Go.Proofs.Ytlnlppmhiobgjaa
