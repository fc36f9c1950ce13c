/- Walks: outbox.Got; the outbox as a state. -/
import Derived.Test.YtlnlppmhiobgjaaGH
set_option linter.unusedVariables false
set_option linter.unusedSimpArgs false
namespace Go.Proofs.Ytlnlppmhiobgjaa
open Go Go.RowKit
set_option maxRecDepth 100000 in
set_option maxHeartbeats 4000000 in
theorem got_nil (xb nn : Nat) (w : World) (hx : w.heap[xb]? = some (.cells #[.slice none 0 0] 47 (0, 0))) : Calls Try.prog 18 #[.pointer (some ⟨xb, 0, none⟩), .int .u32 ((nn : Nat) : Int)] w fun en w' => en = .returned (.int .i64 ((0 : Nat) : Int)) ∧ Hp [xb] w [⟨true, xb, .cells #[.slice none 0 0] 47 (0, 0)⟩] w' := by
  refine C_enter Try.func18 rfl 27 Try.ntmps18 (Nat.le_of_ble_eq_true rfl) (fun a F => ?_)
  have H : Hp [xb] w [bk xb #[.slice none 0 0] 47] w := Hp.startX1 hx
  replace F : Fm 27 [] [(0, pt xb 0), (1, nw nn)] a := F.weak _ (subL_of kr)
  refine C_seqK (fun K1 hK1 => ?_)
  refine C_region ?_
  refine T_new F H kr (fun ad => pt ad 0) (ce #[nw nn] 29) (fun w => kr) ?_
  clear F H; intro aq2 a v F H
  refine T_k F H (ni 0) ?_
  clear F; intro a F
  refine wpList_nil ?_
  generalize aq2 = nb at F H
  refine hK1 _ _ ?_
  clear hK1
  try clear K1
  refine C_seqK (fun K3 hK3 => ?_)
  refine C_region ?_
  refine T_k F H (pt xb 0) ?_
  clear F; intro a F
  refine T_k F H (pt xb 0) ?_
  clear F; intro a F
  refine T_k F H (pt xb 0) ?_
  clear F; intro a F
  refine T_val F H kr (.slice none 0 0) (R_cell (own := true) (g := xb) (all := #[.slice none 0 0]) (t := 47) (fr := (0, 0)) 1 kr 45 (.tmp 8) rfl 0 kr (.slice none 0 0) kr _ Try.underlying45 rfl) ?_
  clear F; intro a F
  refine T_k F H (ni 0) ?_
  clear F; intro a F
  refine T_k F H (ni 0) ?_
  clear F; intro a F
  refine wpList_nil ?_
  refine hK3 _ _ ?_
  clear hK3
  try clear K3
  refine C_seqK (fun K4 hK4 => ?_)
  refine C_region ?_
  refine T_k F H (pt xb 0) ?_
  clear F; intro a F
  refine T_k F H (pt xb 0) ?_
  clear F; intro a F
  refine T_k F H (pt xb 0) ?_
  clear F; intro a F
  refine T_k F H (pt xb 0) ?_
  clear F; intro a F
  refine T_val F H kr (.slice none 0 0) (R_cell (own := true) (g := xb) (all := #[.slice none 0 0]) (t := 47) (fr := (0, 0)) 1 kr 45 (.tmp 14) rfl 0 kr (.slice none 0 0) kr _ Try.underlying45 rfl) ?_
  clear F; intro a F
  refine T_k F H (.func (.func 32) #[] #[pt nb 0]) ?_
  clear F; intro a F
  refine T_call F H kr 31 #[.slice none 0 0, .func (.func 32) #[] #[pt nb 0]] (.slice none 0 0) (fun w => kr) (del_nil nb _) ?_
  clear F H; intro a v F H
  refine T_k F H (pt xb 0) ?_
  clear F; intro a F
  refine T_k F H (pt xb 0) ?_
  clear F; intro a F
  refine T_set F H kr rfl 1 rfl _ (S_cell 1 rfl 45 (.tmp 19) (.tmp 17) rfl 0 kr (.slice none 0 0) kr rfl (Nat.le_of_ble_eq_true rfl) _ Try.underlying45 rfl kr) [bk nb #[nw nn] 29, bk xb #[.slice none 0 0] 47] rfl ?_
  clear F H; intro a v F H
  refine wpList_nil ?_
  refine hK4 _ _ ?_
  clear hK4
  try clear K4
  refine C_seqK (fun K5 hK5 => ?_)
  refine C_region ?_
  refine T_k F H (ni 0) ?_
  clear F; intro a F
  refine T_k F H (pt xb 0) ?_
  clear F; intro a F
  refine T_k F H (pt xb 0) ?_
  clear F; intro a F
  refine T_k F H (pt xb 0) ?_
  clear F; intro a F
  refine T_val F H kr (.slice none 0 0) (R_cell (own := true) (g := xb) (all := #[.slice none 0 0]) (t := 47) (fr := (0, 0)) 1 kr 45 (.tmp 23) rfl 0 kr (.slice none 0 0) kr _ Try.underlying45 rfl) ?_
  clear F; intro a F
  refine T_k F H (ni 0) ?_
  clear F; intro a F
  refine T_val F H kr (ni (0 - 0)) (fun w _ => R_bin (x := (.tmp 20)) (y := (.tmp 25)) rfl (k := .i64) (a := ((0 : Nat) : Int)) (b := ((0 : Nat) : Int)) kr kr (i_subn64 (a := 0) (b := 0) (Nat.le_refl _) (by omega)) w) ?_
  clear F; intro a F
  refine T_k F H (ni (0 - 0)) ?_
  clear F; intro a F
  refine wpList_nil ?_
  refine hK5 _ _ ?_
  clear hK5
  try clear K5
  refine wp_ret ?_
  exact C_ret F H (rs := [.tmp 4]) rfl (vs := [ni (0 - 0)]) (.tmp rfl .nil) (ni (0 - 0)) rfl ⟨rfl, H.pick [1] kr _ rfl⟩

set_option maxRecDepth 100000 in
set_option maxHeartbeats 4000000 in
theorem got_none (xb ag cap nn : Nat) (E : List Ent) (rest : List Value) (hs : E.length < 1000) (hno : ∀ e ∈ E, nn < e.ix) (hO : Own (entC E) rest E.length cap 3) (w : World) (hx : w.heap[xb]? = some (.cells #[.slice (some ⟨ag, 0, none⟩) E.length cap] 47 (0, 0))) (hag : w.heap[ag]? = some (.cells (sl (entC E) rest) 71 (0, 0))) (hne : xb ≠ ag) : Calls Try.prog 18 #[.pointer (some ⟨xb, 0, none⟩), .int .u32 ((nn : Nat) : Int)] w fun en w' => en = .returned (.int .i64 ((0 : Nat) : Int)) ∧ Hp [xb, ag] w [⟨true, xb, .cells #[.slice (some ⟨ag, 0, none⟩) E.length cap] 47 (0, 0)⟩, ⟨true, ag, .cells (sl (entC E) rest) 71 (0, 0)⟩] w' := by
  refine C_enter Try.func18 rfl 27 Try.ntmps18 (Nat.le_of_ble_eq_true rfl) (fun a F => ?_)
  have H : Hp [xb, ag] w [bk xb #[sc ag 0 E.length cap] 47, bk ag (sl (entC E) rest) 71] w := Hp.startX2 hx hag hne
  replace F : Fm 27 [] [(0, pt xb 0), (1, nw nn)] a := F.weak _ (subL_of kr)
  refine C_seqK (fun K1 hK1 => ?_)
  refine C_region ?_
  refine T_new F H kr (fun ad => pt ad 0) (ce #[nw nn] 29) (fun w => kr) ?_
  clear F H; intro aq2 a v F H
  refine T_k F H (ni 0) ?_
  clear F; intro a F
  refine wpList_nil ?_
  generalize aq2 = nb at F H
  refine hK1 _ _ ?_
  clear hK1
  try clear K1
  refine C_seqK (fun K3 hK3 => ?_)
  refine C_region ?_
  refine T_k F H (pt xb 0) ?_
  clear F; intro a F
  refine T_k F H (pt xb 0) ?_
  clear F; intro a F
  refine T_k F H (pt xb 0) ?_
  clear F; intro a F
  refine T_val F H kr (sc ag 0 E.length cap) (R_cell (own := true) (g := xb) (all := #[sc ag 0 E.length cap]) (t := 47) (fr := (0, 0)) 1 kr 45 (.tmp 8) rfl 0 kr (sc ag 0 E.length cap) kr _ Try.underlying45 rfl) ?_
  clear F; intro a F
  refine T_k F H (ni E.length) ?_
  clear F; intro a F
  refine T_k F H (ni E.length) ?_
  clear F; intro a F
  refine wpList_nil ?_
  refine hK3 _ _ ?_
  clear hK3
  try clear K3
  refine C_seqK (fun K4 hK4 => ?_)
  refine C_region ?_
  refine T_k F H (pt xb 0) ?_
  clear F; intro a F
  refine T_k F H (pt xb 0) ?_
  clear F; intro a F
  refine T_k F H (pt xb 0) ?_
  clear F; intro a F
  refine T_k F H (pt xb 0) ?_
  clear F; intro a F
  refine T_val F H kr (sc ag 0 E.length cap) (R_cell (own := true) (g := xb) (all := #[sc ag 0 E.length cap]) (t := 47) (fr := (0, 0)) 1 kr 45 (.tmp 14) rfl 0 kr (sc ag 0 E.length cap) kr _ Try.underlying45 rfl) ?_
  clear F; intro a F
  refine T_k F H (.func (.func 32) #[] #[pt nb 0]) ?_
  clear F; intro a F
  refine T_call F H kr 31 #[sc ag 0 E.length cap, .func (.func 32) #[] #[pt nb 0]] (sc ag 0 E.length cap) (fun w => kr) (del_none ag nb nn cap E rest hs hno _ (H.at_ (k := 2) rfl) (H.at_ (k := 0) rfl) (H.apart (i := 2) (j := 0) rfl rfl (by decide))) ?_
  clear F H; intro a v F H
  refine T_k F H (pt xb 0) ?_
  clear F; intro a F
  refine T_k F H (pt xb 0) ?_
  clear F; intro a F
  refine T_set F H kr rfl 1 rfl _ (S_cell 1 rfl 45 (.tmp 19) (.tmp 17) rfl 0 kr (sc ag 0 E.length cap) kr rfl (Nat.le_of_ble_eq_true rfl) _ Try.underlying45 rfl kr) [bk nb #[nw nn] 29, bk xb #[sc ag 0 E.length cap] 47, bk ag (sl (entC E) rest) 71] rfl ?_
  clear F H; intro a v F H
  refine wpList_nil ?_
  refine hK4 _ _ ?_
  clear hK4
  try clear K4
  refine C_seqK (fun K5 hK5 => ?_)
  refine C_region ?_
  refine T_k F H (ni E.length) ?_
  clear F; intro a F
  refine T_k F H (pt xb 0) ?_
  clear F; intro a F
  refine T_k F H (pt xb 0) ?_
  clear F; intro a F
  refine T_k F H (pt xb 0) ?_
  clear F; intro a F
  refine T_val F H kr (sc ag 0 E.length cap) (R_cell (own := true) (g := xb) (all := #[sc ag 0 E.length cap]) (t := 47) (fr := (0, 0)) 1 kr 45 (.tmp 23) rfl 0 kr (sc ag 0 E.length cap) kr _ Try.underlying45 rfl) ?_
  clear F; intro a F
  refine T_k F H (ni E.length) ?_
  clear F; intro a F
  refine T_val F H kr (ni (E.length - E.length)) (fun w _ => R_bin (x := (.tmp 20)) (y := (.tmp 25)) rfl (k := .i64) (a := ((E.length : Nat) : Int)) (b := ((E.length : Nat) : Int)) kr kr (i_subn64 (a := E.length) (b := E.length) (Nat.le_refl _) (by omega)) w) ?_
  clear F; intro a F
  refine T_k F H (ni (E.length - E.length)) ?_
  clear F; intro a F
  refine wpList_nil ?_
  refine hK5 _ _ ?_
  clear hK5
  try clear K5
  refine wp_ret ?_
  exact C_ret F H (rs := [.tmp 4]) rfl (vs := [ni (E.length - E.length)]) (.tmp rfl .nil) (ni (E.length - E.length)) rfl ⟨by rw [Nat.sub_self], H.pick [1, 2] kr _ rfl⟩

set_option maxRecDepth 100000 in
set_option maxHeartbeats 4000000 in
theorem got_some (xb ag cap nn : Nat) (E : List Ent) (rest : List Value) (hs : E.length < 1000) (k0 : Nat) (e0 : Ent) (he0 : E[k0]? = some e0) (hle : e0.ix ≤ nn) (hbef : ∀ (i : Nat) (e : Ent), i < k0 → E[i]? = some e → nn < e.ix) (hO : Own (entC E) rest E.length cap 3) (w : World) (hx : w.heap[xb]? = some (.cells #[.slice (some ⟨ag, 0, none⟩) E.length cap] 47 (0, 0))) (hag : w.heap[ag]? = some (.cells (sl (entC E) rest) 71 (0, 0))) (hne : xb ≠ ag) : Calls Try.prog 18 #[.pointer (some ⟨xb, 0, none⟩), .int .u32 ((nn : Nat) : Int)] w fun en w' => ∃ r' : List Value, en = .returned (.int .i64 ((E.length - (E.filter (fun e => decide (nn < e.ix))).length : Nat) : Int)) ∧ Own (entC (E.filter (fun e => decide (nn < e.ix)))) r' (E.filter (fun e => decide (nn < e.ix))).length cap 3 ∧ Hp [xb, ag] w [⟨true, xb, .cells #[.slice (some ⟨ag, 0, none⟩) (E.filter (fun e => decide (nn < e.ix))).length cap] 47 (0, 0)⟩, ⟨true, ag, .cells (sl (entC (E.filter (fun e => decide (nn < e.ix)))) r') 71 (0, 0)⟩] w' := by
  refine C_enter Try.func18 rfl 27 Try.ntmps18 (Nat.le_of_ble_eq_true rfl) (fun a F => ?_)
  have H : Hp [xb, ag] w [bk xb #[sc ag 0 E.length cap] 47, bk ag (sl (entC E) rest) 71] w := Hp.startX2 hx hag hne
  replace F : Fm 27 [] [(0, pt xb 0), (1, nw nn)] a := F.weak _ (subL_of kr)
  refine C_seqK (fun K1 hK1 => ?_)
  refine C_region ?_
  refine T_new F H kr (fun ad => pt ad 0) (ce #[nw nn] 29) (fun w => kr) ?_
  clear F H; intro aq2 a v F H
  refine T_k F H (ni 0) ?_
  clear F; intro a F
  refine wpList_nil ?_
  generalize aq2 = nb at F H
  refine hK1 _ _ ?_
  clear hK1
  try clear K1
  refine C_seqK (fun K3 hK3 => ?_)
  refine C_region ?_
  refine T_k F H (pt xb 0) ?_
  clear F; intro a F
  refine T_k F H (pt xb 0) ?_
  clear F; intro a F
  refine T_k F H (pt xb 0) ?_
  clear F; intro a F
  refine T_val F H kr (sc ag 0 E.length cap) (R_cell (own := true) (g := xb) (all := #[sc ag 0 E.length cap]) (t := 47) (fr := (0, 0)) 1 kr 45 (.tmp 8) rfl 0 kr (sc ag 0 E.length cap) kr _ Try.underlying45 rfl) ?_
  clear F; intro a F
  refine T_k F H (ni E.length) ?_
  clear F; intro a F
  refine T_k F H (ni E.length) ?_
  clear F; intro a F
  refine wpList_nil ?_
  refine hK3 _ _ ?_
  clear hK3
  try clear K3
  refine C_seqK (fun K4 hK4 => ?_)
  refine C_region ?_
  refine T_k F H (pt xb 0) ?_
  clear F; intro a F
  refine T_k F H (pt xb 0) ?_
  clear F; intro a F
  refine T_k F H (pt xb 0) ?_
  clear F; intro a F
  refine T_k F H (pt xb 0) ?_
  clear F; intro a F
  refine T_val F H kr (sc ag 0 E.length cap) (R_cell (own := true) (g := xb) (all := #[sc ag 0 E.length cap]) (t := 47) (fr := (0, 0)) 1 kr 45 (.tmp 14) rfl 0 kr (sc ag 0 E.length cap) kr _ Try.underlying45 rfl) ?_
  clear F; intro a F
  refine T_k F H (.func (.func 32) #[] #[pt nb 0]) ?_
  clear F; intro a F
  refine T_callX (α := SlR) F H kr 31 #[sc ag 0 E.length cap, .func (.func 32) #[] #[pt nb 0]] (fun rX => sc ag 0 (E.filter (fun e => decide (nn < e.ix))).length cap) (fun rX => [bk nb #[nw nn] 29, bk xb #[sc ag 0 E.length cap] 47, bk ag (sl (entC (E.filter (fun e => decide (nn < e.ix)))) rX.rest) 71]) (fun rX => Own (entC (E.filter (fun e => decide (nn < e.ix)))) rX.rest (E.filter (fun e => decide (nn < e.ix))).length cap 3) (fun w => kr) (fun w H => callsX_putV H (k := 2) rfl ((del_some ag nb nn cap E rest hs k0 e0 he0 hle hbef hO.le hO _ (H.at_ (k := 2) rfl) (H.at_ (k := 0) rfl) (H.apart (i := 2) (j := 0) rfl rfl (by decide))).mono (fun _ _ ⟨r', q1, q2, q3⟩ => ⟨⟨0, 0, r', 0⟩, q1, q2, q3.kept, q3.at_ (k := 0) rfl⟩))) ?_
  clear F H; intro rq5 a v Qrq5 F H
  refine T_k F H (pt xb 0) ?_
  clear F; intro a F
  refine T_k F H (pt xb 0) ?_
  clear F; intro a F
  refine T_set F H kr rfl 1 rfl _ (S_cell 1 rfl 45 (.tmp 19) (.tmp 17) rfl 0 kr (sc ag 0 (E.filter (fun e => decide (nn < e.ix))).length cap) kr rfl (Nat.le_of_ble_eq_true rfl) _ Try.underlying45 rfl kr) [bk nb #[nw nn] 29, bk xb #[sc ag 0 (E.filter (fun e => decide (nn < e.ix))).length cap] 47, bk ag (sl (entC (E.filter (fun e => decide (nn < e.ix)))) rq5.rest) 71] rfl ?_
  clear F H; intro a v F H
  refine wpList_nil ?_
  refine hK4 _ _ ?_
  clear hK4
  try clear K4
  refine C_seqK (fun K6 hK6 => ?_)
  refine C_region ?_
  refine T_k F H (ni E.length) ?_
  clear F; intro a F
  refine T_k F H (pt xb 0) ?_
  clear F; intro a F
  refine T_k F H (pt xb 0) ?_
  clear F; intro a F
  refine T_k F H (pt xb 0) ?_
  clear F; intro a F
  refine T_val F H kr (sc ag 0 (E.filter (fun e => decide (nn < e.ix))).length cap) (R_cell (own := true) (g := xb) (all := #[sc ag 0 (E.filter (fun e => decide (nn < e.ix))).length cap]) (t := 47) (fr := (0, 0)) 1 kr 45 (.tmp 23) rfl 0 kr (sc ag 0 (E.filter (fun e => decide (nn < e.ix))).length cap) kr _ Try.underlying45 rfl) ?_
  clear F; intro a F
  refine T_k F H (ni ((E.filter (fun e => decide (nn < e.ix))).length)) ?_
  clear F; intro a F
  refine T_val F H kr (ni (E.length - (E.filter (fun e => decide (nn < e.ix))).length)) (fun w _ => R_bin (x := (.tmp 20)) (y := (.tmp 25)) rfl (k := .i64) (a := ((E.length : Nat) : Int)) (b := (((E.filter (fun e => decide (nn < e.ix))).length : Nat) : Int)) kr kr (i_subn64 (a := E.length) (b := (E.filter (fun e => decide (nn < e.ix))).length) (List.length_filter_le _ _) (by omega)) w) ?_
  clear F; intro a F
  refine T_k F H (ni (E.length - (E.filter (fun e => decide (nn < e.ix))).length)) ?_
  clear F; intro a F
  refine wpList_nil ?_
  refine hK6 _ _ ?_
  clear hK6
  try clear K6
  refine wp_ret ?_
  exact C_ret F H (rs := [.tmp 4]) rfl (vs := [ni (E.length - (E.filter (fun e => decide (nn < e.ix))).length)]) (.tmp rfl .nil) (ni (E.length - (E.filter (fun e => decide (nn < e.ix))).length)) rfl ⟨rq5.rest, rfl, Qrq5, H.pick [1, 2] kr _ rfl⟩

theorem first_le (nn : Nat) : ∀ E : List Ent, (∀ e ∈ E, nn < e.ix) ∨ ∃ (k0 : Nat) (e0 : Ent), E[k0]? = some e0 ∧ e0.ix ≤ nn ∧ ∀ (i : Nat) (e : Ent), i < k0 → E[i]? = some e → nn < e.ix
  | [] => .inl (fun e he => by cases he)
  | e :: E => by
    rcases Nat.lt_or_ge nn e.ix with h | h
    · rcases first_le nn E with h2 | ⟨k0, e0, h1, h2, h3⟩
      · exact .inl fun e' he' => (List.mem_cons.1 he').elim (fun q => q ▸ h) (h2 e')
      · refine .inr ⟨k0 + 1, e0, by rw [List.getElem?_cons_succ]; exact h1, h2, fun i e' hi he' => ?_⟩
        cases i with
        | zero => rw [List.getElem?_cons_zero] at he'; injection he' with he'; rw [← he']; exact h
        | succ i => rw [List.getElem?_cons_succ] at he'; exact h3 i e' (by omega) he'
    · exact .inr ⟨0, e, rfl, h, fun i e' hi => absurd hi (Nat.not_lt_zero _)⟩
theorem entB_sub {E F : List Ent} (h : E.Sublist F) : (entB E).Sublist (entB F) := by
  induction h with
  | slnil => exact List.Sublist.refl _
  | cons a _ ih => exact ih.trans (List.sublist_append_right _ _)
  | cons_cons a _ ih => exact List.Sublist.append (List.Sublist.refl _) ih
/-- What an outbox is. -/
structure BxS where
  nl : Bool
  ag : Nat
  cap : Nat
  rest : List Value
  E : List Ent
def bxb (xb : Nat) (v : Value) : Blk := ⟨true, xb, .cells #[v] 47 (0, 0)⟩
def agB (ag : Nat) (E : List Ent) (rest : List Value) : Blk := ⟨true, ag, .cells (sl (entC E) rest) 71 (0, 0)⟩
def BxS.sv (s : BxS) : Value := match s.nl with | true => .slice none 0 0 | false => .slice (some ⟨s.ag, 0, none⟩) s.E.length s.cap
def BxS.hd (s : BxS) (xb : Nat) : List Blk := match s.nl with | true => [bxb xb s.sv] | false => [bxb xb s.sv, agB s.ag s.E s.rest]
def BxS.blks (s : BxS) (xb : Nat) : List Blk := s.hd xb ++ entB s.E
structure BxS.ok (s : BxS) : Prop where
  nil : s.nl = true → s.E = []
  own : s.nl = false → Own (entC s.E) s.rest s.E.length s.cap 3
  each : ∀ e ∈ s.E, e.c.ok
  four : s.E.length ≤ 4
abbrev Dt := Nat × Nat × List Nat
def BxS.D (s : BxS) : List Dt := s.E.map Ent.d
theorem BxS.D_len (s : BxS) : s.D.length = s.E.length := List.length_map _
def addC (D : List Dt) (ix : Nat) : Int := if 4 ≤ D.length then 63 else match D.getLast? with | none => 0 | some d => if ix ≠ add32 d.1 1 then 1 else 0
def addD (D : List Dt) (ix now : Nat) (l : List Nat) : List Dt := if addC D ix = 0 then D ++ [(ix, now, l)] else D
def dueDU (now : Nat) (d : Dt) : Dt := if d.2.1 ≤ now then (d.1, now + 5, d.2.2) else d
def dueL (now : Nat) (D : List Dt) : List (List Nat) := (D.filter fun d => decide (d.2.1 ≤ now)).map (·.2.2)
def gotD (nn : Nat) (D : List Dt) : List Dt := D.filter fun d => decide (nn < d.1)
theorem dueU_d (now : Nat) (e : Ent) : (dueU now e).d = dueDU now e.d := by
  unfold dueU dueDU Ent.d
  dsimp only
  split <;> rfl
theorem dueU_c (now : Nat) (e : Ent) : (dueU now e).c = e.c := by unfold dueU; split <;> rfl
theorem entB_due (now : Nat) (E : List Ent) : entB (E.map (dueU now)) = entB E := by
  unfold entB
  rw [List.flatMap_map]
  congr 1
  funext e
  rw [dueU_c]
theorem dueO_D (now : Nat) (E : List Ent) : dueO now E = dueL now (E.map Ent.d) := by
  unfold dueO dueL
  rw [List.filter_map, List.map_map]
  rfl
theorem BxS.hd_own (s : BxS) (xb : Nat) : (s.hd xb).all (·.own) = true := by
  obtain ⟨nl, ag, cap, rest, E⟩ := s
  cases nl <;> rfl
theorem Sv.RdK.mono {X Y : List Nat} {w : World} {s : Sv} (h : s.RdK Y w) (hs : ∀ x ∈ X, x ∈ Y) : s.RdK X w := fun w' k => h w' (k.mono hs)
section
variable {X : List Nat} {w0 w : World} {R : List Blk} {xb : Nat} {s : BxS}
theorem held_of {A B : List Blk} (H : Hp X w0 (A ++ B) w) : HeldB B w := fun p hp => H.held p (List.mem_append_right _ hp)
theorem add_S (hs : s.ok) (H : Hp X w0 (s.blks xb ++ R) w) (ix now : Nat) (b : Sv) (hb : b.RdK ((s.hd xb).map (·.ad)) w) :
    Calls Try.prog 16 #[.pointer (some ⟨xb, 0, none⟩), .int .u32 ((ix : Nat) : Int), b.v, .int .u64 ((now : Nat) : Int)] w fun e w' => ∃ s' : BxS, e = .returned (.int .i64 (addC s.D ix)) ∧ s'.ok ∧ s'.D = addD s.D ix now b.l ∧ Hp X w0 (s'.blks xb ++ R) w' := by
  have hbr := hb w (Kept.refl _ _)
  obtain ⟨nl, ag, cap, rest, E⟩ := s
  obtain ⟨ad, bc, l⟩ := b
  have Hm : Hp X w0 (BxS.hd ⟨nl, ag, cap, rest, E⟩ xb ++ (entB E ++ R)) w := by have := H; unfold BxS.blks at this; rwa [List.append_assoc] at this
  cases nl with
  | true =>
    have hE : E = [] := hs.nil rfl
    subst hE
    have hx := Hm.at_ (k := 0) rfl
    have fin : ∀ (r : SlR) (c : Cl) (e : Ending) (w' : World), e = .returned (.int .i64 0) → c.l = l → c.ok → Own (entC [⟨ix, now, c⟩]) r.rest 1 r.cap 3 → Hp [xb] w (bxb xb (.slice (some ⟨r.g, 0, none⟩) 1 r.cap) :: agB r.g [⟨ix, now, c⟩] r.rest :: c.blks) w' → ∃ s' : BxS, e = .returned (.int .i64 (addC [] ix)) ∧ s'.ok ∧ s'.D = addD [] ix now l ∧ Hp X w0 (s'.blks xb ++ R) w' := by
      intro r c e w' he hl hc ho Hc
      refine ⟨⟨false, r.g, r.cap, r.rest, [⟨ix, now, c⟩]⟩, he, ⟨(fun h => by cases h), fun _ => ho, (fun e he => by rw [List.mem_singleton.1 he]; exact hc), (by show 1 ≤ 4; omega)⟩, ?_, ?_⟩
      · show [(ix, now, c.l)] = [(ix, now, l)]; rw [hl]
      · have := Hp.merge2 (A := [bxb xb (.slice none 0 0)]) (R := R) Hm rfl rfl Hc (fun p hp => by
          simp only [List.mem_cons] at hp
          rcases hp with rfl | rfl | hp
          · rfl
          · rfl
          · exact c.blks_own p hp)
        show Hp X w0 (([_, _] ++ (c.blks ++ [])) ++ R) w'
        rw [List.append_nil]; exact this
    cases ad with
    | none =>
      have hl : l = [] := hbr.empty rfl
      have hc0 : bc = 0 := hbr.nil rfl
      subst hl hc0
      exact (add_first_nil xb ix now w hx).mono fun e w' ⟨r, c, h1, h2, h3, h4, h5⟩ => fin r c e w' h1 h2 h3 h4 h5
    | some q => exact (add_first_some xb ix now q bc l hbr.big w hx (hb.mono (by simp [BxS.hd, bxb]))).mono fun e w' ⟨r, c, h1, h2, h3, h4, h5⟩ => fin r c e w' h1 h2 h3 h4 h5
  | false =>
    have hx := Hm.at_ (k := 0) rfl
    have hag := Hm.at_ (k := 1) rfl
    have hne : xb ≠ ag := Hm.apart (i := 0) (j := 1) rfl rfl (by decide)
    have hO := hs.own rfl
    have hD : (BxS.D ⟨false, ag, cap, rest, E⟩) = E.map Ent.d := rfl
    have fin : ∀ (r : SlR) (c : Cl) (e : Ending) (w' : World), addC (E.map Ent.d) ix = 0 → E.length < 4 → e = .returned (.int .i64 0) → c.l = l → c.ok → Own (entC (E ++ [⟨ix, now, c⟩])) r.rest (E.length + 1) r.cap 3 → Hp [xb, ag] w (bxb xb (.slice (some ⟨r.g, 0, none⟩) (E.length + 1) r.cap) :: agB r.g (E ++ [⟨ix, now, c⟩]) r.rest :: c.blks) w' → ∃ s' : BxS, e = .returned (.int .i64 (addC (E.map Ent.d) ix)) ∧ s'.ok ∧ s'.D = addD (E.map Ent.d) ix now l ∧ Hp X w0 (s'.blks xb ++ R) w' := by
      intro r c e w' h0 h4 he hl hc ho Hc
      refine ⟨⟨false, r.g, r.cap, r.rest, E ++ [⟨ix, now, c⟩]⟩, by rw [h0]; exact he, ⟨(fun h => by cases h), fun _ => by rw [List.length_append]; exact ho, (fun e he => (List.mem_append.1 he).elim (hs.each e) fun he => by rw [List.mem_singleton.1 he]; exact hc), by rw [List.length_append]; exact h4⟩, ?_, ?_⟩
      · unfold addD; rw [if_pos h0, ← hl]; show List.map Ent.d (E ++ [⟨ix, now, c⟩]) = _; rw [List.map_append]; rfl
      · have := Hp.merge2 (A := [bxb xb (.slice (some ⟨ag, 0, none⟩) E.length cap), agB ag E rest]) (R := entB E ++ R) Hm rfl rfl Hc (fun p hp => by
          simp only [List.mem_cons] at hp
          rcases hp with rfl | rfl | hp
          · rfl
          · rfl
          · exact c.blks_own p hp)
        refine this.perm ?_
        show List.Perm (_ :: _ :: (c.blks ++ (entB E ++ R))) ([bxb xb (.slice (some ⟨r.g, 0, none⟩) (E ++ [(⟨ix, now, c⟩ : Ent)]).length r.cap), _] ++ entB (E ++ [⟨ix, now, c⟩]) ++ R)
        have e1 : entB (E ++ [⟨ix, now, c⟩]) = entB E ++ c.blks := by simp [entB]
        rw [e1, List.length_append]
        refine (List.Perm.cons _ (List.Perm.cons _ ?_))
        rw [← List.append_assoc]
        exact List.Perm.append_right _ List.perm_append_comm
    have errs : ∀ (c : Int) (e : Ending) (w' : World), addC (E.map Ent.d) ix = c → c ≠ 0 → e = .returned (.int .i64 c) → Kept [] w w' → ∃ s' : BxS, e = .returned (.int .i64 (addC (E.map Ent.d) ix)) ∧ s'.ok ∧ s'.D = addD (E.map Ent.d) ix now l ∧ Hp X w0 (s'.blks xb ++ R) w' := fun c e w' h0 hc he k =>
      ⟨⟨false, ag, cap, rest, E⟩, by rw [h0]; exact he, hs, by unfold addD; rw [if_neg (by rw [h0]; exact hc)]; rfl, H.call k⟩
    show Calls _ _ _ _ fun e w' => ∃ s' : BxS, e = .returned (.int .i64 (addC (E.map Ent.d) ix)) ∧ s'.ok ∧ s'.D = addD (E.map Ent.d) ix now l ∧ Hp X w0 (s'.blks xb ++ R) w'
    have h4 : E.length ≤ 4 := hs.four
    rcases Nat.lt_or_ge E.length 4 with hlt | hge
    · rcases Nat.eq_zero_or_pos E.length with hz | hp
      · have hE : E = [] := List.length_eq_zero_iff.1 hz
        subst hE
        have h0 : addC (([] : List Ent).map Ent.d) ix = 0 := rfl
        cases ad with
        | none =>
          have hl : l = [] := hbr.empty rfl
          have hc0 : bc = 0 := hbr.nil rfl
          subst hl hc0
          exact (add_again_nil xb ix now ag cap rest w hx hag hO hne).mono fun e w' ⟨r, c, h1, h2, h3, h4, h5⟩ => fin r c e w' h0 hlt h1 h2 h3 h4 h5
        | some q => exact (add_again_some xb ix now q bc l hbr.big ag cap rest w hx hag hO hne (hb.mono (by simp [BxS.hd, bxb, agB]))).mono fun e w' ⟨r, c, h1, h2, h3, h4, h5⟩ => fin r c e w' h0 hlt h1 h2 h3 h4 h5
      · obtain ⟨lx, hlx⟩ : ∃ lx, E[E.length - 1]? = some lx := ⟨_, List.getElem?_eq_getElem (show E.length - 1 < E.length by omega)⟩
        have hlast : (E.map Ent.d).getLast? = some lx.d := by rw [List.getLast?_map, List.getLast?_eq_getElem?, hlx]; rfl
        by_cases hix : ix = add32 lx.ix 1
        · have h0 : addC (E.map Ent.d) ix = 0 := by
            unfold addC
            rw [if_neg (by rw [List.length_map]; omega), hlast]
            exact if_neg (fun h => h hix)
          cases ad with
          | none =>
            have hl : l = [] := hbr.empty rfl
            have hc0 : bc = 0 := hbr.nil rfl
            subst hl hc0
            exact (add_more_nil xb ix now E ag cap rest lx hlt hp hlx hix w hx hag hO hne).mono fun e w' ⟨r, c, h1, h2, h3, h4, h5⟩ => fin r c e w' h0 hlt h1 h2 h3 h4 h5
          | some q => exact (add_more_some xb ix now q bc l hbr.big E ag cap rest lx hlt hp hlx hix w hx hag hO hne (hb.mono (by simp [BxS.hd, bxb, agB]))).mono fun e w' ⟨r, c, h1, h2, h3, h4, h5⟩ => fin r c e w' h0 hlt h1 h2 h3 h4 h5
        · have h0 : addC (E.map Ent.d) ix = 1 := by
            unfold addC
            rw [if_neg (by rw [List.length_map]; omega), hlast]
            exact if_pos hix
          exact (add_bad xb ix now _ E ag cap rest (by omega) lx hlt hp hlx hix w hx hag hne).mono fun e w' ⟨h1, h2⟩ => errs 1 e w' h0 (by decide) h1 h2
    · have h0 : addC (E.map Ent.d) ix = 63 := by
        unfold addC
        rw [if_pos (by rw [List.length_map]; omega)]
      exact (add_full xb ix now _ E ag cap rest (by omega) hge w hx hag hne).mono fun e w' ⟨h1, h2⟩ => errs 63 e w' h0 (by decide) h1 h2
theorem len_S (H : Hp X w0 (s.blks xb ++ R) w) (hs : s.ok) : Calls Try.prog 19 #[.pointer (some ⟨xb, 0, none⟩)] w fun e w' => e = .returned (.int .i64 ((s.D.length : Nat) : Int)) ∧ Kept [] w w' := by
  obtain ⟨nl, ag, cap, rest, E⟩ := s
  rw [BxS.D_len]
  cases nl with
  | true =>
    have hE : E = [] := hs.nil rfl
    subst hE
    exact len_any xb none 0 0 w (H.at_ (k := 0) rfl)
  | false => exact len_any xb _ _ _ w (H.at_ (k := 0) rfl)
theorem due_S (hs : s.ok) (H : Hp X w0 (s.blks xb ++ R) w) (now : Nat) (hnow : now < 4611686018427387904) :
    Calls Try.prog 17 #[.pointer (some ⟨xb, 0, none⟩), .int .u64 ((now : Nat) : Int)] w fun e w' => ∃ so : BxS × Ls, e = .returned so.2.v ∧ (so.1.ok ∧ so.2.ok ∧ so.1.D = s.D.map (dueDU now) ∧ so.2.ls = dueL now s.D ∧ so.2.cs.length ≤ 4) ∧ Hp X w0 (so.1.blks xb ++ (so.2.blks ++ R)) w' := by
  obtain ⟨nl, ag, cap, rest, E⟩ := s
  have Hm : Hp X w0 (BxS.hd ⟨nl, ag, cap, rest, E⟩ xb ++ (entB E ++ R)) w := by have := H; unfold BxS.blks at this; rwa [List.append_assoc] at this
  cases nl with
  | true =>
    have hE : E = [] := hs.nil rfl
    subst hE
    exact (due_nil xb now w (Hm.at_ (k := 0) rfl)).mono fun e w' ⟨h1, h2⟩ => ⟨(⟨true, ag, cap, rest, []⟩, ⟨true, 0, 0, [], []⟩), h1, ⟨hs, ⟨fun _ => rfl, (fun e => by cases e), fun c hc => by cases hc⟩, rfl, rfl, Nat.zero_le _⟩, H.call h2⟩
  | false =>
    have hx := Hm.at_ (k := 0) rfl
    have hag := Hm.at_ (k := 1) rfl
    have hne : xb ≠ ag := Hm.apart (i := 0) (j := 1) rfl rfl (by decide)
    have hfar := (List.pairwise_append.1 Hm.far).2.2
    have h4 : E.length ≤ 4 := hs.four
    refine (due_any xb ag cap now rest hnow E (by omega) hs.each w (fun e he => ?_) hx hag hne).mono ?_
    · refine Cl.rdK (hs.each e he) (fun p hp => Hm.held p (List.mem_append_right _ (List.mem_append_left _ (List.mem_flatMap.2 ⟨e, he, hp⟩)))) fun p hp hm => ?_
      rw [List.mem_singleton] at hm
      exact hfar (agB ag E rest) (by simp [BxS.hd]) p (List.mem_append_left _ (List.mem_flatMap.2 ⟨e, he, hp⟩)) hm.symm
    · rintro e w' ⟨o, h1, h2, h3, h5, Hc⟩
      have Hp2 : Hp X w0 ([agB ag E rest] ++ (bxb xb (.slice (some ⟨ag, 0, none⟩) E.length cap) :: (entB E ++ R))) w := Hm.perm (List.Perm.swap _ _ _)
      have := Hp.merge2 Hp2 rfl rfl Hc (fun p hp => by
        rcases List.mem_cons.1 hp with rfl | hp
        · rfl
        · exact o.blks_own p hp)
      refine ⟨(⟨false, ag, cap, rest, E.map (dueU now)⟩, o), h1, ⟨⟨(fun h => by cases h), fun _ => ?_, ?_, ?_⟩, h2, ?_, ?_, Nat.le_trans h5 h4⟩, this.perm ?_⟩
      · have hO := hs.own rfl
        have e1 : (entC (E.map (dueU now))).length = (entC E).length := by rw [entC_len, entC_len, List.length_map]
        show Own (entC (E.map (dueU now))) rest (E.map (dueU now)).length cap 3
        rw [List.length_map]
        exact ⟨e1.trans hO.len, by rw [e1]; exact hO.tot, hO.le, hO.max⟩
      · intro e he
        obtain ⟨e', he', rfl⟩ := List.mem_map.1 he
        rw [dueU_c]; exact hs.each e' he'
      · show (E.map (dueU now)).length ≤ 4; rw [List.length_map]; exact h4
      · show List.map Ent.d (E.map (dueU now)) = (E.map Ent.d).map (dueDU now)
        rw [List.map_map, List.map_map]
        exact List.map_congr_left fun e _ => dueU_d now e
      · exact h3.trans (dueO_D now E)
      · show List.Perm ((agB ag (E.map (dueU now)) rest :: o.blks) ++ (bxb xb _ :: (entB E ++ R))) ([bxb xb (.slice (some ⟨ag, 0, none⟩) (E.map (dueU now)).length cap), agB ag (E.map (dueU now)) rest] ++ entB (E.map (dueU now)) ++ (o.blks ++ R))
        rw [entB_due, List.length_map]
        refine List.perm_middle.trans (List.Perm.cons _ ?_)
        refine List.Perm.cons _ ?_
        show List.Perm (o.blks ++ (entB E ++ R)) (entB E ++ (o.blks ++ R))
        rw [← List.append_assoc, ← List.append_assoc]
        exact List.Perm.append_right _ List.perm_append_comm
theorem got_S (hs : s.ok) (H : Hp X w0 (s.blks xb ++ R) w) (nn : Nat) :
    Calls Try.prog 18 #[.pointer (some ⟨xb, 0, none⟩), .int .u32 ((nn : Nat) : Int)] w fun e w' => ∃ s' : BxS, e = .returned (.int .i64 ((s.D.length - (gotD nn s.D).length : Nat) : Int)) ∧ s'.ok ∧ s'.D = gotD nn s.D ∧ Hp X w0 (s'.blks xb ++ R) w' := by
  obtain ⟨nl, ag, cap, rest, E⟩ := s
  have Hm : Hp X w0 (BxS.hd ⟨nl, ag, cap, rest, E⟩ xb ++ (entB E ++ R)) w := by have := H; unfold BxS.blks at this; rwa [List.append_assoc] at this
  have hfm : gotD nn (E.map Ent.d) = (E.filter (fun e => decide (nn < e.ix))).map Ent.d := by unfold gotD; rw [List.filter_map]; rfl
  show Calls _ _ _ _ fun e w' => ∃ s' : BxS, e = .returned (.int .i64 (((E.map Ent.d).length - (gotD nn (E.map Ent.d)).length : Nat) : Int)) ∧ s'.ok ∧ s'.D = gotD nn (E.map Ent.d) ∧ Hp X w0 (s'.blks xb ++ R) w'
  cases nl with
  | true =>
    have hE : E = [] := hs.nil rfl
    subst hE
    exact (got_nil xb nn w (Hm.at_ (k := 0) rfl)).mono fun e w' ⟨h1, h2⟩ => ⟨⟨true, ag, cap, rest, []⟩, h1, hs, rfl, Hp.merge2 (A := [bxb xb (.slice none 0 0)]) (R := R) Hm rfl rfl h2 (fun p hp => by rw [List.mem_singleton.1 hp]; rfl)⟩
  | false =>
    have hx := Hm.at_ (k := 0) rfl
    have hag := Hm.at_ (k := 1) rfl
    have hne : xb ≠ ag := Hm.apart (i := 0) (j := 1) rfl rfl (by decide)
    have hO := hs.own rfl
    have h4 : E.length ≤ 4 := hs.four
    rw [hfm, List.length_map, List.length_map]
    rcases first_le nn E with hno | ⟨k0, e0, he0, hle, hbef⟩
    · have hf : E.filter (fun e => decide (nn < e.ix)) = E := List.filter_eq_self.2 fun e he => decide_eq_true (hno e he)
      rw [hf, Nat.sub_self]
      exact (got_none xb ag cap nn E rest (by omega) hno hO w hx hag hne).mono fun e w' ⟨h1, h2⟩ => ⟨⟨false, ag, cap, rest, E⟩, h1, hs, rfl, by
        have := Hp.merge2 (A := [bxb xb (.slice (some ⟨ag, 0, none⟩) E.length cap), agB ag E rest]) (R := entB E ++ R) Hm rfl rfl h2 (fun p hp => by
          simp only [List.mem_cons, List.not_mem_nil, or_false] at hp
          rcases hp with rfl | rfl <;> rfl)
        show Hp X w0 (([_, _] ++ entB E) ++ R) w'
        rw [List.append_assoc]; exact this⟩
    · refine (got_some xb ag cap nn E rest (by omega) k0 e0 he0 hle hbef hO w hx hag hne).mono ?_
      generalize hFE : E.filter (fun e => decide (nn < e.ix)) = FE
      rintro e w' ⟨r', h1, h2, h3⟩
      have hsub : FE.Sublist E := hFE ▸ List.filter_sublist
      refine ⟨⟨false, ag, cap, r', FE⟩, h1, ⟨(fun h => by cases h), fun _ => h2, fun e he => hs.each e (hsub.subset he), Nat.le_trans hsub.length_le h4⟩, rfl, ?_⟩
      have := Hp.merge2 (A := [bxb xb (.slice (some ⟨ag, 0, none⟩) E.length cap), agB ag E rest]) (R := entB E ++ R) Hm rfl rfl h3 (fun p hp => by
          simp only [List.mem_cons, List.not_mem_nil, or_false] at hp
          rcases hp with rfl | rfl <;> rfl)
      refine this.weak ?_
      show List.Sublist (([bxb xb _, agB ag FE r'] ++ entB FE) ++ R) ([_, _] ++ (entB E ++ R))
      rw [List.append_assoc]
      exact List.Sublist.append (List.Sublist.refl _) (List.Sublist.append (entB_sub hsub) (List.Sublist.refl _))
end
end Go.Proofs.Ytlnlppmhiobgjaa
