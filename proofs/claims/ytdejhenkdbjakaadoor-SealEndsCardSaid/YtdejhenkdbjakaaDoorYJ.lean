/- Walks: keys of keys: nothing beside the label. -/
import Derived.Test.YtdejhenkdbjakaaDoorW8
set_option linter.unusedVariables false
set_option linter.unusedSimpArgs false
namespace Go.Proofs.YtdejhenkdbjakaaDoor
open Go Go.RowKit
set_option maxRecDepth 100000 in
set_option maxHeartbeats 4000000 in
theorem der0_hide (gm n : Nat) (key : Nat → Nat) (hkey : ∀ i, i < 32 → key i < 256) (w : World) (hW : Laid w) (hm : w.heap[gm]? = some (.cells (mtr n) 91 (0, 0))) : Calls Tryd.prog 85 #[.pointer (some ⟨gm, 0, none⟩), .agg (arrF .u8 32 key), .string ⟨#[104, 105, 100, 101]⟩, .slice none 0 0] w fun e w' => ∃ r : SlR, e = .returned (.agg (arrF .u8 32 (derK key [104, 105, 100, 101] []))) ∧ r.n = n + 2 ∧ Kept [gm] w w' ∧ w'.heap[gm]? = some (.cells (mtr r.n) 91 (0, 0)) := by
  obtain ⟨h00, h01⟩ := hW.apart hm
  have hlb : ∀ x ∈ (4 :: [104, 105, 100, 101]), x < 256 := by decide
  obtain ⟨fk, hfk⟩ : ∃ fk, fk = derK key [104, 105, 100, 101] [] := ⟨_, rfl⟩
  rw [← hfk]
  have hfk2 : macK (kl key) ((4 :: [104, 105, 100, 101]) ++ [1]) = fk := by rw [hfk]; rfl
  refine C_enter Tryd.func85 rfl 46 Tryd.ntmps85 (Nat.le_of_ble_eq_true rfl) (fun a F => ?_)
  have H := Hp.start [] w
  replace F : Fm 46 [] [(0, pt gm 0), (1, kyV key), (2, .string ⟨#[104, 105, 100, 101]⟩), (3, .slice none 0 0)] a := F.weak _ (subL_of kr)
  refine C_seqK (fun K1 hK1 => ?_)
  refine C_region ?_
  refine T_new F H kr (fun ad => pt ad 0) (ce (arrF .u8 32 key) 23) (fun w => kr) ?_
  clear F H; intro aq2 a v F H
  refine T_new F H kr (fun ad => pt ad 0) (ce z8 23) (fun w => kr) ?_
  clear F H; intro aq3 a v F H
  refine wpList_nil ?_
  refine hK1 _ _ ?_
  clear hK1
  try clear K1
  refine C_seqK (fun K4 hK4 => ?_)
  refine C_region ?_
  refine T_k F H (.string ⟨#[104, 105, 100, 101]⟩) ?_
  clear F; intro a F
  refine T_k F H (.string ⟨#[104, 105, 100, 101]⟩) ?_
  clear F; intro a F
  refine T_k F H (ni 4) ?_
  clear F; intro a F
  refine T_k F H (ni 4) ?_
  clear F; intro a F
  refine T_k F H (.string ⟨#[104, 105, 100, 101]⟩) ?_
  clear F; intro a F
  refine T_k F H (.string ⟨#[104, 105, 100, 101]⟩) ?_
  clear F; intro a F
  refine wpList_nil ?_
  refine hK4 _ _ ?_
  clear hK4
  try clear K4
  refine C_seqK (fun K5 hK5 => ?_)
  refine C_region ?_
  refine T_k F H (.string ⟨#[104, 105, 100, 101]⟩) ?_
  clear F; intro a F
  refine T_k F H (ni 4) ?_
  clear F; intro a F
  refine T_val F H kr (nb 4) (fun w _ => R_conv (x := (.tmp 18)) rfl (k0 := .i64) kr kr (k := .i64) (a := ((4 : Nat) : Int)) kr (wr8 (a := 4) (by omega)) w) ?_
  clear F; intro a F
  refine T_new F H kr (fun ad => sc ad 0 1 1) (ce (sl (ints .u8 [4]) []) 5) (fun w => R_buildS (len := 1) rfl Tryd.underlying54 ((sl (ints .u8 [4]) [])) kr w) ?_
  clear F H; intro aq6 a v F H
  refine T_k F H (.string ⟨#[104, 105, 100, 101]⟩) ?_
  clear F; intro a F
  refine T_newG F H kr (fun r => sc r.g 0 4 r.cap) (fun r => .cells (sl (oct [104, 105, 100, 101]) r.rest) 5 (r.n, r.n + 1)) (fun r => 4 ≤ r.cap) (fun w hl => run_bytes (x := (.tmp 21)) rfl Tryd.underlying9 Tryd.underlying54 Tryd.underlying5 (s := ⟨#[104, 105, 100, 101]⟩) kr (lb := [104, 105, 100, 101]) kr kr) ?_
  clear F H; intro rq7 a v Qrq7 F H
  refine T_new F H kr (fun ad => sc ad 0 2 2) (ce #[sc aq6 0 1 1, sc rq7.g 0 4 rq7.cap] 54) (fun w => R_buildS (len := 2) rfl Tryd.underlying30 (#[sc aq6 0 1 1, sc rq7.g 0 4 rq7.cap]) kr w) ?_
  clear F H; intro aq8 a v F H
  refine T_callX (α := SlR) F H kr 71 #[sc aq8 0 2 2] (fun rX => sc rX.g 0 5 rX.cap) (fun rX => [bk rX.g (sl (oct ((4 :: [104, 105, 100, 101]))) rX.rest) 5, bk aq8 #[sc aq6 0 1 1, sc rq7.g 0 4 rq7.cap] 54, ⟨true, rq7.g, .cells (sl (oct [104, 105, 100, 101]) rq7.rest) 5 (rq7.n, rq7.n + 1)⟩, bk aq6 (sl (ints .u8 [4]) []) 5, bk aq3 z8 23, bk aq2 (arrF .u8 32 key) 23]) (fun rX => Own (oct ((4 :: [104, 105, 100, 101]))) rX.rest (5) rX.cap 1) (fun w => kr) (fun w H => callsX_newV H (concat_to [⟨some ⟨aq6, 0, none⟩, 1, 1, [4]⟩, ⟨some ⟨rq7.g, 0, none⟩, 4, rq7.cap, [104, 105, 100, 101]⟩] ((4 :: [104, 105, 100, 101])) (5) (by simp [catP]) rfl ⟨by simp, by simp, by simp⟩ _ _ (#[sc aq6 0 1 1, sc rq7.g 0 4 rq7.cap]) _ kr _ ⟨(RdS.all (H.at_ (k := 2) rfl) (Nat.le_refl _)), (by first | rfl | simp [highL_len, hb_len, kl_len]), ⟨(RdS.all (H.at_ (k := 1) rfl) Qrq7), (by first | rfl | simp [highL_len, hb_len, kl_len]), trivial⟩⟩ (H.at_ (k := 0) rfl))) ?_
  clear F H; intro rq9 a v Qrq9 F H
  refine T_k F H (sc rq9.g 0 5 rq9.cap) ?_
  clear F; intro a F
  refine wpList_nil ?_
  refine hK5 _ _ ?_
  clear hK5
  try clear K5
  refine C_seqK (fun K10 hK10 => ?_)
  refine C_seqK (fun K11 hK11 => ?_)
  refine C_region ?_
  refine T_k F H (.slice none 0 0) ?_
  clear F; intro a F
  refine T_k F H (ni 0) ?_
  clear F; intro a F
  refine T_k F H (ni 0) ?_
  clear F; intro a F
  refine wpList_nil ?_
  replace F : Fm 46 [] [(27, ni 0), (26, ni 0), (25, .slice none 0 0), (9, sc rq9.g 0 5 rq9.cap), (0, pt gm 0), (5, pt aq2 0), (8, pt aq3 0)] a := F.weak _ (subL_of kr)
  replace H : Hp [] w [bk rq9.g (sl (oct ((4 :: [104, 105, 100, 101]))) rq9.rest) 5, bk aq2 (arrF .u8 32 key) 23, bk aq3 z8 23] v := H.pick [0, 5, 4] kr _ rfl
  refine hK11 _ _ ?_
  clear hK11
  try clear K11
  refine wp_block ?_
  refine C_loop (fun m a v => Fm 46 [] [(27, ni 0), (26, ni 0), (25, .slice none 0 0), (9, sc rq9.g 0 5 rq9.cap), (0, pt gm 0), (5, pt aq2 0), (8, pt aq3 0)] a ∧ Hp [] w [bk rq9.g (sl (oct ((4 :: [104, 105, 100, 101]))) rq9.rest) 5, bk aq2 (arrF .u8 32 key) 23, bk aq3 z8 23] v) 0 ⟨F, H⟩ ?_
  clear F H
  intro m a v ⟨F, H⟩
  refine C_seqK (fun K12 hK12 => ?_)
  refine C_region ?_
  refine T_k F H (.bool false) ?_
  clear F; intro a F
  refine wpList_nil ?_
  refine hK12 _ _ ?_
  clear hK12
  try clear K12
  refine C_seqK (fun K13 hK13 => ?_)
  refine C_if F false rfl rfl ?_
  refine wp_exit ?_
  refine hK10 _ _ ?_
  clear hK10
  try clear K10
  refine C_seqK (fun K14 hK14 => ?_)
  refine C_region ?_
  refine T_k F H (pt gm 0) ?_
  clear F; intro a F
  refine T_k F H (sc aq2 0 32 32) ?_
  clear F; intro a F
  refine T_k F H (sc rq9.g 0 5 rq9.cap) ?_
  clear F; intro a F
  refine T_new F H kr (fun ad => sc ad 0 1 1) (ce (sl (ints .u8 [1]) []) 5) (fun w => R_buildS (len := 1) rfl Tryd.underlying54 ((sl (ints .u8 [1]) [])) kr w) ?_
  clear F H; intro aq15 a v F H
  refine T_new F H kr (fun ad => sc ad 0 2 2) (ce #[sc rq9.g 0 5 rq9.cap, sc aq15 0 1 1] 54) (fun w => R_buildS (len := 2) rfl Tryd.underlying30 (#[sc rq9.g 0 5 rq9.cap, sc aq15 0 1 1]) kr w) ?_
  clear F H; intro aq16 a v F H
  replace H : Hp [] w [bk aq16 #[sc rq9.g 0 5 rq9.cap, sc aq15 0 1 1] 54, bk aq15 (sl (ints .u8 [1]) []) 5, bk rq9.g (sl (oct ((4 :: [104, 105, 100, 101]))) rq9.rest) 5, bk aq2 (arrF .u8 32 key) 23, bk aq3 z8 23] v := H.pick [0, 1, 2, 3, 4] kr _ rfl
  replace H := H.addX (H.kept.at_ hm) hm kr
  replace H : Hp [gm] w [bk gm (mtr n) 91, bk aq16 #[sc rq9.g 0 5 rq9.cap, sc aq15 0 1 1] 54, bk aq15 (sl (ints .u8 [1]) []) 5, bk rq9.g (sl (oct ((4 :: [104, 105, 100, 101]))) rq9.rest) 5, bk aq2 (arrF .u8 32 key) 23, bk aq3 z8 23] v := H
  refine T_callX (α := SlR) F H kr 90 #[pt gm 0, sc aq2 0 32 32, sc aq16 0 2 2] (fun rX => kyV fk) (fun rX => [bk gm (mtr rX.n) 91, bk aq16 #[sc rq9.g 0 5 rq9.cap, sc aq15 0 1 1] 54, bk aq15 (sl (ints .u8 [1]) []) 5, bk rq9.g (sl (oct ((4 :: [104, 105, 100, 101]))) rq9.rest) 5, bk aq2 (arrF .u8 32 key) 23, bk aq3 z8 23]) (fun rX => rX.n = n + 2) (fun w => kr) (fun w H => callsX_putV H (k := 0) rfl ((macsum_to gm n ⟨some ⟨aq2, 0, none⟩, 32, 32, kl key⟩ (kl_lt hkey) (kl_len key) (by show 32 ≤ 64; omega) [⟨some ⟨rq9.g, 0, none⟩, 5, rq9.cap, (4 :: [104, 105, 100, 101])⟩, ⟨some ⟨aq15, 0, none⟩, 1, 1, [1]⟩] ((4 :: [104, 105, 100, 101]) ++ [1]) (by simp [catP]) ⟨by simp, by simp, by simp⟩ _ _ (#[sc rq9.g 0 5 rq9.cap, sc aq15 0 1 1]) _ kr _ ⟨(RdS.all (H.at_ (k := 3) rfl) (Own.le Qrq9)), rfl, ⟨(RdS.all (H.at_ (k := 2) rfl) (Nat.le_refl _)), (by first | rfl | simp [highL_len, hb_len, kl_len]), trivial⟩⟩ (H.at_ (k := 1) rfl) (RdS.of (H.at_ (k := 4) rfl) (Nat.le_refl _) (rd_key key)) (fun x hx => (List.mem_append.1 hx).elim (hlb x) (fun h => by simp at h; omega)) (hW.kept H.kept h00 h01) (H.at_ (k := 0) rfl)).mono (fun _ _ ⟨r, q1, q2⟩ => ⟨r, by rw [q1, hfk2], q2⟩))) ?_
  clear F H; intro rq17 a v Qrq17 F H
  refine T_set F H kr rfl 5 rfl (arrF .u8 32 fk) (S_row 5 rfl 23 (.tmp 8) (.tmp 45) rfl kr (arrF .u8 32 fk) kr (by rw [arrF_size]; kernel_rfl) (by rw [arrF_size]; kernel_rfl) (arrF_one _ _ _)) [bk gm (mtr rq17.n) 91, bk aq16 #[sc rq9.g 0 5 rq9.cap, sc aq15 0 1 1] 54, bk aq15 (sl (ints .u8 [1]) []) 5, bk rq9.g (sl (oct ((4 :: [104, 105, 100, 101]))) rq9.rest) 5, bk aq2 (arrF .u8 32 key) 23, bk aq3 (arrF .u8 32 fk) 23] rfl ?_
  clear F H; intro a v F H
  refine wpList_nil ?_
  refine hK14 _ _ ?_
  clear hK14
  try clear K14
  refine wp_ret ?_
  exact C_ret F H (rs := [.cell 8 23]) rfl (vs := [kyV fk]) (.row 5 rfl rfl _ Tryd.underlying23 rfl kr .nil) (kyV fk) rfl ⟨rq17, rfl, Qrq17, H.kept, H.at_ (k := 0) rfl⟩

set_option maxRecDepth 100000 in
set_option maxHeartbeats 4000000 in
theorem der0_tag (gm n : Nat) (key : Nat → Nat) (hkey : ∀ i, i < 32 → key i < 256) (w : World) (hW : Laid w) (hm : w.heap[gm]? = some (.cells (mtr n) 91 (0, 0))) : Calls Tryd.prog 85 #[.pointer (some ⟨gm, 0, none⟩), .agg (arrF .u8 32 key), .string ⟨#[116, 97, 103]⟩, .slice none 0 0] w fun e w' => ∃ r : SlR, e = .returned (.agg (arrF .u8 32 (derK key [116, 97, 103] []))) ∧ r.n = n + 2 ∧ Kept [gm] w w' ∧ w'.heap[gm]? = some (.cells (mtr r.n) 91 (0, 0)) := by
  obtain ⟨h00, h01⟩ := hW.apart hm
  have hlb : ∀ x ∈ (3 :: [116, 97, 103]), x < 256 := by decide
  obtain ⟨fk, hfk⟩ : ∃ fk, fk = derK key [116, 97, 103] [] := ⟨_, rfl⟩
  rw [← hfk]
  have hfk2 : macK (kl key) ((3 :: [116, 97, 103]) ++ [1]) = fk := by rw [hfk]; rfl
  refine C_enter Tryd.func85 rfl 46 Tryd.ntmps85 (Nat.le_of_ble_eq_true rfl) (fun a F => ?_)
  have H := Hp.start [] w
  replace F : Fm 46 [] [(0, pt gm 0), (1, kyV key), (2, .string ⟨#[116, 97, 103]⟩), (3, .slice none 0 0)] a := F.weak _ (subL_of kr)
  refine C_seqK (fun K1 hK1 => ?_)
  refine C_region ?_
  refine T_new F H kr (fun ad => pt ad 0) (ce (arrF .u8 32 key) 23) (fun w => kr) ?_
  clear F H; intro aq2 a v F H
  refine T_new F H kr (fun ad => pt ad 0) (ce z8 23) (fun w => kr) ?_
  clear F H; intro aq3 a v F H
  refine wpList_nil ?_
  refine hK1 _ _ ?_
  clear hK1
  try clear K1
  refine C_seqK (fun K4 hK4 => ?_)
  refine C_region ?_
  refine T_k F H (.string ⟨#[116, 97, 103]⟩) ?_
  clear F; intro a F
  refine T_k F H (.string ⟨#[116, 97, 103]⟩) ?_
  clear F; intro a F
  refine T_k F H (ni 3) ?_
  clear F; intro a F
  refine T_k F H (ni 3) ?_
  clear F; intro a F
  refine T_k F H (.string ⟨#[116, 97, 103]⟩) ?_
  clear F; intro a F
  refine T_k F H (.string ⟨#[116, 97, 103]⟩) ?_
  clear F; intro a F
  refine wpList_nil ?_
  refine hK4 _ _ ?_
  clear hK4
  try clear K4
  refine C_seqK (fun K5 hK5 => ?_)
  refine C_region ?_
  refine T_k F H (.string ⟨#[116, 97, 103]⟩) ?_
  clear F; intro a F
  refine T_k F H (ni 3) ?_
  clear F; intro a F
  refine T_val F H kr (nb 3) (fun w _ => R_conv (x := (.tmp 18)) rfl (k0 := .i64) kr kr (k := .i64) (a := ((3 : Nat) : Int)) kr (wr8 (a := 3) (by omega)) w) ?_
  clear F; intro a F
  refine T_new F H kr (fun ad => sc ad 0 1 1) (ce (sl (ints .u8 [3]) []) 5) (fun w => R_buildS (len := 1) rfl Tryd.underlying54 ((sl (ints .u8 [3]) [])) kr w) ?_
  clear F H; intro aq6 a v F H
  refine T_k F H (.string ⟨#[116, 97, 103]⟩) ?_
  clear F; intro a F
  refine T_newG F H kr (fun r => sc r.g 0 3 r.cap) (fun r => .cells (sl (oct [116, 97, 103]) r.rest) 5 (r.n, r.n + 1)) (fun r => 3 ≤ r.cap) (fun w hl => run_bytes (x := (.tmp 21)) rfl Tryd.underlying9 Tryd.underlying54 Tryd.underlying5 (s := ⟨#[116, 97, 103]⟩) kr (lb := [116, 97, 103]) kr kr) ?_
  clear F H; intro rq7 a v Qrq7 F H
  refine T_new F H kr (fun ad => sc ad 0 2 2) (ce #[sc aq6 0 1 1, sc rq7.g 0 3 rq7.cap] 54) (fun w => R_buildS (len := 2) rfl Tryd.underlying30 (#[sc aq6 0 1 1, sc rq7.g 0 3 rq7.cap]) kr w) ?_
  clear F H; intro aq8 a v F H
  refine T_callX (α := SlR) F H kr 71 #[sc aq8 0 2 2] (fun rX => sc rX.g 0 4 rX.cap) (fun rX => [bk rX.g (sl (oct ((3 :: [116, 97, 103]))) rX.rest) 5, bk aq8 #[sc aq6 0 1 1, sc rq7.g 0 3 rq7.cap] 54, ⟨true, rq7.g, .cells (sl (oct [116, 97, 103]) rq7.rest) 5 (rq7.n, rq7.n + 1)⟩, bk aq6 (sl (ints .u8 [3]) []) 5, bk aq3 z8 23, bk aq2 (arrF .u8 32 key) 23]) (fun rX => Own (oct ((3 :: [116, 97, 103]))) rX.rest (4) rX.cap 1) (fun w => kr) (fun w H => callsX_newV H (concat_to [⟨some ⟨aq6, 0, none⟩, 1, 1, [3]⟩, ⟨some ⟨rq7.g, 0, none⟩, 3, rq7.cap, [116, 97, 103]⟩] ((3 :: [116, 97, 103])) (4) (by simp [catP]) rfl ⟨by simp, by simp, by simp⟩ _ _ (#[sc aq6 0 1 1, sc rq7.g 0 3 rq7.cap]) _ kr _ ⟨(RdS.all (H.at_ (k := 2) rfl) (Nat.le_refl _)), (by first | rfl | simp [highL_len, hb_len, kl_len]), ⟨(RdS.all (H.at_ (k := 1) rfl) Qrq7), (by first | rfl | simp [highL_len, hb_len, kl_len]), trivial⟩⟩ (H.at_ (k := 0) rfl))) ?_
  clear F H; intro rq9 a v Qrq9 F H
  refine T_k F H (sc rq9.g 0 4 rq9.cap) ?_
  clear F; intro a F
  refine wpList_nil ?_
  refine hK5 _ _ ?_
  clear hK5
  try clear K5
  refine C_seqK (fun K10 hK10 => ?_)
  refine C_seqK (fun K11 hK11 => ?_)
  refine C_region ?_
  refine T_k F H (.slice none 0 0) ?_
  clear F; intro a F
  refine T_k F H (ni 0) ?_
  clear F; intro a F
  refine T_k F H (ni 0) ?_
  clear F; intro a F
  refine wpList_nil ?_
  replace F : Fm 46 [] [(27, ni 0), (26, ni 0), (25, .slice none 0 0), (9, sc rq9.g 0 4 rq9.cap), (0, pt gm 0), (5, pt aq2 0), (8, pt aq3 0)] a := F.weak _ (subL_of kr)
  replace H : Hp [] w [bk rq9.g (sl (oct ((3 :: [116, 97, 103]))) rq9.rest) 5, bk aq2 (arrF .u8 32 key) 23, bk aq3 z8 23] v := H.pick [0, 5, 4] kr _ rfl
  refine hK11 _ _ ?_
  clear hK11
  try clear K11
  refine wp_block ?_
  refine C_loop (fun m a v => Fm 46 [] [(27, ni 0), (26, ni 0), (25, .slice none 0 0), (9, sc rq9.g 0 4 rq9.cap), (0, pt gm 0), (5, pt aq2 0), (8, pt aq3 0)] a ∧ Hp [] w [bk rq9.g (sl (oct ((3 :: [116, 97, 103]))) rq9.rest) 5, bk aq2 (arrF .u8 32 key) 23, bk aq3 z8 23] v) 0 ⟨F, H⟩ ?_
  clear F H
  intro m a v ⟨F, H⟩
  refine C_seqK (fun K12 hK12 => ?_)
  refine C_region ?_
  refine T_k F H (.bool false) ?_
  clear F; intro a F
  refine wpList_nil ?_
  refine hK12 _ _ ?_
  clear hK12
  try clear K12
  refine C_seqK (fun K13 hK13 => ?_)
  refine C_if F false rfl rfl ?_
  refine wp_exit ?_
  refine hK10 _ _ ?_
  clear hK10
  try clear K10
  refine C_seqK (fun K14 hK14 => ?_)
  refine C_region ?_
  refine T_k F H (pt gm 0) ?_
  clear F; intro a F
  refine T_k F H (sc aq2 0 32 32) ?_
  clear F; intro a F
  refine T_k F H (sc rq9.g 0 4 rq9.cap) ?_
  clear F; intro a F
  refine T_new F H kr (fun ad => sc ad 0 1 1) (ce (sl (ints .u8 [1]) []) 5) (fun w => R_buildS (len := 1) rfl Tryd.underlying54 ((sl (ints .u8 [1]) [])) kr w) ?_
  clear F H; intro aq15 a v F H
  refine T_new F H kr (fun ad => sc ad 0 2 2) (ce #[sc rq9.g 0 4 rq9.cap, sc aq15 0 1 1] 54) (fun w => R_buildS (len := 2) rfl Tryd.underlying30 (#[sc rq9.g 0 4 rq9.cap, sc aq15 0 1 1]) kr w) ?_
  clear F H; intro aq16 a v F H
  replace H : Hp [] w [bk aq16 #[sc rq9.g 0 4 rq9.cap, sc aq15 0 1 1] 54, bk aq15 (sl (ints .u8 [1]) []) 5, bk rq9.g (sl (oct ((3 :: [116, 97, 103]))) rq9.rest) 5, bk aq2 (arrF .u8 32 key) 23, bk aq3 z8 23] v := H.pick [0, 1, 2, 3, 4] kr _ rfl
  replace H := H.addX (H.kept.at_ hm) hm kr
  replace H : Hp [gm] w [bk gm (mtr n) 91, bk aq16 #[sc rq9.g 0 4 rq9.cap, sc aq15 0 1 1] 54, bk aq15 (sl (ints .u8 [1]) []) 5, bk rq9.g (sl (oct ((3 :: [116, 97, 103]))) rq9.rest) 5, bk aq2 (arrF .u8 32 key) 23, bk aq3 z8 23] v := H
  refine T_callX (α := SlR) F H kr 90 #[pt gm 0, sc aq2 0 32 32, sc aq16 0 2 2] (fun rX => kyV fk) (fun rX => [bk gm (mtr rX.n) 91, bk aq16 #[sc rq9.g 0 4 rq9.cap, sc aq15 0 1 1] 54, bk aq15 (sl (ints .u8 [1]) []) 5, bk rq9.g (sl (oct ((3 :: [116, 97, 103]))) rq9.rest) 5, bk aq2 (arrF .u8 32 key) 23, bk aq3 z8 23]) (fun rX => rX.n = n + 2) (fun w => kr) (fun w H => callsX_putV H (k := 0) rfl ((macsum_to gm n ⟨some ⟨aq2, 0, none⟩, 32, 32, kl key⟩ (kl_lt hkey) (kl_len key) (by show 32 ≤ 64; omega) [⟨some ⟨rq9.g, 0, none⟩, 4, rq9.cap, (3 :: [116, 97, 103])⟩, ⟨some ⟨aq15, 0, none⟩, 1, 1, [1]⟩] ((3 :: [116, 97, 103]) ++ [1]) (by simp [catP]) ⟨by simp, by simp, by simp⟩ _ _ (#[sc rq9.g 0 4 rq9.cap, sc aq15 0 1 1]) _ kr _ ⟨(RdS.all (H.at_ (k := 3) rfl) (Own.le Qrq9)), rfl, ⟨(RdS.all (H.at_ (k := 2) rfl) (Nat.le_refl _)), (by first | rfl | simp [highL_len, hb_len, kl_len]), trivial⟩⟩ (H.at_ (k := 1) rfl) (RdS.of (H.at_ (k := 4) rfl) (Nat.le_refl _) (rd_key key)) (fun x hx => (List.mem_append.1 hx).elim (hlb x) (fun h => by simp at h; omega)) (hW.kept H.kept h00 h01) (H.at_ (k := 0) rfl)).mono (fun _ _ ⟨r, q1, q2⟩ => ⟨r, by rw [q1, hfk2], q2⟩))) ?_
  clear F H; intro rq17 a v Qrq17 F H
  refine T_set F H kr rfl 5 rfl (arrF .u8 32 fk) (S_row 5 rfl 23 (.tmp 8) (.tmp 45) rfl kr (arrF .u8 32 fk) kr (by rw [arrF_size]; kernel_rfl) (by rw [arrF_size]; kernel_rfl) (arrF_one _ _ _)) [bk gm (mtr rq17.n) 91, bk aq16 #[sc rq9.g 0 4 rq9.cap, sc aq15 0 1 1] 54, bk aq15 (sl (ints .u8 [1]) []) 5, bk rq9.g (sl (oct ((3 :: [116, 97, 103]))) rq9.rest) 5, bk aq2 (arrF .u8 32 key) 23, bk aq3 (arrF .u8 32 fk) 23] rfl ?_
  clear F H; intro a v F H
  refine wpList_nil ?_
  refine hK14 _ _ ?_
  clear hK14
  try clear K14
  refine wp_ret ?_
  exact C_ret F H (rs := [.cell 8 23]) rfl (vs := [kyV fk]) (.row 5 rfl rfl _ Tryd.underlying23 rfl kr .nil) (kyV fk) rfl ⟨rq17, rfl, Qrq17, H.kept, H.at_ (k := 0) rfl⟩
end Go.Proofs.YtdejhenkdbjakaaDoor
