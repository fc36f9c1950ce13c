/- Walks: seal.Open. -/
import Derived.Test.YtdejhenkdbjakaaDoorYN
import Derived.Test.YtdejhenkdbjakaaDoorYE
set_option linter.unusedVariables false
set_option linter.unusedSimpArgs false
namespace Go.Proofs.YtdejhenkdbjakaaDoor
open Go Go.RowKit
theorem i_ngtI {k : IntKind} {a b : Int} (h : a ≤ b) : intRes .gtr k a b = some (.bool false) := by simp [intRes]; omega
theorem tagOK_of {kf : Nat → Nat} {lb : List Nat} {n : Nat} {bb : Bool} (h : bb = true ↔ ∀ i, i < 32 → kf i = lb.getD (n - 32 + i) 0) : bb = true ↔ ∀ i, i < 32 → (kl kf).getD i 0 = (lb.drop (n - 32)).getD i 0 :=
  h.trans ⟨fun g i hi => by rw [klD _ hi, dropD]; exact g i hi, fun g i hi => by have := g i hi; rwa [klD _ hi, dropD] at this⟩

set_option maxRecDepth 100000 in
set_option maxHeartbeats 4000000 in
theorem open_long1 (gm : Nat) (key : Nat → Nat) (pa : SlP) (ad : Option Addr) (nb cb : Nat) (h1 : 4000 < pa.n) (hnb : nb < 4611686018427387904) (w : World) : Calls Tryd.prog 40 #[.pointer (some ⟨gm, 0, none⟩), .agg (arrF .u8 32 key), .slice pa.ad pa.n pa.c, .slice ad nb cb] w fun e w' => e = .returned (.tuple #[.slice none 0 0, .int .i64 2]) ∧ Kept [] w w' := by
  refine C_enter Tryd.func40 rfl 47 Tryd.ntmps40 (Nat.le_of_ble_eq_true rfl) (fun a F => ?_)
  have H := Hp.start [] w
  replace F : Fm 47 [] [(0, pt gm 0), (1, kyV key), (2, .slice pa.ad pa.n pa.c), (3, .slice ad nb cb)] a := F.weak _ (subL_of kr)
  refine C_seqK (fun K1 hK1 => ?_)
  refine C_region ?_
  refine T_new F H kr (fun ad => pt ad 0) (ce (arrF .u8 32 key) 23) (fun w => kr) ?_
  clear F H; intro aq2 a v F H
  refine T_k F H (.slice none 0 0) ?_
  clear F; intro a F
  refine T_k F H (ni 0) ?_
  clear F; intro a F
  refine wpList_nil ?_
  refine hK1 _ _ ?_
  clear hK1
  try clear K1
  refine C_seqK (fun K3 hK3 => ?_)
  refine C_region ?_
  refine T_k F H (.slice ad nb cb) ?_
  clear F; intro a F
  refine T_k F H (ni nb) ?_
  clear F; intro a F
  refine T_val F H kr (.int .i64 (((nb : Nat) : Int) - 32)) (fun w _ => R_bin (x := (.tmp 14)) (y := (.const (.int .i64 32))) rfl (k := .i64) (a := ((nb : Nat) : Int)) (b := ((32 : Nat) : Int)) kr kr (i_sub64 rfl (by omega)) w) ?_
  clear F; intro a F
  refine T_k F H (.int .i64 (((nb : Nat) : Int) - 32)) ?_
  clear F; intro a F
  refine wpList_nil ?_
  refine hK3 _ _ ?_
  clear hK3
  try clear K3
  refine C_seqK (fun K4 hK4 => ?_)
  refine wp_block ?_
  refine C_seqK (fun K5 hK5 => ?_)
  refine C_region ?_
  refine T_k F H (.slice pa.ad pa.n pa.c) ?_
  clear F; intro a F
  refine T_k F H (ni pa.n) ?_
  clear F; intro a F
  refine T_val F H kr (.bool true) (fun w _ => R_bin (x := (.tmp 18)) (y := (.const (.int .i64 4000))) rfl (k := .i64) (a := ((pa.n : Nat) : Int)) (b := ((4000 : Nat) : Int)) kr kr (i_gtn (by omega)) w) ?_
  clear F; intro a F
  refine T_k F H (.bool true) ?_
  clear F; intro a F
  refine T_skip F kr kr ?_
  clear F; intro a F
  refine T_skip F kr kr ?_
  clear F; intro a F
  refine T_k F H (.bool true) ?_
  clear F; intro a F
  refine T_k F H (.bool true) ?_
  clear F; intro a F
  refine wpList_nil ?_
  refine hK5 _ _ ?_
  clear hK5
  try clear K5
  refine C_if F true rfl rfl ?_
  refine C_seqK (fun K6 hK6 => ?_)
  refine C_region ?_
  refine T_k F H (.slice none 0 0) ?_
  clear F; intro a F
  refine T_k F H (ni 2) ?_
  clear F; intro a F
  refine wpList_nil ?_
  refine hK6 _ _ ?_
  clear hK6
  try clear K6
  refine wp_ret ?_
  repeat (first | with_reducible refine then_ret ?_ | with_reducible refine inB_ret ?_)
  exact C_ret F H (rs := [.tmp 8, .tmp 9]) rfl (vs := [.slice none 0 0, ni 2]) (.tmp rfl (.tmp rfl .nil)) (.tuple #[.slice none 0 0, ni 2]) rfl ⟨rfl, H.kept⟩

set_option maxRecDepth 100000 in
set_option maxHeartbeats 4000000 in
theorem open_long2 (gm : Nat) (key : Nat → Nat) (pa : SlP) (ad : Option Addr) (nb cb : Nat) (h1 : pa.n ≤ 4000) (h2 : 4032 < nb) (hnb : nb < 4611686018427387904) (w : World) : Calls Tryd.prog 40 #[.pointer (some ⟨gm, 0, none⟩), .agg (arrF .u8 32 key), .slice pa.ad pa.n pa.c, .slice ad nb cb] w fun e w' => e = .returned (.tuple #[.slice none 0 0, .int .i64 2]) ∧ Kept [] w w' := by
  refine C_enter Tryd.func40 rfl 47 Tryd.ntmps40 (Nat.le_of_ble_eq_true rfl) (fun a F => ?_)
  have H := Hp.start [] w
  replace F : Fm 47 [] [(0, pt gm 0), (1, kyV key), (2, .slice pa.ad pa.n pa.c), (3, .slice ad nb cb)] a := F.weak _ (subL_of kr)
  refine C_seqK (fun K1 hK1 => ?_)
  refine C_region ?_
  refine T_new F H kr (fun ad => pt ad 0) (ce (arrF .u8 32 key) 23) (fun w => kr) ?_
  clear F H; intro aq2 a v F H
  refine T_k F H (.slice none 0 0) ?_
  clear F; intro a F
  refine T_k F H (ni 0) ?_
  clear F; intro a F
  refine wpList_nil ?_
  refine hK1 _ _ ?_
  clear hK1
  try clear K1
  refine C_seqK (fun K3 hK3 => ?_)
  refine C_region ?_
  refine T_k F H (.slice ad nb cb) ?_
  clear F; intro a F
  refine T_k F H (ni nb) ?_
  clear F; intro a F
  refine T_val F H kr (ni (nb - 32)) (fun w _ => R_bin (x := (.tmp 14)) (y := (.const (.int .i64 32))) rfl (k := .i64) (a := ((nb : Nat) : Int)) (b := ((32 : Nat) : Int)) kr kr (i_subn64 (a := nb) (b := 32) (by omega) (by omega)) w) ?_
  clear F; intro a F
  refine T_k F H (ni (nb - 32)) ?_
  clear F; intro a F
  refine wpList_nil ?_
  refine hK3 _ _ ?_
  clear hK3
  try clear K3
  refine C_seqK (fun K4 hK4 => ?_)
  refine wp_block ?_
  refine C_seqK (fun K5 hK5 => ?_)
  refine C_region ?_
  refine T_k F H (.slice pa.ad pa.n pa.c) ?_
  clear F; intro a F
  refine T_k F H (ni pa.n) ?_
  clear F; intro a F
  refine T_val F H kr (.bool false) (fun w _ => R_bin (x := (.tmp 18)) (y := (.const (.int .i64 4000))) rfl (k := .i64) (a := ((pa.n : Nat) : Int)) (b := ((4000 : Nat) : Int)) kr kr (i_ngtn (by omega)) w) ?_
  clear F; intro a F
  refine T_k F H (.bool false) ?_
  clear F; intro a F
  refine T_k F H (ni (nb - 32)) ?_
  clear F; intro a F
  refine T_val F H kr (.bool true) (fun w _ => R_bin (x := (.tmp 21)) (y := (.const (.int .i64 4000))) rfl (k := .i64) (a := (((nb - 32) : Nat) : Int)) (b := ((4000 : Nat) : Int)) kr kr (i_gtn (by omega)) w) ?_
  clear F; intro a F
  refine T_k F H (.bool true) ?_
  clear F; intro a F
  refine T_k F H (.bool true) ?_
  clear F; intro a F
  refine wpList_nil ?_
  refine hK5 _ _ ?_
  clear hK5
  try clear K5
  refine C_if F true rfl rfl ?_
  refine C_seqK (fun K6 hK6 => ?_)
  refine C_region ?_
  refine T_k F H (.slice none 0 0) ?_
  clear F; intro a F
  refine T_k F H (ni 2) ?_
  clear F; intro a F
  refine wpList_nil ?_
  refine hK6 _ _ ?_
  clear hK6
  try clear K6
  refine wp_ret ?_
  repeat (first | with_reducible refine then_ret ?_ | with_reducible refine inB_ret ?_)
  exact C_ret F H (rs := [.tmp 8, .tmp 9]) rfl (vs := [.slice none 0 0, ni 2]) (.tmp rfl (.tmp rfl .nil)) (.tuple #[.slice none 0 0, ni 2]) rfl ⟨rfl, H.kept⟩

set_option maxRecDepth 100000 in
set_option maxHeartbeats 4000000 in
theorem open_short (gm : Nat) (key : Nat → Nat) (pa : SlP) (ad : Option Addr) (nb cb : Nat) (h1 : pa.n ≤ 4000) (h2 : nb < 32) (w : World) : Calls Tryd.prog 40 #[.pointer (some ⟨gm, 0, none⟩), .agg (arrF .u8 32 key), .slice pa.ad pa.n pa.c, .slice ad nb cb] w fun e w' => e = .returned (.tuple #[.slice none 0 0, .int .i64 3]) ∧ Kept [] w w' := by
  refine C_enter Tryd.func40 rfl 47 Tryd.ntmps40 (Nat.le_of_ble_eq_true rfl) (fun a F => ?_)
  have H := Hp.start [] w
  replace F : Fm 47 [] [(0, pt gm 0), (1, kyV key), (2, .slice pa.ad pa.n pa.c), (3, .slice ad nb cb)] a := F.weak _ (subL_of kr)
  refine C_seqK (fun K1 hK1 => ?_)
  refine C_region ?_
  refine T_new F H kr (fun ad => pt ad 0) (ce (arrF .u8 32 key) 23) (fun w => kr) ?_
  clear F H; intro aq2 a v F H
  refine T_k F H (.slice none 0 0) ?_
  clear F; intro a F
  refine T_k F H (ni 0) ?_
  clear F; intro a F
  refine wpList_nil ?_
  refine hK1 _ _ ?_
  clear hK1
  try clear K1
  refine C_seqK (fun K3 hK3 => ?_)
  refine C_region ?_
  refine T_k F H (.slice ad nb cb) ?_
  clear F; intro a F
  refine T_k F H (ni nb) ?_
  clear F; intro a F
  refine T_val F H kr (.int .i64 (((nb : Nat) : Int) - 32)) (fun w _ => R_bin (x := (.tmp 14)) (y := (.const (.int .i64 32))) rfl (k := .i64) (a := ((nb : Nat) : Int)) (b := ((32 : Nat) : Int)) kr kr (i_sub64 rfl (by omega)) w) ?_
  clear F; intro a F
  refine T_k F H (.int .i64 (((nb : Nat) : Int) - 32)) ?_
  clear F; intro a F
  refine wpList_nil ?_
  refine hK3 _ _ ?_
  clear hK3
  try clear K3
  refine C_seqK (fun K4 hK4 => ?_)
  refine wp_block ?_
  refine C_seqK (fun K5 hK5 => ?_)
  refine C_region ?_
  refine T_k F H (.slice pa.ad pa.n pa.c) ?_
  clear F; intro a F
  refine T_k F H (ni pa.n) ?_
  clear F; intro a F
  refine T_val F H kr (.bool false) (fun w _ => R_bin (x := (.tmp 18)) (y := (.const (.int .i64 4000))) rfl (k := .i64) (a := ((pa.n : Nat) : Int)) (b := ((4000 : Nat) : Int)) kr kr (i_ngtn (by omega)) w) ?_
  clear F; intro a F
  refine T_k F H (.bool false) ?_
  clear F; intro a F
  refine T_k F H (.int .i64 (((nb : Nat) : Int) - 32)) ?_
  clear F; intro a F
  refine T_val F H kr (.bool false) (fun w _ => R_bin (x := (.tmp 21)) (y := (.const (.int .i64 4000))) rfl (k := .i64) (a := (((nb : Nat) : Int) - 32)) (b := ((4000 : Nat) : Int)) kr kr (i_ngtI (by omega)) w) ?_
  clear F; intro a F
  refine T_k F H (.bool false) ?_
  clear F; intro a F
  refine T_k F H (.bool false) ?_
  clear F; intro a F
  refine wpList_nil ?_
  refine hK5 _ _ ?_
  clear hK5
  try clear K5
  refine C_if F false rfl rfl ?_
  refine C_seqK (fun K6 hK6 => ?_)
  refine C_region ?_
  refine T_k F H (.int .i64 (((nb : Nat) : Int) - 32)) ?_
  clear F; intro a F
  refine T_val F H kr (.bool true) (fun w _ => R_bin (x := (.tmp 25)) (y := (.const (.int .i64 0))) rfl (k := .i64) (a := (((nb : Nat) : Int) - 32)) (b := ((0 : Nat) : Int)) kr kr (i_lt (by omega)) w) ?_
  clear F; intro a F
  refine T_k F H (.bool true) ?_
  clear F; intro a F
  refine wpList_nil ?_
  refine hK6 _ _ ?_
  clear hK6
  try clear K6
  refine C_if F true rfl rfl ?_
  refine C_seqK (fun K7 hK7 => ?_)
  refine C_region ?_
  refine T_k F H (.slice none 0 0) ?_
  clear F; intro a F
  refine T_k F H (ni 3) ?_
  clear F; intro a F
  refine wpList_nil ?_
  refine hK7 _ _ ?_
  clear hK7
  try clear K7
  refine wp_ret ?_
  repeat (first | with_reducible refine then_ret ?_ | with_reducible refine inB_ret ?_)
  exact C_ret F H (rs := [.tmp 8, .tmp 9]) rfl (vs := [.slice none 0 0, ni 3]) (.tmp rfl (.tmp rfl .nil)) (.tuple #[.slice none 0 0, ni 3]) rfl ⟨rfl, H.kept⟩

set_option maxRecDepth 100000 in
set_option maxHeartbeats 4000000 in
theorem open_bad (gm n : Nat) (key : Nat → Nat) (hkey : ∀ i, i < 32 → key i < 256) (pa : SlP) (hba : ∀ x ∈ pa.l, x < 256) (hna : pa.l.length = pa.n) (hla : pa.n ≤ 4000) (lb : List Nat) (hlb : ∀ x ∈ lb, x < 256) (bx ob nb cb : Nat) (arr : Array Value) (tyl : TypeId) (fr : Nat × Nat) (harr : ∀ j, j < nb → arr[ob + j]? = some (.int .u8 ((lb.getD j 0 : Nat) : Int))) (hlen : lb.length = nb) (hcb : nb ≤ cb) (h32 : 32 ≤ nb) (hnb : nb ≤ 4032) (hok : ¬ ∀ i, i < 32 → tagP key pa.l (lb.take (nb - 32)) i = lb.getD (nb - 32 + i) 0) (hg1 : bx ≠ gm) (w : World) (hW : LaidS w) (hm : w.heap[gm]? = some (.cells (mtr n) 91 (0, 0))) (hrda : RdK [gm] w pa) (hbx : w.heap[bx]? = some (.cells arr tyl fr)) : Calls Tryd.prog 40 #[.pointer (some ⟨gm, 0, none⟩), .agg (arrF .u8 32 key), .slice pa.ad pa.n pa.c, .slice (some ⟨bx, ob, none⟩) nb cb] w fun e w' => ∃ r : SlR, e = .returned (.tuple #[.slice none 0 0, .int .i64 20]) ∧ True ∧ Kept [gm] w w' ∧ w'.heap[gm]? = some (.cells (mtr r.n) 91 (0, 0)) := by
  have hap := hW.apart1 hm
  have hxg : bx ∉ [gm] := fun h => hg1 (List.mem_singleton.1 h)
  refine C_enter Tryd.func40 rfl 47 Tryd.ntmps40 (Nat.le_of_ble_eq_true rfl) (fun a F => ?_)
  have H := Hp.startM hm hbx (Ne.symm hg1)
  replace F : Fm 47 [] [(0, pt gm 0), (1, kyV key), (2, .slice pa.ad pa.n pa.c), (3, sc bx ob nb cb)] a := F.weak _ (subL_of kr)
  refine C_seqK (fun K1 hK1 => ?_)
  refine C_region ?_
  refine T_new F H kr (fun ad => pt ad 0) (ce (arrF .u8 32 key) 23) (fun w => kr) ?_
  clear F H; intro aq2 a v F H
  refine T_k F H (.slice none 0 0) ?_
  clear F; intro a F
  refine T_k F H (ni 0) ?_
  clear F; intro a F
  refine wpList_nil ?_
  refine hK1 _ _ ?_
  clear hK1
  try clear K1
  refine C_seqK (fun K3 hK3 => ?_)
  refine C_region ?_
  refine T_k F H (sc bx ob nb cb) ?_
  clear F; intro a F
  refine T_k F H (ni nb) ?_
  clear F; intro a F
  refine T_val F H kr (ni (nb - 32)) (fun w _ => R_bin (x := (.tmp 14)) (y := (.const (.int .i64 32))) rfl (k := .i64) (a := ((nb : Nat) : Int)) (b := ((32 : Nat) : Int)) kr kr (i_subn64 (a := nb) (b := 32) (by omega) (by omega)) w) ?_
  clear F; intro a F
  refine T_k F H (ni (nb - 32)) ?_
  clear F; intro a F
  refine wpList_nil ?_
  refine hK3 _ _ ?_
  clear hK3
  try clear K3
  refine C_seqK (fun K4 hK4 => ?_)
  refine wp_block ?_
  refine C_seqK (fun K5 hK5 => ?_)
  refine C_region ?_
  refine T_k F H (.slice pa.ad pa.n pa.c) ?_
  clear F; intro a F
  refine T_k F H (ni pa.n) ?_
  clear F; intro a F
  refine T_val F H kr (.bool false) (fun w _ => R_bin (x := (.tmp 18)) (y := (.const (.int .i64 4000))) rfl (k := .i64) (a := ((pa.n : Nat) : Int)) (b := ((4000 : Nat) : Int)) kr kr (i_ngtn (by omega)) w) ?_
  clear F; intro a F
  refine T_k F H (.bool false) ?_
  clear F; intro a F
  refine T_k F H (ni (nb - 32)) ?_
  clear F; intro a F
  refine T_val F H kr (.bool false) (fun w _ => R_bin (x := (.tmp 21)) (y := (.const (.int .i64 4000))) rfl (k := .i64) (a := (((nb - 32) : Nat) : Int)) (b := ((4000 : Nat) : Int)) kr kr (i_ngtn (by omega)) w) ?_
  clear F; intro a F
  refine T_k F H (.bool false) ?_
  clear F; intro a F
  refine T_k F H (.bool false) ?_
  clear F; intro a F
  refine wpList_nil ?_
  refine hK5 _ _ ?_
  clear hK5
  try clear K5
  refine C_if F false rfl rfl ?_
  refine C_seqK (fun K6 hK6 => ?_)
  refine C_region ?_
  refine T_k F H (ni (nb - 32)) ?_
  clear F; intro a F
  refine T_val F H kr (.bool false) (fun w _ => R_bin (x := (.tmp 25)) (y := (.const (.int .i64 0))) rfl (k := .i64) (a := (((nb - 32) : Nat) : Int)) (b := ((0 : Nat) : Int)) kr kr (i_nlt (by omega)) w) ?_
  clear F; intro a F
  refine T_k F H (.bool false) ?_
  clear F; intro a F
  refine wpList_nil ?_
  refine hK6 _ _ ?_
  clear hK6
  try clear K6
  refine C_if F false rfl rfl ?_
  refine wp_skip ?_
  refine hK4 _ _ ?_
  clear hK4
  try clear K4
  refine C_seqK (fun K7 hK7 => ?_)
  refine C_region ?_
  refine T_k F H (pt gm 0) ?_
  clear F; intro a F
  refine T_val F H kr (kyV key) (R_load (own := true) (g := aq2) (all := (arrF .u8 32 key)) (t := 23) (fr := (0, 0)) 0 kr 23 (.tmp 5) rfl 0 kr (arrF .u8 32 key) (part_all _) _ Tryd.underlying23 rfl (by rw [arrF_size]; kernel_rfl)) ?_
  clear F; intro a F
  refine T_callX (α := SlR) F H kr 66 #[pt gm 0, kyV key] (fun rX => pt rX.g 0) (fun rX => [bk rX.g (mkA gm key 0 0 zN 0 0 zN) 136, bk aq2 (arrF .u8 32 key) 23, bk gm (mtr n) 91, ⟨false, bx, .cells arr tyl fr⟩]) (fun rX => True) (fun w => kr) (fun w H => callsX_newV H (made_any gm key _)) ?_
  clear F H; intro rq8 a v Qrq8 F H
  refine T_k F H (pt rq8.g 0) ?_
  clear F; intro a F
  refine wpList_nil ?_
  refine hK7 _ _ ?_
  clear hK7
  try clear K7
  refine C_seqK (fun K9 hK9 => ?_)
  refine C_region ?_
  refine T_k F H (pt rq8.g 0) ?_
  clear F; intro a F
  refine T_k F H (.slice pa.ad pa.n pa.c) ?_
  clear F; intro a F
  refine T_k F H (sc bx ob nb cb) ?_
  clear F; intro a F
  refine T_k F H (ni (nb - 32)) ?_
  clear F; intro a F
  refine T_val F H kr (sc bx ob (nb - 32) cb) (fun w _ => R_slice (x := (.tmp 32)) (lo := none) (hi := (some (.tmp 33))) rfl Tryd.underlying54 (ad := some ⟨bx, ob, none⟩) (len := nb) (cap := cb) kr (0) ((nb - 32)) rfl ⟨.i64, kr⟩ (Nat.zero_le _) (by omega) (sz := 1) kr _ slice0 w) ?_
  clear F; intro a F
  refine T_callX (α := SlR) F H kr 67 #[pt rq8.g 0, .slice pa.ad pa.n pa.c, sc bx ob (nb - 32) cb] (fun rX => kyV (tagP key pa.l (lb.take (nb - 32)))) (fun rX => [bk rq8.g (mkA gm key 0 0 zN 1 0 (tagK key)) 136, bk aq2 (arrF .u8 32 key) 23, bk gm (mtr rX.n) 91, ⟨false, bx, .cells arr tyl fr⟩]) (fun rX => True) (fun w => kr) (fun w H => callsX_put2 H (k := 2) (k2 := 0) rfl rfl (by decide) (msumx_any gm n rq8.g key hkey zN 0 0 zN pa ⟨some ⟨bx, ob, none⟩, (nb - 32), cb, lb.take (nb - 32)⟩ hba hna (by omega) (take_lt hlb _) (by rw [List.length_take, hlen]; show min (nb - 32) nb = nb - 32; omega) (by show nb - 32 ≤ 4000; omega) _ (hW.keptS H.kept hap) (H.at_ (k := 2) rfl) (H.at_ (k := 0) rfl) (hrda.step2 H (k := 2) (k2 := 0) rfl rfl) (RdK.row (H.at_ (k := 3) rfl) hlen harr (by omega) (by omega) (fun hh => (List.mem_cons.1 hh).elim (H.apart (i := 3) (j := 2) rfl rfl (by decide)) (fun h2 => (H.apart (i := 3) (j := 0) rfl rfl (by decide)) (List.mem_singleton.1 h2)))))) ?_
  clear F H; intro rq10 a v Qrq10 F H
  refine T_new F H kr (fun ad => pt ad 0) (ce z8 23) (fun w => kr) ?_
  clear F H; intro aq11 a v F H
  refine T_set F H kr rfl 0 rfl (arrF .u8 32 (tagP key pa.l (lb.take (nb - 32)))) (S_row 0 rfl 23 (.tmp 12) (.tmp 35) rfl kr (arrF .u8 32 (tagP key pa.l (lb.take (nb - 32)))) kr (by rw [arrF_size]; kernel_rfl) (by rw [arrF_size]; kernel_rfl) (arrF_one _ _ _)) [bk aq11 (arrF .u8 32 (tagP key pa.l (lb.take (nb - 32)))) 23, bk rq8.g (mkA gm key 0 0 zN 1 0 (tagK key)) 136, bk aq2 (arrF .u8 32 key) 23, bk gm (mtr rq10.n) 91, ⟨false, bx, .cells arr tyl fr⟩] rfl ?_
  clear F H; intro a v F H
  refine wpList_nil ?_
  refine hK9 _ _ ?_
  clear hK9
  try clear K9
  refine C_seqK (fun K12 hK12 => ?_)
  refine C_seqK (fun K13 hK13 => ?_)
  have hsn : aq11 ≠ bx := H.apart (i := 0) (j := 4) rfl rfl (by decide)
  refine E_region F H (fun β => [(36, sc aq11 0 32 32), (37, sc bx ob nb cb), (38, ni (nb - 32)), (39, sc bx (ob + (nb - 32)) 32 (cb - (nb - 32))), (40, .bool false), (41, .bool true)]) [36, 37, 38, 39, 40, 41] [] [bk aq11 (arrF .u8 32 (tagP key pa.l (lb.take (nb - 32)))) 23, bk rq8.g (mkA gm key 0 0 zN 1 0 (tagK key)) 136, bk aq2 (arrF .u8 32 key) 23, bk gm (mtr rq10.n) 91, ⟨false, bx, .cells arr tyl fr⟩] [0, 1, 2, 3, 4] 2 [] kr kr kr (fun β => rfl) trivial ⟨?_, ?_, ?_, ?_, ?_, ?_, trivial⟩ ?_
  · exact E_k 47 (fun β => sc aq11 0 32 32) 36 2
  · exact E_k 47 (fun β => sc bx ob nb cb) 37 2
  · exact E_k 47 (fun β => ni (nb - 32)) 38 2
  · exact E_v 47 (fun β => sc bx (ob + (nb - 32)) 32 (cb - (nb - 32))) 39 2 [] (fun β w hk hl hq => R_slice (x := (.tmp 37)) (lo := (some (.tmp 38))) (hi := none) rfl Tryd.underlying54 (ad := some ⟨bx, ob, none⟩) (len := nb) (cap := cb) kr ((nb - 32)) (nb) ⟨.i64, kr⟩ rfl (by omega) (by omega) (sz := 1) kr _ ((sliceAt (by omega)).trans (by rw [show nb - (nb - 32) = 32 by omega])) w)
  · exact E_call 47 kq (fun β => .bool false) 40 rfl kq 61 (fun β => #[sc aq11 0 32 32, sc bx (ob + (nb - 32)) 32 (cb - (nb - 32))]) (fun β w => kr) 2 [] kr rfl (fun β w hk hl hq => same_any (kl (tagP key pa.l (lb.take (nb - 32)))) (kl_lt (fun i _ => tagP_lt _ _ _ i)) (lb.drop (nb - 32)) (drop_lt hlb _) aq11 0 32 32 _ 23 (0, 0) bx (ob + (nb - 32)) 32 (cb - (nb - 32)) arr tyl fr (keyAt _) (fun j hj => by rw [dropD, Nat.add_assoc]; exact harr (nb - 32 + j) (by omega)) rfl (by omega) false (tagOK_of (n := nb) ⟨fun h => absurd h (by decide), fun h => absurd h hok⟩) _ (hl.at_ (k := 0) rfl) (hl.at_ (k := 4) rfl) hsn)
  · exact E_k 47 (fun β => .bool true) 41 2
  clear F H; intro β a v Q F H
  replace H : Hp [gm] w [bk aq11 (arrF .u8 32 (tagP key pa.l (lb.take (nb - 32)))) 23, bk rq8.g (mkA gm key 0 0 zN 1 0 (tagK key)) 136, bk aq2 (arrF .u8 32 key) 23, bk gm (mtr rq10.n) 91, ⟨false, bx, .cells arr tyl fr⟩] v := H
  replace F : Fm 47 [] [(41, .bool true), (40, .bool false), (39, sc bx (ob + (nb - 32)) 32 (cb - (nb - 32))), (38, ni (nb - 32)), (37, sc bx ob nb cb), (36, sc aq11 0 32 32), (12, pt aq11 0), (35, kyV (tagP key pa.l (lb.take (nb - 32)))), (34, sc bx ob (nb - 32) cb), (33, ni (nb - 32)), (32, sc bx ob nb cb), (31, .slice pa.ad pa.n pa.c), (30, pt rq8.g 0), (11, pt rq8.g 0), (29, pt rq8.g 0), (28, kyV key), (27, pt gm 0), (24, .bool false), (26, .bool false), (25, ni (nb - 32)), (16, .bool false), (23, .bool false), (22, .bool false), (21, ni (nb - 32)), (20, .bool false), (19, .bool false), (18, ni pa.n), (17, .slice pa.ad pa.n pa.c), (10, ni (nb - 32)), (15, ni (nb - 32)), (14, ni nb), (13, sc bx ob nb cb), (9, ni 0), (8, .slice none 0 0), (5, pt aq2 0), (0, pt gm 0), (1, kyV key), (2, .slice pa.ad pa.n pa.c), (3, sc bx ob nb cb)] a := F.weak _ (subL_of kr)
  clear Q
  refine ?_
  refine hK13 _ _ ?_
  clear hK13
  try clear K13
  refine C_if F true rfl rfl ?_
  refine C_seqK (fun K14 hK14 => ?_)
  refine C_region ?_
  refine T_k F H (.slice none 0 0) ?_
  clear F; intro a F
  refine T_k F H (ni 20) ?_
  clear F; intro a F
  refine wpList_nil ?_
  refine hK14 _ _ ?_
  clear hK14
  try clear K14
  refine wp_ret ?_
  repeat (first | with_reducible refine then_ret ?_ | with_reducible refine inB_ret ?_)
  exact C_ret F H (rs := [.tmp 8, .tmp 9]) rfl (vs := [.slice none 0 0, ni 20]) (.tmp rfl (.tmp rfl .nil)) (.tuple #[.slice none 0 0, ni 20]) rfl ⟨⟨0, 0, [], rq10.n⟩, rfl, trivial, H.kept, H.at_ (k := 3) rfl⟩

set_option maxRecDepth 100000 in
set_option maxHeartbeats 4000000 in
theorem open_some (gm n : Nat) (key : Nat → Nat) (hkey : ∀ i, i < 32 → key i < 256) (pa : SlP) (hba : ∀ x ∈ pa.l, x < 256) (hna : pa.l.length = pa.n) (hla : pa.n ≤ 4000) (lb : List Nat) (hlb : ∀ x ∈ lb, x < 256) (bx ob nb cb : Nat) (arr : Array Value) (tyl : TypeId) (fr : Nat × Nat) (harr : ∀ j, j < nb → arr[ob + j]? = some (.int .u8 ((lb.getD j 0 : Nat) : Int))) (hlen : lb.length = nb) (hcb : nb ≤ cb) (h32 : 32 < nb) (hnb : nb ≤ 4032) (hok : ∀ i, i < 32 → tagP key pa.l (lb.take (nb - 32)) i = lb.getD (nb - 32 + i) 0) (hg1 : bx ≠ gm) (w : World) (hW : LaidS w) (hm : w.heap[gm]? = some (.cells (mtr n) 91 (0, 0))) (hrda : RdK [gm] w pa) (hbx : w.heap[bx]? = some (.cells arr tyl fr)) : Calls Tryd.prog 40 #[.pointer (some ⟨gm, 0, none⟩), .agg (arrF .u8 32 key), .slice pa.ad pa.n pa.c, .slice (some ⟨bx, ob, none⟩) nb cb] w fun e w' => ∃ r : SlR, e = .returned (.tuple #[.slice (some ⟨r.g, 0, none⟩) (nb - 32) r.cap, .int .i64 0]) ∧ True ∧ Own (oct (hidP key (lb.take (nb - 32)) (nb - 32))) r.rest (nb - 32) r.cap 1 ∧ w.heap.size ≤ r.g ∧ w'.heap[r.g]? = some (.cells (sl (oct (hidP key (lb.take (nb - 32)) (nb - 32))) r.rest) 5 (0, 0)) ∧ Kept [gm] w w' ∧ w'.heap[gm]? = some (.cells (mtr r.n) 91 (0, 0)) := by
  have hap := hW.apart1 hm
  have hxg : bx ∉ [gm] := fun h => hg1 (List.mem_singleton.1 h)
  refine C_enter Tryd.func40 rfl 47 Tryd.ntmps40 (Nat.le_of_ble_eq_true rfl) (fun a F => ?_)
  have H := Hp.startM hm hbx (Ne.symm hg1)
  replace F : Fm 47 [] [(0, pt gm 0), (1, kyV key), (2, .slice pa.ad pa.n pa.c), (3, sc bx ob nb cb)] a := F.weak _ (subL_of kr)
  refine C_seqK (fun K1 hK1 => ?_)
  refine C_region ?_
  refine T_new F H kr (fun ad => pt ad 0) (ce (arrF .u8 32 key) 23) (fun w => kr) ?_
  clear F H; intro aq2 a v F H
  refine T_k F H (.slice none 0 0) ?_
  clear F; intro a F
  refine T_k F H (ni 0) ?_
  clear F; intro a F
  refine wpList_nil ?_
  refine hK1 _ _ ?_
  clear hK1
  try clear K1
  refine C_seqK (fun K3 hK3 => ?_)
  refine C_region ?_
  refine T_k F H (sc bx ob nb cb) ?_
  clear F; intro a F
  refine T_k F H (ni nb) ?_
  clear F; intro a F
  refine T_val F H kr (ni (nb - 32)) (fun w _ => R_bin (x := (.tmp 14)) (y := (.const (.int .i64 32))) rfl (k := .i64) (a := ((nb : Nat) : Int)) (b := ((32 : Nat) : Int)) kr kr (i_subn64 (a := nb) (b := 32) (by omega) (by omega)) w) ?_
  clear F; intro a F
  refine T_k F H (ni (nb - 32)) ?_
  clear F; intro a F
  refine wpList_nil ?_
  refine hK3 _ _ ?_
  clear hK3
  try clear K3
  refine C_seqK (fun K4 hK4 => ?_)
  refine wp_block ?_
  refine C_seqK (fun K5 hK5 => ?_)
  refine C_region ?_
  refine T_k F H (.slice pa.ad pa.n pa.c) ?_
  clear F; intro a F
  refine T_k F H (ni pa.n) ?_
  clear F; intro a F
  refine T_val F H kr (.bool false) (fun w _ => R_bin (x := (.tmp 18)) (y := (.const (.int .i64 4000))) rfl (k := .i64) (a := ((pa.n : Nat) : Int)) (b := ((4000 : Nat) : Int)) kr kr (i_ngtn (by omega)) w) ?_
  clear F; intro a F
  refine T_k F H (.bool false) ?_
  clear F; intro a F
  refine T_k F H (ni (nb - 32)) ?_
  clear F; intro a F
  refine T_val F H kr (.bool false) (fun w _ => R_bin (x := (.tmp 21)) (y := (.const (.int .i64 4000))) rfl (k := .i64) (a := (((nb - 32) : Nat) : Int)) (b := ((4000 : Nat) : Int)) kr kr (i_ngtn (by omega)) w) ?_
  clear F; intro a F
  refine T_k F H (.bool false) ?_
  clear F; intro a F
  refine T_k F H (.bool false) ?_
  clear F; intro a F
  refine wpList_nil ?_
  refine hK5 _ _ ?_
  clear hK5
  try clear K5
  refine C_if F false rfl rfl ?_
  refine C_seqK (fun K6 hK6 => ?_)
  refine C_region ?_
  refine T_k F H (ni (nb - 32)) ?_
  clear F; intro a F
  refine T_val F H kr (.bool false) (fun w _ => R_bin (x := (.tmp 25)) (y := (.const (.int .i64 0))) rfl (k := .i64) (a := (((nb - 32) : Nat) : Int)) (b := ((0 : Nat) : Int)) kr kr (i_nlt (by omega)) w) ?_
  clear F; intro a F
  refine T_k F H (.bool false) ?_
  clear F; intro a F
  refine wpList_nil ?_
  refine hK6 _ _ ?_
  clear hK6
  try clear K6
  refine C_if F false rfl rfl ?_
  refine wp_skip ?_
  refine hK4 _ _ ?_
  clear hK4
  try clear K4
  refine C_seqK (fun K7 hK7 => ?_)
  refine C_region ?_
  refine T_k F H (pt gm 0) ?_
  clear F; intro a F
  refine T_val F H kr (kyV key) (R_load (own := true) (g := aq2) (all := (arrF .u8 32 key)) (t := 23) (fr := (0, 0)) 0 kr 23 (.tmp 5) rfl 0 kr (arrF .u8 32 key) (part_all _) _ Tryd.underlying23 rfl (by rw [arrF_size]; kernel_rfl)) ?_
  clear F; intro a F
  refine T_callX (α := SlR) F H kr 66 #[pt gm 0, kyV key] (fun rX => pt rX.g 0) (fun rX => [bk rX.g (mkA gm key 0 0 zN 0 0 zN) 136, bk aq2 (arrF .u8 32 key) 23, bk gm (mtr n) 91, ⟨false, bx, .cells arr tyl fr⟩]) (fun rX => True) (fun w => kr) (fun w H => callsX_newV H (made_any gm key _)) ?_
  clear F H; intro rq8 a v Qrq8 F H
  refine T_k F H (pt rq8.g 0) ?_
  clear F; intro a F
  refine wpList_nil ?_
  refine hK7 _ _ ?_
  clear hK7
  try clear K7
  refine C_seqK (fun K9 hK9 => ?_)
  refine C_region ?_
  refine T_k F H (pt rq8.g 0) ?_
  clear F; intro a F
  refine T_k F H (.slice pa.ad pa.n pa.c) ?_
  clear F; intro a F
  refine T_k F H (sc bx ob nb cb) ?_
  clear F; intro a F
  refine T_k F H (ni (nb - 32)) ?_
  clear F; intro a F
  refine T_val F H kr (sc bx ob (nb - 32) cb) (fun w _ => R_slice (x := (.tmp 32)) (lo := none) (hi := (some (.tmp 33))) rfl Tryd.underlying54 (ad := some ⟨bx, ob, none⟩) (len := nb) (cap := cb) kr (0) ((nb - 32)) rfl ⟨.i64, kr⟩ (Nat.zero_le _) (by omega) (sz := 1) kr _ slice0 w) ?_
  clear F; intro a F
  refine T_callX (α := SlR) F H kr 67 #[pt rq8.g 0, .slice pa.ad pa.n pa.c, sc bx ob (nb - 32) cb] (fun rX => kyV (tagP key pa.l (lb.take (nb - 32)))) (fun rX => [bk rq8.g (mkA gm key 0 0 zN 1 0 (tagK key)) 136, bk aq2 (arrF .u8 32 key) 23, bk gm (mtr rX.n) 91, ⟨false, bx, .cells arr tyl fr⟩]) (fun rX => True) (fun w => kr) (fun w H => callsX_put2 H (k := 2) (k2 := 0) rfl rfl (by decide) (msumx_any gm n rq8.g key hkey zN 0 0 zN pa ⟨some ⟨bx, ob, none⟩, (nb - 32), cb, lb.take (nb - 32)⟩ hba hna (by omega) (take_lt hlb _) (by rw [List.length_take, hlen]; show min (nb - 32) nb = nb - 32; omega) (by show nb - 32 ≤ 4000; omega) _ (hW.keptS H.kept hap) (H.at_ (k := 2) rfl) (H.at_ (k := 0) rfl) (hrda.step2 H (k := 2) (k2 := 0) rfl rfl) (RdK.row (H.at_ (k := 3) rfl) hlen harr (by omega) (by omega) (fun hh => (List.mem_cons.1 hh).elim (H.apart (i := 3) (j := 2) rfl rfl (by decide)) (fun h2 => (H.apart (i := 3) (j := 0) rfl rfl (by decide)) (List.mem_singleton.1 h2)))))) ?_
  clear F H; intro rq10 a v Qrq10 F H
  refine T_new F H kr (fun ad => pt ad 0) (ce z8 23) (fun w => kr) ?_
  clear F H; intro aq11 a v F H
  refine T_set F H kr rfl 0 rfl (arrF .u8 32 (tagP key pa.l (lb.take (nb - 32)))) (S_row 0 rfl 23 (.tmp 12) (.tmp 35) rfl kr (arrF .u8 32 (tagP key pa.l (lb.take (nb - 32)))) kr (by rw [arrF_size]; kernel_rfl) (by rw [arrF_size]; kernel_rfl) (arrF_one _ _ _)) [bk aq11 (arrF .u8 32 (tagP key pa.l (lb.take (nb - 32)))) 23, bk rq8.g (mkA gm key 0 0 zN 1 0 (tagK key)) 136, bk aq2 (arrF .u8 32 key) 23, bk gm (mtr rq10.n) 91, ⟨false, bx, .cells arr tyl fr⟩] rfl ?_
  clear F H; intro a v F H
  refine wpList_nil ?_
  refine hK9 _ _ ?_
  clear hK9
  try clear K9
  refine C_seqK (fun K12 hK12 => ?_)
  refine C_seqK (fun K13 hK13 => ?_)
  have hsn : aq11 ≠ bx := H.apart (i := 0) (j := 4) rfl rfl (by decide)
  refine E_region F H (fun β => [(36, sc aq11 0 32 32), (37, sc bx ob nb cb), (38, ni (nb - 32)), (39, sc bx (ob + (nb - 32)) 32 (cb - (nb - 32))), (40, .bool true), (41, .bool false)]) [36, 37, 38, 39, 40, 41] [] [bk aq11 (arrF .u8 32 (tagP key pa.l (lb.take (nb - 32)))) 23, bk rq8.g (mkA gm key 0 0 zN 1 0 (tagK key)) 136, bk aq2 (arrF .u8 32 key) 23, bk gm (mtr rq10.n) 91, ⟨false, bx, .cells arr tyl fr⟩] [0, 1, 2, 3, 4] 2 [] kr kr kr (fun β => rfl) trivial ⟨?_, ?_, ?_, ?_, ?_, ?_, trivial⟩ ?_
  · exact E_k 47 (fun β => sc aq11 0 32 32) 36 2
  · exact E_k 47 (fun β => sc bx ob nb cb) 37 2
  · exact E_k 47 (fun β => ni (nb - 32)) 38 2
  · exact E_v 47 (fun β => sc bx (ob + (nb - 32)) 32 (cb - (nb - 32))) 39 2 [] (fun β w hk hl hq => R_slice (x := (.tmp 37)) (lo := (some (.tmp 38))) (hi := none) rfl Tryd.underlying54 (ad := some ⟨bx, ob, none⟩) (len := nb) (cap := cb) kr ((nb - 32)) (nb) ⟨.i64, kr⟩ rfl (by omega) (by omega) (sz := 1) kr _ ((sliceAt (by omega)).trans (by rw [show nb - (nb - 32) = 32 by omega])) w)
  · exact E_call 47 kq (fun β => .bool true) 40 rfl kq 61 (fun β => #[sc aq11 0 32 32, sc bx (ob + (nb - 32)) 32 (cb - (nb - 32))]) (fun β w => kr) 2 [] kr rfl (fun β w hk hl hq => same_any (kl (tagP key pa.l (lb.take (nb - 32)))) (kl_lt (fun i _ => tagP_lt _ _ _ i)) (lb.drop (nb - 32)) (drop_lt hlb _) aq11 0 32 32 _ 23 (0, 0) bx (ob + (nb - 32)) 32 (cb - (nb - 32)) arr tyl fr (keyAt _) (fun j hj => by rw [dropD, Nat.add_assoc]; exact harr (nb - 32 + j) (by omega)) rfl (by omega) true (tagOK_of (n := nb) ⟨fun _ => hok, fun _ => rfl⟩) _ (hl.at_ (k := 0) rfl) (hl.at_ (k := 4) rfl) hsn)
  · exact E_k 47 (fun β => .bool false) 41 2
  clear F H; intro β a v Q F H
  replace H : Hp [gm] w [bk aq11 (arrF .u8 32 (tagP key pa.l (lb.take (nb - 32)))) 23, bk rq8.g (mkA gm key 0 0 zN 1 0 (tagK key)) 136, bk aq2 (arrF .u8 32 key) 23, bk gm (mtr rq10.n) 91, ⟨false, bx, .cells arr tyl fr⟩] v := H
  replace F : Fm 47 [] [(41, .bool false), (40, .bool true), (39, sc bx (ob + (nb - 32)) 32 (cb - (nb - 32))), (38, ni (nb - 32)), (37, sc bx ob nb cb), (36, sc aq11 0 32 32), (12, pt aq11 0), (35, kyV (tagP key pa.l (lb.take (nb - 32)))), (34, sc bx ob (nb - 32) cb), (33, ni (nb - 32)), (32, sc bx ob nb cb), (31, .slice pa.ad pa.n pa.c), (30, pt rq8.g 0), (11, pt rq8.g 0), (29, pt rq8.g 0), (28, kyV key), (27, pt gm 0), (24, .bool false), (26, .bool false), (25, ni (nb - 32)), (16, .bool false), (23, .bool false), (22, .bool false), (21, ni (nb - 32)), (20, .bool false), (19, .bool false), (18, ni pa.n), (17, .slice pa.ad pa.n pa.c), (10, ni (nb - 32)), (15, ni (nb - 32)), (14, ni nb), (13, sc bx ob nb cb), (9, ni 0), (8, .slice none 0 0), (5, pt aq2 0), (0, pt gm 0), (1, kyV key), (2, .slice pa.ad pa.n pa.c), (3, sc bx ob nb cb)] a := F.weak _ (subL_of kr)
  clear Q
  refine ?_
  refine hK13 _ _ ?_
  clear hK13
  try clear K13
  refine C_if F false rfl rfl ?_
  refine wp_skip ?_
  refine hK12 _ _ ?_
  clear hK12
  try clear K12
  refine C_seqK (fun K14 hK14 => ?_)
  refine C_region ?_
  refine T_k F H (pt rq8.g 0) ?_
  clear F; intro a F
  refine T_k F H (sc bx ob nb cb) ?_
  clear F; intro a F
  refine T_k F H (ni (nb - 32)) ?_
  clear F; intro a F
  refine T_val F H kr (sc bx ob (nb - 32) cb) (fun w _ => R_slice (x := (.tmp 43)) (lo := none) (hi := (some (.tmp 44))) rfl Tryd.underlying54 (ad := some ⟨bx, ob, none⟩) (len := nb) (cap := cb) kr (0) ((nb - 32)) rfl ⟨.i64, kr⟩ (Nat.zero_le _) (by omega) (sz := 1) kr _ slice0 w) ?_
  clear F; intro a F
  refine T_callX (α := SlR) F H kr 68 #[pt rq8.g 0, sc bx ob (nb - 32) cb] (fun rX => sc rX.g 0 (nb - 32) rX.cap) (fun rX => [bk rX.g (sl (oct (hidP key (lb.take (nb - 32)) (nb - 32))) rX.rest) 5, bk aq11 (arrF .u8 32 (tagP key pa.l (lb.take (nb - 32)))) 23, bk rq8.g (mkA gm key 1 0 (hideK key) 1 0 (tagK key)) 136, bk aq2 (arrF .u8 32 key) 23, bk gm (mtr rX.n) 91, ⟨false, bx, .cells arr tyl fr⟩]) (fun rX => Own (oct (hidP key (lb.take (nb - 32)) (nb - 32))) rX.rest ((nb - 32)) rX.cap 1) (fun w => kr) (fun w H => callsX_new2 H (k := 3) (k2 := 1) rfl rfl (by decide) (mmix_some gm rq10.n rq8.g key hkey zN 1 0 (tagK key) (lb.take (nb - 32)) (take_lt hlb _) bx ob (nb - 32) cb arr tyl fr (fun j hj => by rw [takeD hj]; exact harr j (by omega)) (by omega) (by omega) (by omega) (H.apart (i := 4) (j := 3) rfl rfl (by decide)) (H.apart (i := 4) (j := 1) rfl rfl (by decide)) _ (hW.keptS H.kept hap) (H.at_ (k := 3) rfl) (H.at_ (k := 1) rfl) (H.at_ (k := 4) rfl))) ?_
  clear F H; intro rq15 a v Qrq15 F H
  refine T_k F H (sc rq15.g 0 (nb - 32) rq15.cap) ?_
  clear F; intro a F
  refine T_k F H (ni 0) ?_
  clear F; intro a F
  refine wpList_nil ?_
  refine hK14 _ _ ?_
  clear hK14
  try clear K14
  refine wp_ret ?_
  exact C_ret F H (rs := [.tmp 8, .tmp 9]) rfl (vs := [sc rq15.g 0 (nb - 32) rq15.cap, ni 0]) (.tmp rfl (.tmp rfl .nil)) (.tuple #[sc rq15.g 0 (nb - 32) rq15.cap, ni 0]) rfl ⟨⟨rq15.g, rq15.cap, rq15.rest, rq15.n⟩, rfl, trivial, Qrq15, (H.own _ (List.mem_of_getElem? (i := 0) rfl) rfl).resolve_right (fun hh => H.apart (i := 0) (j := 4) rfl rfl (by decide) (List.mem_singleton.1 hh)), H.at_ (k := 0) rfl, H.kept, H.at_ (k := 4) rfl⟩

set_option maxRecDepth 100000 in
set_option maxHeartbeats 4000000 in
theorem open_nil (gm n : Nat) (key : Nat → Nat) (hkey : ∀ i, i < 32 → key i < 256) (pa : SlP) (hba : ∀ x ∈ pa.l, x < 256) (hna : pa.l.length = pa.n) (hla : pa.n ≤ 4000) (lb : List Nat) (hlb : ∀ x ∈ lb, x < 256) (bx ob cb : Nat) (arr : Array Value) (tyl : TypeId) (fr : Nat × Nat) (harr : ∀ j, j < 32 → arr[ob + j]? = some (.int .u8 ((lb.getD j 0 : Nat) : Int))) (hlen : lb.length = 32) (hcb : 32 ≤ cb) (hok : ∀ i, i < 32 → tagP key pa.l [] i = lb.getD (32 - 32 + i) 0) (hg1 : bx ≠ gm) (w : World) (hW : LaidS w) (hm : w.heap[gm]? = some (.cells (mtr n) 91 (0, 0))) (hrda : RdK [gm] w pa) (hbx : w.heap[bx]? = some (.cells arr tyl fr)) : Calls Tryd.prog 40 #[.pointer (some ⟨gm, 0, none⟩), .agg (arrF .u8 32 key), .slice pa.ad pa.n pa.c, .slice (some ⟨bx, ob, none⟩) 32 cb] w fun e w' => ∃ r : SlR, e = .returned (.tuple #[.slice none 0 0, .int .i64 0]) ∧ True ∧ Kept [gm] w w' ∧ w'.heap[gm]? = some (.cells (mtr r.n) 91 (0, 0)) := by
  have hap := hW.apart1 hm
  have hxg : bx ∉ [gm] := fun h => hg1 (List.mem_singleton.1 h)
  refine C_enter Tryd.func40 rfl 47 Tryd.ntmps40 (Nat.le_of_ble_eq_true rfl) (fun a F => ?_)
  have H := Hp.startM hm hbx (Ne.symm hg1)
  replace F : Fm 47 [] [(0, pt gm 0), (1, kyV key), (2, .slice pa.ad pa.n pa.c), (3, sc bx ob 32 cb)] a := F.weak _ (subL_of kr)
  refine C_seqK (fun K1 hK1 => ?_)
  refine C_region ?_
  refine T_new F H kr (fun ad => pt ad 0) (ce (arrF .u8 32 key) 23) (fun w => kr) ?_
  clear F H; intro aq2 a v F H
  refine T_k F H (.slice none 0 0) ?_
  clear F; intro a F
  refine T_k F H (ni 0) ?_
  clear F; intro a F
  refine wpList_nil ?_
  refine hK1 _ _ ?_
  clear hK1
  try clear K1
  refine C_seqK (fun K3 hK3 => ?_)
  refine C_region ?_
  refine T_k F H (sc bx ob 32 cb) ?_
  clear F; intro a F
  refine T_k F H (ni 32) ?_
  clear F; intro a F
  refine T_k F H (ni 0) ?_
  clear F; intro a F
  refine T_k F H (ni 0) ?_
  clear F; intro a F
  refine wpList_nil ?_
  refine hK3 _ _ ?_
  clear hK3
  try clear K3
  refine C_seqK (fun K4 hK4 => ?_)
  refine wp_block ?_
  refine C_seqK (fun K5 hK5 => ?_)
  refine C_region ?_
  refine T_k F H (.slice pa.ad pa.n pa.c) ?_
  clear F; intro a F
  refine T_k F H (ni pa.n) ?_
  clear F; intro a F
  refine T_val F H kr (.bool false) (fun w _ => R_bin (x := (.tmp 18)) (y := (.const (.int .i64 4000))) rfl (k := .i64) (a := ((pa.n : Nat) : Int)) (b := ((4000 : Nat) : Int)) kr kr (i_ngtn (by omega)) w) ?_
  clear F; intro a F
  refine T_k F H (.bool false) ?_
  clear F; intro a F
  refine T_k F H (ni 0) ?_
  clear F; intro a F
  refine T_k F H (.bool false) ?_
  clear F; intro a F
  refine T_k F H (.bool false) ?_
  clear F; intro a F
  refine T_k F H (.bool false) ?_
  clear F; intro a F
  refine wpList_nil ?_
  refine hK5 _ _ ?_
  clear hK5
  try clear K5
  refine C_if F false rfl rfl ?_
  refine C_seqK (fun K6 hK6 => ?_)
  refine C_region ?_
  refine T_k F H (ni 0) ?_
  clear F; intro a F
  refine T_k F H (.bool false) ?_
  clear F; intro a F
  refine T_k F H (.bool false) ?_
  clear F; intro a F
  refine wpList_nil ?_
  refine hK6 _ _ ?_
  clear hK6
  try clear K6
  refine C_if F false rfl rfl ?_
  refine wp_skip ?_
  refine hK4 _ _ ?_
  clear hK4
  try clear K4
  refine C_seqK (fun K7 hK7 => ?_)
  refine C_region ?_
  refine T_k F H (pt gm 0) ?_
  clear F; intro a F
  refine T_val F H kr (kyV key) (R_load (own := true) (g := aq2) (all := (arrF .u8 32 key)) (t := 23) (fr := (0, 0)) 0 kr 23 (.tmp 5) rfl 0 kr (arrF .u8 32 key) (part_all _) _ Tryd.underlying23 rfl (by rw [arrF_size]; kernel_rfl)) ?_
  clear F; intro a F
  refine T_callX (α := SlR) F H kr 66 #[pt gm 0, kyV key] (fun rX => pt rX.g 0) (fun rX => [bk rX.g (mkA gm key 0 0 zN 0 0 zN) 136, bk aq2 (arrF .u8 32 key) 23, bk gm (mtr n) 91, ⟨false, bx, .cells arr tyl fr⟩]) (fun rX => True) (fun w => kr) (fun w H => callsX_newV H (made_any gm key _)) ?_
  clear F H; intro rq8 a v Qrq8 F H
  refine T_k F H (pt rq8.g 0) ?_
  clear F; intro a F
  refine wpList_nil ?_
  refine hK7 _ _ ?_
  clear hK7
  try clear K7
  refine C_seqK (fun K9 hK9 => ?_)
  refine C_region ?_
  refine T_k F H (pt rq8.g 0) ?_
  clear F; intro a F
  refine T_k F H (.slice pa.ad pa.n pa.c) ?_
  clear F; intro a F
  refine T_k F H (sc bx ob 32 cb) ?_
  clear F; intro a F
  refine T_k F H (ni 0) ?_
  clear F; intro a F
  refine T_val F H kr (sc bx ob 0 cb) (fun w _ => R_slice (x := (.tmp 32)) (lo := none) (hi := (some (.tmp 33))) rfl Tryd.underlying54 (ad := some ⟨bx, ob, none⟩) (len := 32) (cap := cb) kr (0) (0) rfl ⟨.i64, kr⟩ (Nat.zero_le _) (Nat.zero_le _) (sz := 1) kr _ slice0 w) ?_
  clear F; intro a F
  refine T_callX (α := SlR) F H kr 67 #[pt rq8.g 0, .slice pa.ad pa.n pa.c, sc bx ob 0 cb] (fun rX => kyV (tagP key pa.l [])) (fun rX => [bk rq8.g (mkA gm key 0 0 zN 1 0 (tagK key)) 136, bk aq2 (arrF .u8 32 key) 23, bk gm (mtr rX.n) 91, ⟨false, bx, .cells arr tyl fr⟩]) (fun rX => True) (fun w => kr) (fun w H => callsX_put2 H (k := 2) (k2 := 0) rfl rfl (by decide) (msumx_any gm n rq8.g key hkey zN 0 0 zN pa ⟨some ⟨bx, ob, none⟩, 0, cb, []⟩ hba hna (by omega) (by simp) rfl (by show 0 ≤ 4000; omega) _ (hW.keptS H.kept hap) (H.at_ (k := 2) rfl) (H.at_ (k := 0) rfl) (hrda.step2 H (k := 2) (k2 := 0) rfl rfl) (RdK.row (H.at_ (k := 3) rfl) hlen harr (by omega) (by omega) (fun hh => (List.mem_cons.1 hh).elim (H.apart (i := 3) (j := 2) rfl rfl (by decide)) (fun h2 => (H.apart (i := 3) (j := 0) rfl rfl (by decide)) (List.mem_singleton.1 h2)))))) ?_
  clear F H; intro rq10 a v Qrq10 F H
  refine T_new F H kr (fun ad => pt ad 0) (ce z8 23) (fun w => kr) ?_
  clear F H; intro aq11 a v F H
  refine T_set F H kr rfl 0 rfl (arrF .u8 32 (tagP key pa.l [])) (S_row 0 rfl 23 (.tmp 12) (.tmp 35) rfl kr (arrF .u8 32 (tagP key pa.l [])) kr (by rw [arrF_size]; kernel_rfl) (by rw [arrF_size]; kernel_rfl) (arrF_one _ _ _)) [bk aq11 (arrF .u8 32 (tagP key pa.l [])) 23, bk rq8.g (mkA gm key 0 0 zN 1 0 (tagK key)) 136, bk aq2 (arrF .u8 32 key) 23, bk gm (mtr rq10.n) 91, ⟨false, bx, .cells arr tyl fr⟩] rfl ?_
  clear F H; intro a v F H
  refine wpList_nil ?_
  refine hK9 _ _ ?_
  clear hK9
  try clear K9
  refine C_seqK (fun K12 hK12 => ?_)
  refine C_seqK (fun K13 hK13 => ?_)
  have hsn : aq11 ≠ bx := H.apart (i := 0) (j := 4) rfl rfl (by decide)
  refine E_region F H (fun β => [(36, sc aq11 0 32 32), (37, sc bx ob 32 cb), (38, ni 0), (39, sc bx ob 32 cb), (40, .bool true), (41, .bool false)]) [36, 37, 38, 39, 40, 41] [] [bk aq11 (arrF .u8 32 (tagP key pa.l [])) 23, bk rq8.g (mkA gm key 0 0 zN 1 0 (tagK key)) 136, bk aq2 (arrF .u8 32 key) 23, bk gm (mtr rq10.n) 91, ⟨false, bx, .cells arr tyl fr⟩] [0, 1, 2, 3, 4] 2 [] kr kr kr (fun β => rfl) trivial ⟨?_, ?_, ?_, ?_, ?_, ?_, trivial⟩ ?_
  · exact E_k 47 (fun β => sc aq11 0 32 32) 36 2
  · exact E_k 47 (fun β => sc bx ob 32 cb) 37 2
  · exact E_k 47 (fun β => ni 0) 38 2
  · exact E_v 47 (fun β => sc bx ob 32 cb) 39 2 [] (fun β w hk hl hq => R_slice (x := (.tmp 37)) (lo := (some (.tmp 38))) (hi := none) rfl Tryd.underlying54 (ad := some ⟨bx, ob, none⟩) (len := 32) (cap := cb) kr (0) (32) ⟨.i64, kr⟩ rfl (by omega) (by omega) (sz := 1) kr _ slice0 w)
  · exact E_call 47 kq (fun β => .bool true) 40 rfl kq 61 (fun β => #[sc aq11 0 32 32, sc bx ob 32 cb]) (fun β w => kr) 2 [] kr rfl (fun β w hk hl hq => same_any (kl (tagP key pa.l [])) (kl_lt (fun i _ => tagP_lt _ _ _ i)) (lb.drop 0) (drop_lt hlb _) aq11 0 32 32 _ 23 (0, 0) bx (ob + 0) 32 (cb - 0) arr tyl fr (keyAt _) (fun j hj => by rw [dropD, Nat.add_assoc]; exact harr (0 + j) (by omega)) rfl (by omega) true (tagOK_of (n := 32) ⟨fun _ => hok, fun _ => rfl⟩) _ (hl.at_ (k := 0) rfl) (hl.at_ (k := 4) rfl) hsn)
  · exact E_k 47 (fun β => .bool false) 41 2
  clear F H; intro β a v Q F H
  replace H : Hp [gm] w [bk aq11 (arrF .u8 32 (tagP key pa.l [])) 23, bk rq8.g (mkA gm key 0 0 zN 1 0 (tagK key)) 136, bk aq2 (arrF .u8 32 key) 23, bk gm (mtr rq10.n) 91, ⟨false, bx, .cells arr tyl fr⟩] v := H
  replace F : Fm 47 [] [(41, .bool false), (40, .bool true), (39, sc bx ob 32 cb), (38, ni 0), (37, sc bx ob 32 cb), (36, sc aq11 0 32 32), (12, pt aq11 0), (35, kyV (tagP key pa.l [])), (34, sc bx ob 0 cb), (33, ni 0), (32, sc bx ob 32 cb), (31, .slice pa.ad pa.n pa.c), (30, pt rq8.g 0), (11, pt rq8.g 0), (29, pt rq8.g 0), (28, kyV key), (27, pt gm 0), (24, .bool false), (26, .bool false), (25, ni 0), (16, .bool false), (23, .bool false), (22, .bool false), (21, ni 0), (20, .bool false), (19, .bool false), (18, ni pa.n), (17, .slice pa.ad pa.n pa.c), (10, ni 0), (15, ni 0), (14, ni 32), (13, sc bx ob 32 cb), (9, ni 0), (8, .slice none 0 0), (5, pt aq2 0), (0, pt gm 0), (1, kyV key), (2, .slice pa.ad pa.n pa.c), (3, sc bx ob 32 cb)] a := F.weak _ (subL_of kr)
  clear Q
  refine ?_
  refine hK13 _ _ ?_
  clear hK13
  try clear K13
  refine C_if F false rfl rfl ?_
  refine wp_skip ?_
  refine hK12 _ _ ?_
  clear hK12
  try clear K12
  refine C_seqK (fun K14 hK14 => ?_)
  refine C_region ?_
  refine T_k F H (pt rq8.g 0) ?_
  clear F; intro a F
  refine T_k F H (sc bx ob 32 cb) ?_
  clear F; intro a F
  refine T_k F H (ni 0) ?_
  clear F; intro a F
  refine T_val F H kr (sc bx ob 0 cb) (fun w _ => R_slice (x := (.tmp 43)) (lo := none) (hi := (some (.tmp 44))) rfl Tryd.underlying54 (ad := some ⟨bx, ob, none⟩) (len := 32) (cap := cb) kr (0) (0) rfl ⟨.i64, kr⟩ (Nat.zero_le _) (Nat.zero_le _) (sz := 1) kr _ slice0 w) ?_
  clear F; intro a F
  refine T_callX (α := SlR) F H kr 68 #[pt rq8.g 0, sc bx ob 0 cb] (fun rX => .slice none 0 0) (fun rX => [bk aq11 (arrF .u8 32 (tagP key pa.l [])) 23, bk rq8.g (mkA gm key 1 0 (hideK key) 1 0 (tagK key)) 136, bk aq2 (arrF .u8 32 key) 23, bk gm (mtr rX.n) 91, ⟨false, bx, .cells arr tyl fr⟩]) (fun rX => True) (fun w => kr) (fun w H => callsX_put2 H (k := 3) (k2 := 1) rfl rfl (by decide) (mmix_none gm rq10.n rq8.g key hkey zN 1 0 (tagK key) (some ⟨bx, ob, none⟩) cb _ (hW.keptS H.kept hap) (H.at_ (k := 3) rfl) (H.at_ (k := 1) rfl))) ?_
  clear F H; intro rq15 a v Qrq15 F H
  refine T_k F H (.slice none 0 0) ?_
  clear F; intro a F
  refine T_k F H (ni 0) ?_
  clear F; intro a F
  refine wpList_nil ?_
  refine hK14 _ _ ?_
  clear hK14
  try clear K14
  refine wp_ret ?_
  exact C_ret F H (rs := [.tmp 8, .tmp 9]) rfl (vs := [.slice none 0 0, ni 0]) (.tmp rfl (.tmp rfl .nil)) (.tuple #[.slice none 0 0, ni 0]) rfl ⟨⟨0, 0, [], rq15.n⟩, rfl, trivial, H.kept, H.at_ (k := 3) rfl⟩
end Go.Proofs.YtdejhenkdbjakaaDoor
