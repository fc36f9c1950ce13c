/- VG -/
import Derived.Test.YtdejhenkdbjakaaDoorQM36
import Derived.Test.YtdejhenkdbjakaaDoorQM14
set_option linter.unusedVariables false
set_option linter.unusedSimpArgs false
set_option maxRecDepth 100000
set_option maxHeartbeats 4000000
namespace Go.Proofs.YtdejhenkdbjakaaDoor
open Go Go.RowKit
theorem i_ned {k : IntKind} {a b : Nat} : intRes .neq k ((a : Nat) : Int) ((b : Nat) : Int) = some (.bool (decide (a ≠ b))) := by
  unfold intRes
  refine congrArg (fun q => some (Value.bool q)) ?_
  by_cases h : a = b
  · subst h; simp
  · have : ¬ (a : Int) = (b : Int) := by omega
    simp [h, this]
theorem i_nesm {k : IntKind} {a b : Nat} (h : a = b) : intRes .neq k ((a : Nat) : Int) ((b : Nat) : Int) = some (.bool false) := by subst h; simp [intRes]

theorem lsame_any (la lb : List Nat) (ga oa na ca : Nat) (aa : Array Value) (tya : TypeId) (fra : Nat × Nat) (gb ob cb : Nat) (ab : Array Value) (tyb : TypeId) (frb : Nat × Nat) (haa : ∀ j, j < na → aa[oa + j]? = some (.int .u8 (la.getD j 0 : Nat))) (hab : ∀ j, j < na → ab[ob + j]? = some (.int .u8 (lb.getD j 0 : Nat))) (hsm : na < 1000000) (bb : Bool) (hsame : bb = true ↔ ∀ i, i < na → la.getD i 0 = lb.getD i 0) (w : World) (hga : w.heap[ga]? = some (.cells aa tya fra)) (hgb : w.heap[gb]? = some (.cells ab tyb frb)) (hne : ga ≠ gb) : Calls Tryd.prog 42 #[.slice (some ⟨ga, oa, none⟩) na ca, .slice (some ⟨gb, ob, none⟩) na cb] w fun e w' => e = .returned (.bool bb) ∧ Kept [] w w' := by
  refine C_enter Tryd.func42 rfl 26 Tryd.ntmps42 (Nat.le_of_ble_eq_true rfl) (fun a F => ?_)
  have H := Hp.start22 hga hgb hne
  replace F : Fm 26 [] [(0, sc ga oa na ca), (1, sc gb ob na cb)] a := F.weak _ (subL_of kr);refine C_seqK fun K1 hK1 => C_region ?_;refine T_k F H (.bool false) ?_;clear F; intro a F;refine wpList_nil (hK1 _ _ ?_);clear hK1;refine C_seqK (fun K2 hK2 => ?_);refine C_seqK fun K3 hK3 => C_region ?_;refine T_k F H (sc ga oa na ca) ?_;clear F; intro a F;refine T_k F H (ni na) ?_;clear F; intro a F;refine T_k F H (sc gb ob na cb) ?_;clear F; intro a F;refine T_k F H (ni na) ?_;clear F; intro a F;refine T_val F H kr (.bool false) (fun w _ => R_bin rfl (k := .i64) (a := (na : Nat)) (b := (na : Nat)) kr kr (i_nesm rfl) w) ?_;clear F; intro a F;refine wpList_nil (hK3 _ _ ?_);clear hK3;refine C_if F false rfl rfl ?_;refine wp_skip ?_;refine hK2 _ _ ?_;clear hK2;refine C_seqK (fun K4 hK4 => ?_);refine C_seqK fun K5 hK5 => C_region ?_;refine T_k F H (ni 0) ?_;clear F; intro a F;refine wpList_nil ?_;replace F : Fm 26 [] [(5, ni 0), (0, sc ga oa na ca), (1, sc gb ob na cb), (4, .bool false)] a := F.weak _ (subL_of kr);refine hK5 _ _ ?_;clear hK5;refine wp_block ?_;refine C_loop (fun m a v => ∃ k, k + m = na ∧ (∀ i, i < k → la.getD i 0 = lb.getD i 0) ∧ Fm 26 [] [(5, ni k), (0, sc ga oa na ca), (1, sc gb ob na cb), (4, .bool false)] a ∧ Hp [] w [⟨false, ga, .cells aa tya fra⟩, ⟨false, gb, .cells ab tyb frb⟩] v) (na) ⟨0, Nat.zero_add _, (fun i h => absurd h (by omega)), F, H⟩ ?_;clear F H;intro m a v ⟨k, hk, hall, F, H⟩
  rcases m with _ | m
  rotate_left
  · skip
    refine C_seqK (fun K6 hK6 => ?_);refine C_seqK fun K7 hK7 => C_region ?_;refine T_k F H (ni k) ?_;clear F; intro a F;refine T_k F H (sc ga oa na ca) ?_;clear F; intro a F;refine T_k F H (ni na) ?_;clear F; intro a F;refine T_val F H kr (.bool true) (fun w _ => R_bin rfl (k := .i64) (a := (k : Nat)) (b := (na : Nat)) kr kr (i_lt (by omega)) w) ?_;clear F; intro a F;refine wpList_nil (hK7 _ _ ?_);clear hK7;refine C_if F true rfl rfl ?_;refine wp_skip ?_;refine hK6 _ _ ?_;clear hK6;refine C_seqK (fun K8 hK8 => ?_);refine wp_block ?_;refine C_seqK (fun K9 hK9 => ?_);refine E_region F H (fun β => [(17, sc ga oa na ca), (18, ni k), (19, pt ga (oa + (k) * 1)), (20, nb (la.getD (k) 0)), (21, sc gb ob na cb), (22, ni k), (23, pt gb (ob + (k) * 1)), (24, nb (lb.getD (k) 0)), (25, .bool (decide (la.getD k 0 ≠ lb.getD k 0)))]) [17, 18, 19, 20, 21, 22, 23, 24, 25] [] [⟨false, ga, .cells aa tya fra⟩, ⟨false, gb, .cells ab tyb frb⟩] [0, 1] 2 [] kr kr kr (fun β => rfl) trivial ⟨?_, ?_, ?_, ?_, ?_, ?_, ?_, ?_, ?_, trivial⟩ ?_
    · exact E_k 26 (fun β => sc ga oa na ca) 17 2
    · exact E_k 26 (fun β => ni k) 18 2
    · exact E_v 26 (fun β => pt ga (oa + (k) * 1)) 19 2 [] (fun β w hk hl hq => R_indexS (k := .i64) (g := ga) (off := oa) (len := na) (cap := ca) rfl Tryd.underlying54 kr (k) kr (by omega) (sz := 1) kr w)
    · exact E_v 26 (fun β => nb (la.getD (k) 0)) 20 2 [] (fun β w hk hl hq => R_cellH hl  0 rfl 5 (.tmp 19) rfl (oa + (k) * 1) kr (nb (la.getD (k) 0)) ((congrArg (fun q => (aa)[q]?) (show (oa + (k) * 1) = oa + (k) by omega)).trans (haa (k) (by omega))) _ Tryd.underlying5 rfl)
    · exact E_k 26 (fun β => sc gb ob na cb) 21 2
    · exact E_k 26 (fun β => ni k) 22 2
    · exact E_v 26 (fun β => pt gb (ob + (k) * 1)) 23 2 [] (fun β w hk hl hq => R_indexS (k := .i64) (g := gb) (off := ob) (len := na) (cap := cb) rfl Tryd.underlying54 kr (k) kr (by omega) (sz := 1) kr w)
    · exact E_v 26 (fun β => nb (lb.getD (k) 0)) 24 2 [] (fun β w hk hl hq => R_cellH hl  1 rfl 5 (.tmp 23) rfl (ob + (k) * 1) kr (nb (lb.getD (k) 0)) ((congrArg (fun q => (ab)[q]?) (show (ob + (k) * 1) = ob + (k) by omega)).trans (hab (k) (by omega))) _ Tryd.underlying5 rfl)
    · exact E_v 26 (fun β => .bool (decide (la.getD k 0 ≠ lb.getD k 0))) 25 2 [] (fun β w hk hl hq => R_bin rfl (k := .u8) (a := (la.getD (k) 0 : Nat)) (b := (lb.getD (k) 0 : Nat)) kr kr i_ned w)
    clear F H; intro β a v Q F H;replace H : Hp [] w [⟨false, ga, .cells aa tya fra⟩, ⟨false, gb, .cells ab tyb frb⟩] v := H;replace F : Fm 26 [] [(25, .bool (decide (la.getD k 0 ≠ lb.getD k 0))), (24, nb (lb.getD (k) 0)), (23, pt gb (ob + (k) * 1)), (22, ni k), (21, sc gb ob na cb), (20, nb (la.getD (k) 0)), (19, pt ga (oa + (k) * 1)), (18, ni k), (17, sc ga oa na ca), (14, .bool true), (13, ni na), (12, sc ga oa na ca), (11, ni k), (5, ni k), (0, sc ga oa na ca), (1, sc gb ob na cb), (4, .bool false)] a := F.weak _ (subL_of kr);clear Q;refine ?_;refine hK9 _ _ ?_;clear hK9
    by_cases hc : la.getD k 0 ≠ lb.getD k 0
    · rw [decide_eq_true hc] at F
      refine C_if F true rfl rfl ?_;refine C_seqK fun K10 hK10 => C_region ?_;refine T_k F H (.bool false) ?_;clear F; intro a F;refine wpList_nil (hK10 _ _ ?_);clear hK10;refine wp_ret ?_
      repeat (first | with_reducible refine then_ret ?_ | with_reducible refine inB_ret ?_)
      exact C_ret F H (rs := [.tmp 4]) rfl (vs := [.bool false]) (.tmp rfl .nil) (.bool false) rfl ⟨by rw [show bb = false from by cases bb with | false => rfl | true => exact absurd (hsame.1 rfl k (by omega)) hc], H.kept⟩
    rw [decide_eq_false hc] at F
    refine C_if F false rfl rfl ?_;refine wp_skip ?_;refine hK8 _ _ ?_;clear hK8;refine C_region ?_;refine T_k F H (ni k) ?_;clear F; intro a F;refine T_val F H kr (ni (k + 1)) (fun w _ => R_bin rfl (k := .i64) (a := (k : Nat)) (b := (1 : Nat)) kr kr (i_addn64 (a := k) (b := 1) (by omega)) w) ?_;clear F; intro a F;refine T_k F H (ni (k + 1)) ?_;clear F; intro a F;refine wpList_nil ?_;replace F : Fm 26 [] [(5, ni (k + 1)), (0, sc ga oa na ca), (1, sc gb ob na cb), (4, .bool false)] a := F.weak _ (subL_of kr);replace H : Hp [] w [⟨false, ga, .cells aa tya fra⟩, ⟨false, gb, .cells ab tyb frb⟩] v := H
    exact ⟨m, Nat.lt_succ_self m, k + 1, by omega, (fun i hi => by rcases Nat.lt_or_ge i k with h | h; exact hall i h; rw [show i = k by omega]; exact Decidable.not_not.1 hc), F, H⟩
  have hkt : k = na := by omega
  rw [hkt] at F hall
  clear hk;refine C_seqK (fun K11 hK11 => ?_);refine C_seqK fun K12 hK12 => C_region ?_;refine T_k F H (ni na) ?_;clear F; intro a F;refine T_k F H (sc ga oa na ca) ?_;clear F; intro a F;refine T_k F H (ni na) ?_;clear F; intro a F;refine T_val F H kr (.bool false) (fun w _ => R_bin rfl (k := .i64) (a := (na : Nat)) (b := (na : Nat)) kr kr (i_nlt (by omega)) w) ?_;clear F; intro a F;refine wpList_nil (hK12 _ _ ?_);clear hK12;refine C_if F false rfl rfl ?_;refine wp_exit ?_;refine hK4 _ _ ?_;clear hK4;refine C_seqK fun K13 hK13 => C_region ?_;refine T_k F H (.bool true) ?_;clear F; intro a F;refine wpList_nil (hK13 _ _ ?_);clear hK13;refine wp_ret ?_
  exact C_ret F H (rs := [.tmp 4]) rfl (vs := [.bool true]) (.tmp rfl .nil) (.bool true) rfl ⟨by rw [hsame.2 hall], H.kept⟩

theorem signed_any (pa ph : SlP) (hba : ∀ x ∈ pa.l, x < 256) (hna : pa.l.length = pa.n) (hla : pa.n ≤ 4000) (hbh : ∀ x ∈ ph.l, x < 256) (hnh : ph.l.length = ph.n) (hlh : ph.n ≤ 4000) (w : World) (hrda : RdS w pa.v pa.n (oct pa.l)) (hrdh : RdS w ph.v ph.n (oct ph.l)) : Calls Tryd.prog 73 #[.slice pa.ad pa.n pa.c, .slice ph.ad ph.n ph.c] w (MadeS [] 5 1 (8 + pa.n + ph.n) (oct (highL pa.l.length 8 ++ pa.l ++ ph.l)) w) := by
  refine C_enter Tryd.func73 rfl 16 Tryd.ntmps73 (Nat.le_of_ble_eq_true rfl) (fun a F => ?_)
  have H := Hp.start [] w
  replace F : Fm 16 [] [(0, .slice pa.ad pa.n pa.c), (1, .slice ph.ad ph.n ph.c)] a := F.weak _ (subL_of kr);refine C_seqK fun K1 hK1 => C_region ?_;refine T_k F H (.slice none 0 0) ?_;clear F; intro a F;refine wpList_nil (hK1 _ _ ?_);clear hK1;refine C_seqK fun K2 hK2 => C_region ?_;refine T_k F H (.slice pa.ad pa.n pa.c) ?_;clear F; intro a F;refine T_k F H (ni pa.n) ?_;clear F; intro a F;refine T_val F H kr (nu pa.n) (fun w _ => R_conv rfl (k0 := .i64) kr kr (k := .i64) (a := (pa.n : Nat)) kr (wru64 (a := pa.n) (by omega)) w) ?_;clear F; intro a F;refine T_callX (α := SlR) F H kr 50 #[nu pa.n, ni 8] (fun rX => sc rX.g 0 8 rX.cap) (fun rX => [bk rX.g (sl (oct (highL pa.n 8)) rX.rest) 5]) (fun rX => Own (oct (highL pa.n 8)) rX.rest (8) rX.cap 1) (fun w => kr) (fun w H => callsX_newV H (highR_any pa.n 8 (by omega) (by omega) (by omega) _)) ?_;clear F H; intro rq3 a v Qrq3 F H;refine T_k F H (sc rq3.g 0 8 rq3.cap) ?_;clear F; intro a F;refine wpList_nil (hK2 _ _ ?_);clear hK2;refine C_seqK fun K4 hK4 => C_region ?_;refine T_k F H (sc rq3.g 0 8 rq3.cap) ?_;clear F; intro a F;refine T_k F H (.slice pa.ad pa.n pa.c) ?_;clear F; intro a F;refine T_app F H kr 54 5 (.tmp 10) (.tmp 11) rfl 1 1 kr kr 0 rfl Qrq3 kr (pa.n) (oct (pa.l)) (fun w hk hl => (hrda.kept hk (fun _ _ _ _ => List.not_mem_nil))) (by rw [ints_len, Nat.mul_one]; exact hna) (ints_one _ _) (by simp only [maxLen]; omega) (by omega) _ rfl ?_;clear F H; intro rq5 a v Qrq5 F H;refine T_k F H (sc rq5.g 0 (8 + pa.n) rq5.cap) ?_;clear F; intro a F;refine wpList_nil (hK4 _ _ ?_);clear hK4;refine C_seqK fun K6 hK6 => C_region ?_;refine T_k F H (sc rq5.g 0 (8 + pa.n) rq5.cap) ?_;clear F; intro a F;refine T_k F H (.slice ph.ad ph.n ph.c) ?_;clear F; intro a F;refine T_app F H kr 54 5 (.tmp 13) (.tmp 14) rfl 1 1 kr kr 0 rfl Qrq5 kr (ph.n) (oct (ph.l)) (fun w hk hl => (hrdh.kept hk (fun _ _ _ _ => List.not_mem_nil))) (by rw [ints_len, Nat.mul_one]; exact hnh) (ints_one _ _) (by simp only [maxLen]; omega) (by omega) _ rfl ?_;clear F H; intro rq7 a v Qrq7 F H;refine T_k F H (sc rq7.g 0 ((8 + pa.n) + ph.n) rq7.cap) ?_;clear F; intro a F;refine wpList_nil (hK6 _ _ ?_);clear hK6
  have hcs : ((oct (highL pa.n 8)) ++ (oct (pa.l))) ++ (oct (ph.l)) = oct (highL pa.l.length 8 ++ pa.l ++ ph.l) := by rw [hna]; simp [ints]
  have hml : ((8 + pa.n) + ph.n) = 8 + pa.n + ph.n := by omega
  rw [hcs] at H Qrq7
  rw [hml] at F Qrq7
  replace F : Fm 16 [] [(4, sc rq7.g 0 (8 + pa.n + ph.n) rq7.cap)] a := F.weak _ (subL_of kr);refine wp_ret ?_
  exact C_ret F H (rs := [.tmp 4]) rfl (vs := [sc rq7.g 0 (8 + pa.n + ph.n) rq7.cap]) (.tmp rfl .nil) (sc rq7.g 0 (8 + pa.n + ph.n) rq7.cap) rfl (made_ret H (k := 0) rfl Qrq7)

end Go.Proofs.YtdejhenkdbjakaaDoor
