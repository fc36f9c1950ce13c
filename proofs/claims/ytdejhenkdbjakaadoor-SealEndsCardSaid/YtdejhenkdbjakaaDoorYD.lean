/- Walks: a block of the stream, by the reference. -/
import Derived.Test.YtdejhenkdbjakaaDoorYC
set_option linter.unusedVariables false
set_option linter.unusedSimpArgs false
namespace Go.Proofs.YtdejhenkdbjakaaDoor
open Go Go.RowKit
theorem i_mul32 {a b : Nat} (h : a * b < 4294967296) : intRes .mul .u32 (a : Int) (b : Int) = some (.int .u32 ((a * b : Nat) : Int)) := by
  have e : ((a : Int) * (b : Int)) = ((a * b : Nat) : Int) := by push_cast; rfl
  simp only [intRes]
  rw [e, wru32 h]
theorem word_sum {b : Nat → Nat} (h : ∀ i, b i < 256) (off : Nat) : add32 (add32 (add32 (b (off + 0)) (b (off + 1) * 256)) (b (off + 2) * 65536)) (b (off + 3) * 16777216) = loS b off 4 := by
  have h0 := h (off + 0); have h1 := h (off + 1); have h2 := h (off + 2); have h3 := h (off + 3)
  simp only [loS, add32]
  omega

set_option maxRecDepth 100000 in
set_option maxHeartbeats 4000000 in
theorem word_any (bl : Nat → Nat) (hbl : ∀ i, bl i < 256) (ad off cp : Nat) (arr : Array Value) (ty : Nat) (ha : ∀ j, j < 4 → arr[off + j]? = some (.int .u8 ((bl (off + j) : Nat) : Int))) (w : World) (hblk : w.heap[ad]? = some (.cells arr ty (0, 0))) : Calls Tryd.prog 107 #[.slice (some ⟨ad, off, none⟩) 4 cp] w fun e w' => e = .returned (.int .u32 ((loS bl off 4 : Nat) : Int)) ∧ Kept [] w w' := by
  have h0 := hbl (off + 0)
  have h1 := hbl (off + 1)
  have h2 := hbl (off + 2)
  have h3 := hbl (off + 3)
  refine C_enter Tryd.func107 rfl 25 Tryd.ntmps107 (Nat.le_of_ble_eq_true rfl) (fun a F => ?_)
  have H := Hp.start1 [] hblk
  replace F : Fm 25 [] [(0, sc ad off 4 cp)] a := F.weak _ (subL_of kr)
  refine C_seqK (fun K1 hK1 => ?_)
  refine C_region ?_
  refine T_k F H (nw 0) ?_
  clear F; intro a F
  refine wpList_nil ?_
  refine hK1 _ _ ?_
  clear hK1
  try clear K1
  refine C_seqK (fun K2 hK2 => ?_)
  refine E_region F H (fun β => [(3, sc ad off 4 cp), (4, pt ad (off + (0) * 1)), (5, nb (bl (off + 0))), (6, nw (bl (off + 0))), (7, sc ad off 4 cp), (8, pt ad (off + (1) * 1)), (9, nb (bl (off + 1))), (10, nw (bl (off + 1))), (11, nw (bl (off + 1) * 256)), (12, nw (add32 (bl (off + 0)) ((bl (off + 1) * 256)))), (13, sc ad off 4 cp), (14, pt ad (off + (2) * 1)), (15, nb (bl (off + 2))), (16, nw (bl (off + 2))), (17, nw (bl (off + 2) * 65536)), (18, nw (add32 (add32 (bl (off + 0)) ((bl (off + 1) * 256))) ((bl (off + 2) * 65536)))), (19, sc ad off 4 cp), (20, pt ad (off + (3) * 1)), (21, nb (bl (off + 3))), (22, nw (bl (off + 3))), (23, nw (bl (off + 3) * 16777216)), (24, nw (loS bl off 4)), (2, nw (loS bl off 4))]) [3, 4, 5, 6, 7, 8, 9, 10, 11, 12, 13, 14, 15, 16, 17, 18, 19, 20, 21, 22, 23, 24, 2] [] [br ad arr ty] [0] 2 [] kr kr kr (fun β => rfl) trivial ⟨?_, ?_, ?_, ?_, ?_, ?_, ?_, ?_, ?_, ?_, ?_, ?_, ?_, ?_, ?_, ?_, ?_, ?_, ?_, ?_, ?_, ?_, ?_, trivial⟩ ?_
  · exact E_k 25 (fun β => sc ad off 4 cp) 3 2
  · exact E_v 25 (fun β => pt ad (off + (0) * 1)) 4 2 [] (fun β w hk hl hq => R_indexS (k := .i64) (g := ad) (off := off) (len := 4) (cap := cp) (x := (.tmp 3)) (y := (.const (.int .i64 0))) rfl Tryd.underlying54 kr (0) kr (by omega) (sz := 1) kr w)
  · exact E_v 25 (fun β => nb (bl (off + 0))) 5 2 [] (fun β w hk hl hq => R_cellH hl  0 rfl 5 (.tmp 4) rfl (off + (0) * 1) kr (nb (bl (off + 0))) ((congrArg (fun q => (arr)[q]?) (show (off + (0) * 1) = off + (0) by omega)).trans (ha (0) (by omega))) _ Tryd.underlying5 rfl)
  · exact E_v 25 (fun β => nw (bl (off + 0))) 6 2 [] (fun β w hk hl hq => R_conv (x := (.tmp 5)) rfl (k0 := .u8) kr kr (k := .u8) (a := ((bl (off + 0) : Nat) : Int)) kr (wru32 (a := bl (off + 0)) (by omega)) w)
  · exact E_k 25 (fun β => sc ad off 4 cp) 7 2
  · exact E_v 25 (fun β => pt ad (off + (1) * 1)) 8 2 [] (fun β w hk hl hq => R_indexS (k := .i64) (g := ad) (off := off) (len := 4) (cap := cp) (x := (.tmp 7)) (y := (.const (.int .i64 1))) rfl Tryd.underlying54 kr (1) kr (by omega) (sz := 1) kr w)
  · exact E_v 25 (fun β => nb (bl (off + 1))) 9 2 [] (fun β w hk hl hq => R_cellH hl  0 rfl 5 (.tmp 8) rfl (off + (1) * 1) kr (nb (bl (off + 1))) ((congrArg (fun q => (arr)[q]?) (show (off + (1) * 1) = off + (1) by omega)).trans (ha (1) (by omega))) _ Tryd.underlying5 rfl)
  · exact E_v 25 (fun β => nw (bl (off + 1))) 10 2 [] (fun β w hk hl hq => R_conv (x := (.tmp 9)) rfl (k0 := .u8) kr kr (k := .u8) (a := ((bl (off + 1) : Nat) : Int)) kr (wru32 (a := bl (off + 1)) (by omega)) w)
  · exact E_v 25 (fun β => nw (bl (off + 1) * 256)) 11 2 [] (fun β w hk hl hq => R_bin (x := (.tmp 10)) (y := (.const (.int .u32 256))) rfl (k := .u32) (a := ((bl (off + 1) : Nat) : Int)) (b := ((256 : Nat) : Int)) kr kr (i_mul32 (a := bl (off + 1)) (b := 256) (by omega)) w)
  · exact E_v 25 (fun β => nw (add32 (bl (off + 0)) ((bl (off + 1) * 256)))) 12 2 [] (fun β w hk hl hq => R_bin (x := (.tmp 6)) (y := (.tmp 11)) rfl (k := .u32) (a := ((bl (off + 0) : Nat) : Int)) (b := (((bl (off + 1) * 256) : Nat) : Int)) kr kr (i_add32 (a := bl (off + 0)) (b := (bl (off + 1) * 256))) w)
  · exact E_k 25 (fun β => sc ad off 4 cp) 13 2
  · exact E_v 25 (fun β => pt ad (off + (2) * 1)) 14 2 [] (fun β w hk hl hq => R_indexS (k := .i64) (g := ad) (off := off) (len := 4) (cap := cp) (x := (.tmp 13)) (y := (.const (.int .i64 2))) rfl Tryd.underlying54 kr (2) kr (by omega) (sz := 1) kr w)
  · exact E_v 25 (fun β => nb (bl (off + 2))) 15 2 [] (fun β w hk hl hq => R_cellH hl  0 rfl 5 (.tmp 14) rfl (off + (2) * 1) kr (nb (bl (off + 2))) ((congrArg (fun q => (arr)[q]?) (show (off + (2) * 1) = off + (2) by omega)).trans (ha (2) (by omega))) _ Tryd.underlying5 rfl)
  · exact E_v 25 (fun β => nw (bl (off + 2))) 16 2 [] (fun β w hk hl hq => R_conv (x := (.tmp 15)) rfl (k0 := .u8) kr kr (k := .u8) (a := ((bl (off + 2) : Nat) : Int)) kr (wru32 (a := bl (off + 2)) (by omega)) w)
  · exact E_v 25 (fun β => nw (bl (off + 2) * 65536)) 17 2 [] (fun β w hk hl hq => R_bin (x := (.tmp 16)) (y := (.const (.int .u32 65536))) rfl (k := .u32) (a := ((bl (off + 2) : Nat) : Int)) (b := ((65536 : Nat) : Int)) kr kr (i_mul32 (a := bl (off + 2)) (b := 65536) (by omega)) w)
  · exact E_v 25 (fun β => nw (add32 (add32 (bl (off + 0)) ((bl (off + 1) * 256))) ((bl (off + 2) * 65536)))) 18 2 [] (fun β w hk hl hq => R_bin (x := (.tmp 12)) (y := (.tmp 17)) rfl (k := .u32) (a := ((add32 (bl (off + 0)) ((bl (off + 1) * 256)) : Nat) : Int)) (b := (((bl (off + 2) * 65536) : Nat) : Int)) kr kr (i_add32 (a := add32 (bl (off + 0)) ((bl (off + 1) * 256))) (b := (bl (off + 2) * 65536))) w)
  · exact E_k 25 (fun β => sc ad off 4 cp) 19 2
  · exact E_v 25 (fun β => pt ad (off + (3) * 1)) 20 2 [] (fun β w hk hl hq => R_indexS (k := .i64) (g := ad) (off := off) (len := 4) (cap := cp) (x := (.tmp 19)) (y := (.const (.int .i64 3))) rfl Tryd.underlying54 kr (3) kr (by omega) (sz := 1) kr w)
  · exact E_v 25 (fun β => nb (bl (off + 3))) 21 2 [] (fun β w hk hl hq => R_cellH hl  0 rfl 5 (.tmp 20) rfl (off + (3) * 1) kr (nb (bl (off + 3))) ((congrArg (fun q => (arr)[q]?) (show (off + (3) * 1) = off + (3) by omega)).trans (ha (3) (by omega))) _ Tryd.underlying5 rfl)
  · exact E_v 25 (fun β => nw (bl (off + 3))) 22 2 [] (fun β w hk hl hq => R_conv (x := (.tmp 21)) rfl (k0 := .u8) kr kr (k := .u8) (a := ((bl (off + 3) : Nat) : Int)) kr (wru32 (a := bl (off + 3)) (by omega)) w)
  · exact E_v 25 (fun β => nw (bl (off + 3) * 16777216)) 23 2 [] (fun β w hk hl hq => R_bin (x := (.tmp 22)) (y := (.const (.int .u32 16777216))) rfl (k := .u32) (a := ((bl (off + 3) : Nat) : Int)) (b := ((16777216 : Nat) : Int)) kr kr (i_mul32 (a := bl (off + 3)) (b := 16777216) (by omega)) w)
  · exact E_v 25 (fun β => nw (loS bl off 4)) 24 2 [] (fun β w hk hl hq => R_bin (x := (.tmp 18)) (y := (.tmp 23)) rfl (k := .u32) (a := ((add32 (add32 (bl (off + 0)) ((bl (off + 1) * 256))) ((bl (off + 2) * 65536)) : Nat) : Int)) (b := (((bl (off + 3) * 16777216) : Nat) : Int)) kr kr ((i_add32 (a := add32 (add32 (bl (off + 0)) ((bl (off + 1) * 256))) ((bl (off + 2) * 65536))) (b := (bl (off + 3) * 16777216))).trans (congrArg (fun q : Nat => some (Value.int .u32 (q : Int))) (word_sum hbl off))) w)
  · exact E_k 25 (fun β => nw (loS bl off 4)) 2 2
  clear F H; intro β a v Q F H
  replace H : Hp [] w [br ad arr ty] v := H
  replace F : Fm 25 [] [(2, nw (loS bl off 4)), (24, nw (loS bl off 4)), (23, nw (bl (off + 3) * 16777216)), (22, nw (bl (off + 3))), (21, nb (bl (off + 3))), (20, pt ad (off + (3) * 1)), (19, sc ad off 4 cp), (18, nw (add32 (add32 (bl (off + 0)) ((bl (off + 1) * 256))) ((bl (off + 2) * 65536)))), (17, nw (bl (off + 2) * 65536)), (16, nw (bl (off + 2))), (15, nb (bl (off + 2))), (14, pt ad (off + (2) * 1)), (13, sc ad off 4 cp), (12, nw (add32 (bl (off + 0)) ((bl (off + 1) * 256)))), (11, nw (bl (off + 1) * 256)), (10, nw (bl (off + 1))), (9, nb (bl (off + 1))), (8, pt ad (off + (1) * 1)), (7, sc ad off 4 cp), (6, nw (bl (off + 0))), (5, nb (bl (off + 0))), (4, pt ad (off + (0) * 1)), (3, sc ad off 4 cp), (0, sc ad off 4 cp)] a := F.weak _ (subL_of kr)
  clear Q
  refine ?_
  refine hK2 _ _ ?_
  clear hK2
  try clear K2
  refine wp_ret ?_
  exact C_ret F H (rs := [.tmp 2]) rfl (vs := [nw (loS bl off 4)]) (.tmp rfl .nil) (nw (loS bl off 4)) rfl ⟨rfl, H.kept⟩

set_option maxRecDepth 100000 in
set_option maxHeartbeats 4000000 in
theorem lcblock_any (key : Nat → Nat) (hkey : ∀ i, key i < 256) (ct : Nat) (hct : ct < 4294967296) (nc : Nat → Nat) (hnc : ∀ i, nc i < 256) (w : World) : Calls Tryd.prog 93 #[.agg (arrF .u8 32 key), .int .u32 ((ct : Nat) : Int), .agg (arrF .u8 12 nc)] w fun e w' => e = .returned (.agg (arrF .u8 64 (ccF key ct nc))) ∧ Kept [] w w' := by
  have hfl := fW_lt hkey hct hnc
  have hpl := fP_lt hkey hct hnc
  obtain ⟨fw, hfw⟩ : ∃ fw, fw = fW key ct nc := ⟨_, rfl⟩
  have hcb : ∀ m, (add32 (rn fw 10 (m / 4)) (fw (m / 4)) >>> (8 * (m % 4))) % 256 = ccF key ct nc m := fun m => by rw [hfw]; rfl
  have hfa := fP_all key ct nc
  rw [← hfw] at hfl hfa
  refine C_enter Tryd.func93 rfl 105 Tryd.ntmps93 (Nat.le_of_ble_eq_true rfl) (fun a F => ?_)
  have H := Hp.start [] w
  replace F : Fm 105 [] [(0, kyV key), (1, nw ct), (2, .agg (arrF .u8 12 nc))] a := F.weak _ (subL_of kr)
  refine C_seqK (fun K1 hK1 => ?_)
  refine C_region ?_
  refine T_new F H kr (fun ad => pt ad 0) (ce (arrF .u8 32 key) 23) (fun w => kr) ?_
  clear F H; intro aq2 a v F H
  refine T_new F H kr (fun ad => pt ad 0) (ce (arrF .u8 12 nc) 121) (fun w => kr) ?_
  clear F H; intro aq3 a v F H
  refine T_new F H kr (fun ad => pt ad 0) (ce #[.int .u8 0, .int .u8 0, .int .u8 0, .int .u8 0, .int .u8 0, .int .u8 0, .int .u8 0, .int .u8 0, .int .u8 0, .int .u8 0, .int .u8 0, .int .u8 0, .int .u8 0, .int .u8 0, .int .u8 0, .int .u8 0, .int .u8 0, .int .u8 0, .int .u8 0, .int .u8 0, .int .u8 0, .int .u8 0, .int .u8 0, .int .u8 0, .int .u8 0, .int .u8 0, .int .u8 0, .int .u8 0, .int .u8 0, .int .u8 0, .int .u8 0, .int .u8 0, .int .u8 0, .int .u8 0, .int .u8 0, .int .u8 0, .int .u8 0, .int .u8 0, .int .u8 0, .int .u8 0, .int .u8 0, .int .u8 0, .int .u8 0, .int .u8 0, .int .u8 0, .int .u8 0, .int .u8 0, .int .u8 0, .int .u8 0, .int .u8 0, .int .u8 0, .int .u8 0, .int .u8 0, .int .u8 0, .int .u8 0, .int .u8 0, .int .u8 0, .int .u8 0, .int .u8 0, .int .u8 0, .int .u8 0, .int .u8 0, .int .u8 0, .int .u8 0] 140) (fun w => kr) ?_
  clear F H; intro aq4 a v F H
  refine wpList_nil ?_
  refine hK1 _ _ ?_
  clear hK1
  try clear K1
  refine C_seqK (fun K5 hK5 => ?_)
  refine C_region ?_
  refine T_k F H (.agg (arrF .u32 16 (fP key ct nc 4))) ?_
  clear F; intro a F
  refine T_new F H kr (fun ad => pt ad 0) (ce #[.int .u32 0, .int .u32 0, .int .u32 0, .int .u32 0, .int .u32 0, .int .u32 0, .int .u32 0, .int .u32 0, .int .u32 0, .int .u32 0, .int .u32 0, .int .u32 0, .int .u32 0, .int .u32 0, .int .u32 0, .int .u32 0] 156) (fun w => kr) ?_
  clear F H; intro aq6 a v F H
  refine T_set F H kr rfl 0 rfl (arrF .u32 16 (fP key ct nc 4)) (S_row 0 rfl 156 (.tmp 7) (.tmp 16) rfl kr (arrF .u32 16 (fP key ct nc 4)) kr (by rw [arrF_size]; kernel_rfl) (by rw [arrF_size]; kernel_rfl) (arrF_one _ _ _)) [bk aq6 (arrF .u32 16 (fP key ct nc 4)) 156, bk aq4 #[.int .u8 0, .int .u8 0, .int .u8 0, .int .u8 0, .int .u8 0, .int .u8 0, .int .u8 0, .int .u8 0, .int .u8 0, .int .u8 0, .int .u8 0, .int .u8 0, .int .u8 0, .int .u8 0, .int .u8 0, .int .u8 0, .int .u8 0, .int .u8 0, .int .u8 0, .int .u8 0, .int .u8 0, .int .u8 0, .int .u8 0, .int .u8 0, .int .u8 0, .int .u8 0, .int .u8 0, .int .u8 0, .int .u8 0, .int .u8 0, .int .u8 0, .int .u8 0, .int .u8 0, .int .u8 0, .int .u8 0, .int .u8 0, .int .u8 0, .int .u8 0, .int .u8 0, .int .u8 0, .int .u8 0, .int .u8 0, .int .u8 0, .int .u8 0, .int .u8 0, .int .u8 0, .int .u8 0, .int .u8 0, .int .u8 0, .int .u8 0, .int .u8 0, .int .u8 0, .int .u8 0, .int .u8 0, .int .u8 0, .int .u8 0, .int .u8 0, .int .u8 0, .int .u8 0, .int .u8 0, .int .u8 0, .int .u8 0, .int .u8 0, .int .u8 0] 140, bk aq3 (arrF .u8 12 nc) 121, bk aq2 (arrF .u8 32 key) 23] rfl ?_
  clear F H; intro a v F H
  refine wpList_nil ?_
  refine hK5 _ _ ?_
  clear hK5
  try clear K5
  refine C_seqK (fun K7 hK7 => ?_)
  refine C_seqK (fun K8 hK8 => ?_)
  refine C_region ?_
  refine T_k F H (ni 0) ?_
  clear F; intro a F
  refine wpList_nil ?_
  replace F : Fm 105 [] [(8, ni 0), (7, pt aq6 0), (1, nw ct), (3, pt aq2 0), (5, pt aq3 0), (6, pt aq4 0)] a := F.weak _ (subL_of kr)
  replace H : Hp [] w [bk aq6 (arrF .u32 16 (fP key ct nc 4)) 156, bk aq2 (arrF .u8 32 key) 23, bk aq3 (arrF .u8 12 nc) 121, bk aq4 #[.int .u8 0, .int .u8 0, .int .u8 0, .int .u8 0, .int .u8 0, .int .u8 0, .int .u8 0, .int .u8 0, .int .u8 0, .int .u8 0, .int .u8 0, .int .u8 0, .int .u8 0, .int .u8 0, .int .u8 0, .int .u8 0, .int .u8 0, .int .u8 0, .int .u8 0, .int .u8 0, .int .u8 0, .int .u8 0, .int .u8 0, .int .u8 0, .int .u8 0, .int .u8 0, .int .u8 0, .int .u8 0, .int .u8 0, .int .u8 0, .int .u8 0, .int .u8 0, .int .u8 0, .int .u8 0, .int .u8 0, .int .u8 0, .int .u8 0, .int .u8 0, .int .u8 0, .int .u8 0, .int .u8 0, .int .u8 0, .int .u8 0, .int .u8 0, .int .u8 0, .int .u8 0, .int .u8 0, .int .u8 0, .int .u8 0, .int .u8 0, .int .u8 0, .int .u8 0, .int .u8 0, .int .u8 0, .int .u8 0, .int .u8 0, .int .u8 0, .int .u8 0, .int .u8 0, .int .u8 0, .int .u8 0, .int .u8 0, .int .u8 0, .int .u8 0] 140] v := H.pick [0, 3, 2, 1] kr _ rfl
  refine hK8 _ _ ?_
  clear hK8
  try clear K8
  refine wp_block ?_
  refine C_loop (fun m a v => ∃ k, k + m = 8 ∧ Fm 105 [] [(8, ni k), (7, pt aq6 0), (1, nw ct), (3, pt aq2 0), (5, pt aq3 0), (6, pt aq4 0)] a ∧ Hp [] w [bk aq6 (arrF .u32 16 (fP key ct nc (4 + k))) 156, bk aq2 (arrF .u8 32 key) 23, bk aq3 (arrF .u8 12 nc) 121, bk aq4 #[.int .u8 0, .int .u8 0, .int .u8 0, .int .u8 0, .int .u8 0, .int .u8 0, .int .u8 0, .int .u8 0, .int .u8 0, .int .u8 0, .int .u8 0, .int .u8 0, .int .u8 0, .int .u8 0, .int .u8 0, .int .u8 0, .int .u8 0, .int .u8 0, .int .u8 0, .int .u8 0, .int .u8 0, .int .u8 0, .int .u8 0, .int .u8 0, .int .u8 0, .int .u8 0, .int .u8 0, .int .u8 0, .int .u8 0, .int .u8 0, .int .u8 0, .int .u8 0, .int .u8 0, .int .u8 0, .int .u8 0, .int .u8 0, .int .u8 0, .int .u8 0, .int .u8 0, .int .u8 0, .int .u8 0, .int .u8 0, .int .u8 0, .int .u8 0, .int .u8 0, .int .u8 0, .int .u8 0, .int .u8 0, .int .u8 0, .int .u8 0, .int .u8 0, .int .u8 0, .int .u8 0, .int .u8 0, .int .u8 0, .int .u8 0, .int .u8 0, .int .u8 0, .int .u8 0, .int .u8 0, .int .u8 0, .int .u8 0, .int .u8 0, .int .u8 0] 140] v) (8) ⟨0, Nat.zero_add _, F, H⟩ ?_
  clear F H
  intro m a v ⟨k, hk, F, H⟩
  rcases m with _ | m
  rotate_left
  · skip
    have hlo := loS4_lt hkey (0 + 4 * k)
    refine C_seqK (fun K9 hK9 => ?_)
    refine C_seqK (fun K10 hK10 => ?_)
    refine C_region ?_
    refine T_k F H (ni k) ?_
    clear F; intro a F
    refine T_val F H kr (.bool true) (fun w _ => R_bin (x := (.tmp 17)) (y := (.const (.int .i64 8))) rfl (k := .i64) (a := ((k : Nat) : Int)) (b := ((8 : Nat) : Int)) kr kr (i_lt (by omega)) w) ?_
    clear F; intro a F
    refine wpList_nil ?_
    refine hK10 _ _ ?_
    clear hK10
    try clear K10
    refine C_if F true rfl rfl ?_
    refine wp_skip ?_
    refine hK9 _ _ ?_
    clear hK9
    try clear K9
    refine C_seqK (fun K11 hK11 => ?_)
    refine wp_block ?_
    refine C_region ?_
    refine T_k F H (ni k) ?_
    clear F; intro a F
    refine T_val F H kr (ni (4 + k)) (fun w _ => R_bin (x := (.const (.int .i64 4))) (y := (.tmp 21)) rfl (k := .i64) (a := ((4 : Nat) : Int)) (b := ((k : Nat) : Int)) kr kr (i_addn64 (a := 4) (b := k) (by omega)) w) ?_
    clear F; intro a F
    refine T_k F H (ni k) ?_
    clear F; intro a F
    refine T_val F H kr (ni (4 * k)) (fun w _ => R_bin (x := (.const (.int .i64 4))) (y := (.tmp 23)) rfl (k := .i64) (a := ((4 : Nat) : Int)) (b := ((k : Nat) : Int)) kr kr (i_muln64 (a := 4) (b := k) (by omega)) w) ?_
    clear F; intro a F
    refine T_k F H (ni k) ?_
    clear F; intro a F
    refine T_val F H kr (ni (4 * k)) (fun w _ => R_bin (x := (.const (.int .i64 4))) (y := (.tmp 25)) rfl (k := .i64) (a := ((4 : Nat) : Int)) (b := ((k : Nat) : Int)) kr kr (i_muln64 (a := 4) (b := k) (by omega)) w) ?_
    clear F; intro a F
    refine T_val F H kr (ni ((4 * k) + 4)) (fun w _ => R_bin (x := (.tmp 26)) (y := (.const (.int .i64 4))) rfl (k := .i64) (a := (((4 * k) : Nat) : Int)) (b := ((4 : Nat) : Int)) kr kr (i_addn64 (a := (4 * k)) (b := 4) (by omega)) w) ?_
    clear F; intro a F
    refine T_val F H kr (sc aq2 (0 + 4 * k) 4 (32 - 4 * k)) (fun w _ => (R_sliceA (x := (.tmp 3)) (ylo := (.tmp 24)) (yhi := (.tmp 27)) rfl Tryd.underlying23 (g := aq2) (off := 0) kr (k1 := .i64) (k2 := .i64) (4 * k) (4 * k + 4) kr kr (by omega) (by omega) (by omega) kr w).trans (by rw [show 4 * k + 4 - 4 * k = 4 by omega])) ?_
    clear F; intro a F
    refine T_call F H kr 107 #[sc aq2 (0 + 4 * k) 4 (32 - 4 * k)] (nw (loS key (0 + 4 * k) 4)) (fun w => kr) (word_any key hkey _ (0 + 4 * k) (32 - 4 * k) _ 23 (fun j hj => arrF_get key (by omega)) _ (H.at_ (k := 1) rfl)) ?_
    clear F H; intro a v F H
    refine T_val F H kr (pt aq6 (0 + ((4 + k)) * 1)) (fun w _ => R_index (k := .i64) (g := aq6) (off := 0) (x := (.tmp 7)) (y := (.tmp 22)) rfl Tryd.underlying156 kr ((4 + k)) kr (by omega) (sz := 1) kr w) ?_
    clear F; intro a F
    refine T_set F H kr rfl 0 rfl _ (S_cell 0 rfl 53 (.tmp 30) (.tmp 29) rfl (0 + ((4 + k)) * 1) kr (nw (loS key (0 + 4 * k) 4)) kr rfl (by rw [arrF_size]; omega) _ Tryd.underlying53 rfl kr) [bk aq6 (arrF .u32 16 (upd (fP key ct nc (4 + k)) ((4 + k)) (loS key (0 + 4 * k) 4))) 156, bk aq2 (arrF .u8 32 key) 23, bk aq3 (arrF .u8 12 nc) 121, bk aq4 #[.int .u8 0, .int .u8 0, .int .u8 0, .int .u8 0, .int .u8 0, .int .u8 0, .int .u8 0, .int .u8 0, .int .u8 0, .int .u8 0, .int .u8 0, .int .u8 0, .int .u8 0, .int .u8 0, .int .u8 0, .int .u8 0, .int .u8 0, .int .u8 0, .int .u8 0, .int .u8 0, .int .u8 0, .int .u8 0, .int .u8 0, .int .u8 0, .int .u8 0, .int .u8 0, .int .u8 0, .int .u8 0, .int .u8 0, .int .u8 0, .int .u8 0, .int .u8 0, .int .u8 0, .int .u8 0, .int .u8 0, .int .u8 0, .int .u8 0, .int .u8 0, .int .u8 0, .int .u8 0, .int .u8 0, .int .u8 0, .int .u8 0, .int .u8 0, .int .u8 0, .int .u8 0, .int .u8 0, .int .u8 0, .int .u8 0, .int .u8 0, .int .u8 0, .int .u8 0, .int .u8 0, .int .u8 0, .int .u8 0, .int .u8 0, .int .u8 0, .int .u8 0, .int .u8 0, .int .u8 0, .int .u8 0, .int .u8 0, .int .u8 0, .int .u8 0] 140] (by rw [show (0 + ((4 + k)) * 1) = (4 + k) by omega, arrF_upd _ (by omega)]; rfl) ?_
    clear F H; intro a v F H
    refine wpList_nil ?_
    rw [show loS key (0 + 4 * k) 4 = loS key (4 * k) 4 by rw [Nat.zero_add], fP_key key ct nc (by omega)] at H
    refine hK11 _ _ ?_
    clear hK11
    try clear K11
    refine C_region ?_
    refine T_k F H (ni k) ?_
    clear F; intro a F
    refine T_val F H kr (ni (k + 1)) (fun w _ => R_bin (x := (.tmp 19)) (y := (.const (.int .i64 1))) rfl (k := .i64) (a := ((k : Nat) : Int)) (b := ((1 : Nat) : Int)) kr kr (i_addn64 (a := k) (b := 1) (by omega)) w) ?_
    clear F; intro a F
    refine T_k F H (ni (k + 1)) ?_
    clear F; intro a F
    refine wpList_nil ?_
    replace F : Fm 105 [] [(8, ni (k + 1)), (7, pt aq6 0), (1, nw ct), (3, pt aq2 0), (5, pt aq3 0), (6, pt aq4 0)] a := F.weak _ (subL_of kr)
    replace H : Hp [] w [bk aq6 (arrF .u32 16 (fP key ct nc (4 + (k + 1)))) 156, bk aq2 (arrF .u8 32 key) 23, bk aq3 (arrF .u8 12 nc) 121, bk aq4 #[.int .u8 0, .int .u8 0, .int .u8 0, .int .u8 0, .int .u8 0, .int .u8 0, .int .u8 0, .int .u8 0, .int .u8 0, .int .u8 0, .int .u8 0, .int .u8 0, .int .u8 0, .int .u8 0, .int .u8 0, .int .u8 0, .int .u8 0, .int .u8 0, .int .u8 0, .int .u8 0, .int .u8 0, .int .u8 0, .int .u8 0, .int .u8 0, .int .u8 0, .int .u8 0, .int .u8 0, .int .u8 0, .int .u8 0, .int .u8 0, .int .u8 0, .int .u8 0, .int .u8 0, .int .u8 0, .int .u8 0, .int .u8 0, .int .u8 0, .int .u8 0, .int .u8 0, .int .u8 0, .int .u8 0, .int .u8 0, .int .u8 0, .int .u8 0, .int .u8 0, .int .u8 0, .int .u8 0, .int .u8 0, .int .u8 0, .int .u8 0, .int .u8 0, .int .u8 0, .int .u8 0, .int .u8 0, .int .u8 0, .int .u8 0, .int .u8 0, .int .u8 0, .int .u8 0, .int .u8 0, .int .u8 0, .int .u8 0, .int .u8 0, .int .u8 0] 140] v := H
    exact ⟨m, Nat.lt_succ_self m, k + 1, by omega, F, H⟩
  have hkt : k = 8 := by omega
  try rw [hkt] at F
  try rw [hkt] at H
  clear hk
  refine C_seqK (fun K12 hK12 => ?_)
  refine C_seqK (fun K13 hK13 => ?_)
  refine C_region ?_
  refine T_k F H (ni 8) ?_
  clear F; intro a F
  refine T_val F H kr (.bool false) (fun w _ => R_bin (x := (.tmp 17)) (y := (.const (.int .i64 8))) rfl (k := .i64) (a := ((8 : Nat) : Int)) (b := ((8 : Nat) : Int)) kr kr (i_nlt (by omega)) w) ?_
  clear F; intro a F
  refine wpList_nil ?_
  refine hK13 _ _ ?_
  clear hK13
  try clear K13
  refine C_if F false rfl rfl ?_
  refine wp_exit ?_
  refine hK7 _ _ ?_
  clear hK7
  try clear K7
  refine C_seqK (fun K14 hK14 => ?_)
  refine C_region ?_
  refine T_k F H (nw ct) ?_
  clear F; intro a F
  refine T_k F H (pt aq6 12) ?_
  clear F; intro a F
  refine T_set F H kr rfl 0 rfl _ (S_cell 0 rfl 53 (.tmp 32) (.tmp 31) rfl 12 kr (nw ct) kr rfl (Nat.le_of_ble_eq_true rfl) _ Tryd.underlying53 rfl kr) [bk aq6 (arrF .u32 16 (upd (fP key ct nc (4 + 8)) 12 (ct))) 156, bk aq2 (arrF .u8 32 key) 23, bk aq3 (arrF .u8 12 nc) 121, bk aq4 #[.int .u8 0, .int .u8 0, .int .u8 0, .int .u8 0, .int .u8 0, .int .u8 0, .int .u8 0, .int .u8 0, .int .u8 0, .int .u8 0, .int .u8 0, .int .u8 0, .int .u8 0, .int .u8 0, .int .u8 0, .int .u8 0, .int .u8 0, .int .u8 0, .int .u8 0, .int .u8 0, .int .u8 0, .int .u8 0, .int .u8 0, .int .u8 0, .int .u8 0, .int .u8 0, .int .u8 0, .int .u8 0, .int .u8 0, .int .u8 0, .int .u8 0, .int .u8 0, .int .u8 0, .int .u8 0, .int .u8 0, .int .u8 0, .int .u8 0, .int .u8 0, .int .u8 0, .int .u8 0, .int .u8 0, .int .u8 0, .int .u8 0, .int .u8 0, .int .u8 0, .int .u8 0, .int .u8 0, .int .u8 0, .int .u8 0, .int .u8 0, .int .u8 0, .int .u8 0, .int .u8 0, .int .u8 0, .int .u8 0, .int .u8 0, .int .u8 0, .int .u8 0, .int .u8 0, .int .u8 0, .int .u8 0, .int .u8 0, .int .u8 0, .int .u8 0] 140] (by rw [arrF_upd _ (by omega)]; rfl) ?_
  clear F H; intro a v F H
  refine wpList_nil ?_
  replace H : Hp [] w [bk aq6 (arrF .u32 16 (upd (fP key ct nc 12) 12 (ct))) 156, bk aq2 (arrF .u8 32 key) 23, bk aq3 (arrF .u8 12 nc) 121, bk aq4 #[.int .u8 0, .int .u8 0, .int .u8 0, .int .u8 0, .int .u8 0, .int .u8 0, .int .u8 0, .int .u8 0, .int .u8 0, .int .u8 0, .int .u8 0, .int .u8 0, .int .u8 0, .int .u8 0, .int .u8 0, .int .u8 0, .int .u8 0, .int .u8 0, .int .u8 0, .int .u8 0, .int .u8 0, .int .u8 0, .int .u8 0, .int .u8 0, .int .u8 0, .int .u8 0, .int .u8 0, .int .u8 0, .int .u8 0, .int .u8 0, .int .u8 0, .int .u8 0, .int .u8 0, .int .u8 0, .int .u8 0, .int .u8 0, .int .u8 0, .int .u8 0, .int .u8 0, .int .u8 0, .int .u8 0, .int .u8 0, .int .u8 0, .int .u8 0, .int .u8 0, .int .u8 0, .int .u8 0, .int .u8 0, .int .u8 0, .int .u8 0, .int .u8 0, .int .u8 0, .int .u8 0, .int .u8 0, .int .u8 0, .int .u8 0, .int .u8 0, .int .u8 0, .int .u8 0, .int .u8 0, .int .u8 0, .int .u8 0, .int .u8 0, .int .u8 0] 140] v := H
  rw [fP_ct] at H
  refine hK14 _ _ ?_
  clear hK14
  try clear K14
  refine C_seqK (fun K15 hK15 => ?_)
  refine C_seqK (fun K16 hK16 => ?_)
  refine C_region ?_
  refine T_k F H (ni 0) ?_
  clear F; intro a F
  refine wpList_nil ?_
  replace F : Fm 105 [] [(9, ni 0), (7, pt aq6 0), (5, pt aq3 0), (6, pt aq4 0)] a := F.weak _ (subL_of kr)
  replace H : Hp [] w [bk aq6 (arrF .u32 16 (fP key ct nc (13 + 0))) 156, bk aq2 (arrF .u8 32 key) 23, bk aq3 (arrF .u8 12 nc) 121, bk aq4 #[.int .u8 0, .int .u8 0, .int .u8 0, .int .u8 0, .int .u8 0, .int .u8 0, .int .u8 0, .int .u8 0, .int .u8 0, .int .u8 0, .int .u8 0, .int .u8 0, .int .u8 0, .int .u8 0, .int .u8 0, .int .u8 0, .int .u8 0, .int .u8 0, .int .u8 0, .int .u8 0, .int .u8 0, .int .u8 0, .int .u8 0, .int .u8 0, .int .u8 0, .int .u8 0, .int .u8 0, .int .u8 0, .int .u8 0, .int .u8 0, .int .u8 0, .int .u8 0, .int .u8 0, .int .u8 0, .int .u8 0, .int .u8 0, .int .u8 0, .int .u8 0, .int .u8 0, .int .u8 0, .int .u8 0, .int .u8 0, .int .u8 0, .int .u8 0, .int .u8 0, .int .u8 0, .int .u8 0, .int .u8 0, .int .u8 0, .int .u8 0, .int .u8 0, .int .u8 0, .int .u8 0, .int .u8 0, .int .u8 0, .int .u8 0, .int .u8 0, .int .u8 0, .int .u8 0, .int .u8 0, .int .u8 0, .int .u8 0, .int .u8 0, .int .u8 0] 140] v := H
  refine hK16 _ _ ?_
  clear hK16
  try clear K16
  refine wp_block ?_
  refine C_loop (fun m a v => ∃ k, k + m = 3 ∧ Fm 105 [] [(9, ni k), (7, pt aq6 0), (5, pt aq3 0), (6, pt aq4 0)] a ∧ Hp [] w [bk aq6 (arrF .u32 16 (fP key ct nc (13 + k))) 156, bk aq2 (arrF .u8 32 key) 23, bk aq3 (arrF .u8 12 nc) 121, bk aq4 #[.int .u8 0, .int .u8 0, .int .u8 0, .int .u8 0, .int .u8 0, .int .u8 0, .int .u8 0, .int .u8 0, .int .u8 0, .int .u8 0, .int .u8 0, .int .u8 0, .int .u8 0, .int .u8 0, .int .u8 0, .int .u8 0, .int .u8 0, .int .u8 0, .int .u8 0, .int .u8 0, .int .u8 0, .int .u8 0, .int .u8 0, .int .u8 0, .int .u8 0, .int .u8 0, .int .u8 0, .int .u8 0, .int .u8 0, .int .u8 0, .int .u8 0, .int .u8 0, .int .u8 0, .int .u8 0, .int .u8 0, .int .u8 0, .int .u8 0, .int .u8 0, .int .u8 0, .int .u8 0, .int .u8 0, .int .u8 0, .int .u8 0, .int .u8 0, .int .u8 0, .int .u8 0, .int .u8 0, .int .u8 0, .int .u8 0, .int .u8 0, .int .u8 0, .int .u8 0, .int .u8 0, .int .u8 0, .int .u8 0, .int .u8 0, .int .u8 0, .int .u8 0, .int .u8 0, .int .u8 0, .int .u8 0, .int .u8 0, .int .u8 0, .int .u8 0] 140] v) (3) ⟨0, Nat.zero_add _, F, H⟩ ?_
  clear F H
  intro m a v ⟨k, hk, F, H⟩
  rcases m with _ | m
  rotate_left
  · skip
    have hlo := loS4_lt hnc (0 + 4 * k)
    refine C_seqK (fun K17 hK17 => ?_)
    refine C_seqK (fun K18 hK18 => ?_)
    refine C_region ?_
    refine T_k F H (ni k) ?_
    clear F; intro a F
    refine T_val F H kr (.bool true) (fun w _ => R_bin (x := (.tmp 33)) (y := (.const (.int .i64 3))) rfl (k := .i64) (a := ((k : Nat) : Int)) (b := ((3 : Nat) : Int)) kr kr (i_lt (by omega)) w) ?_
    clear F; intro a F
    refine wpList_nil ?_
    refine hK18 _ _ ?_
    clear hK18
    try clear K18
    refine C_if F true rfl rfl ?_
    refine wp_skip ?_
    refine hK17 _ _ ?_
    clear hK17
    try clear K17
    refine C_seqK (fun K19 hK19 => ?_)
    refine wp_block ?_
    refine C_region ?_
    refine T_k F H (ni k) ?_
    clear F; intro a F
    refine T_val F H kr (ni (13 + k)) (fun w _ => R_bin (x := (.const (.int .i64 13))) (y := (.tmp 37)) rfl (k := .i64) (a := ((13 : Nat) : Int)) (b := ((k : Nat) : Int)) kr kr (i_addn64 (a := 13) (b := k) (by omega)) w) ?_
    clear F; intro a F
    refine T_k F H (ni k) ?_
    clear F; intro a F
    refine T_val F H kr (ni (4 * k)) (fun w _ => R_bin (x := (.const (.int .i64 4))) (y := (.tmp 39)) rfl (k := .i64) (a := ((4 : Nat) : Int)) (b := ((k : Nat) : Int)) kr kr (i_muln64 (a := 4) (b := k) (by omega)) w) ?_
    clear F; intro a F
    refine T_k F H (ni k) ?_
    clear F; intro a F
    refine T_val F H kr (ni (4 * k)) (fun w _ => R_bin (x := (.const (.int .i64 4))) (y := (.tmp 41)) rfl (k := .i64) (a := ((4 : Nat) : Int)) (b := ((k : Nat) : Int)) kr kr (i_muln64 (a := 4) (b := k) (by omega)) w) ?_
    clear F; intro a F
    refine T_val F H kr (ni ((4 * k) + 4)) (fun w _ => R_bin (x := (.tmp 42)) (y := (.const (.int .i64 4))) rfl (k := .i64) (a := (((4 * k) : Nat) : Int)) (b := ((4 : Nat) : Int)) kr kr (i_addn64 (a := (4 * k)) (b := 4) (by omega)) w) ?_
    clear F; intro a F
    refine T_val F H kr (sc aq3 (0 + 4 * k) 4 (12 - 4 * k)) (fun w _ => (R_sliceA (x := (.tmp 5)) (ylo := (.tmp 40)) (yhi := (.tmp 43)) rfl Tryd.underlying121 (g := aq3) (off := 0) kr (k1 := .i64) (k2 := .i64) (4 * k) (4 * k + 4) kr kr (by omega) (by omega) (by omega) kr w).trans (by rw [show 4 * k + 4 - 4 * k = 4 by omega])) ?_
    clear F; intro a F
    refine T_call F H kr 107 #[sc aq3 (0 + 4 * k) 4 (12 - 4 * k)] (nw (loS nc (0 + 4 * k) 4)) (fun w => kr) (word_any nc hnc _ (0 + 4 * k) (12 - 4 * k) _ 121 (fun j hj => arrF_get nc (by omega)) _ (H.at_ (k := 2) rfl)) ?_
    clear F H; intro a v F H
    refine T_val F H kr (pt aq6 (0 + ((13 + k)) * 1)) (fun w _ => R_index (k := .i64) (g := aq6) (off := 0) (x := (.tmp 7)) (y := (.tmp 38)) rfl Tryd.underlying156 kr ((13 + k)) kr (by omega) (sz := 1) kr w) ?_
    clear F; intro a F
    refine T_set F H kr rfl 0 rfl _ (S_cell 0 rfl 53 (.tmp 46) (.tmp 45) rfl (0 + ((13 + k)) * 1) kr (nw (loS nc (0 + 4 * k) 4)) kr rfl (by rw [arrF_size]; omega) _ Tryd.underlying53 rfl kr) [bk aq6 (arrF .u32 16 (upd (fP key ct nc (13 + k)) ((13 + k)) (loS nc (0 + 4 * k) 4))) 156, bk aq2 (arrF .u8 32 key) 23, bk aq3 (arrF .u8 12 nc) 121, bk aq4 #[.int .u8 0, .int .u8 0, .int .u8 0, .int .u8 0, .int .u8 0, .int .u8 0, .int .u8 0, .int .u8 0, .int .u8 0, .int .u8 0, .int .u8 0, .int .u8 0, .int .u8 0, .int .u8 0, .int .u8 0, .int .u8 0, .int .u8 0, .int .u8 0, .int .u8 0, .int .u8 0, .int .u8 0, .int .u8 0, .int .u8 0, .int .u8 0, .int .u8 0, .int .u8 0, .int .u8 0, .int .u8 0, .int .u8 0, .int .u8 0, .int .u8 0, .int .u8 0, .int .u8 0, .int .u8 0, .int .u8 0, .int .u8 0, .int .u8 0, .int .u8 0, .int .u8 0, .int .u8 0, .int .u8 0, .int .u8 0, .int .u8 0, .int .u8 0, .int .u8 0, .int .u8 0, .int .u8 0, .int .u8 0, .int .u8 0, .int .u8 0, .int .u8 0, .int .u8 0, .int .u8 0, .int .u8 0, .int .u8 0, .int .u8 0, .int .u8 0, .int .u8 0, .int .u8 0, .int .u8 0, .int .u8 0, .int .u8 0, .int .u8 0, .int .u8 0] 140] (by rw [show (0 + ((13 + k)) * 1) = (13 + k) by omega, arrF_upd _ (by omega)]; rfl) ?_
    clear F H; intro a v F H
    refine wpList_nil ?_
    rw [show loS nc (0 + 4 * k) 4 = loS nc (4 * k) 4 by rw [Nat.zero_add], fP_nc key ct nc (by omega)] at H
    refine hK19 _ _ ?_
    clear hK19
    try clear K19
    refine C_region ?_
    refine T_k F H (ni k) ?_
    clear F; intro a F
    refine T_val F H kr (ni (k + 1)) (fun w _ => R_bin (x := (.tmp 35)) (y := (.const (.int .i64 1))) rfl (k := .i64) (a := ((k : Nat) : Int)) (b := ((1 : Nat) : Int)) kr kr (i_addn64 (a := k) (b := 1) (by omega)) w) ?_
    clear F; intro a F
    refine T_k F H (ni (k + 1)) ?_
    clear F; intro a F
    refine wpList_nil ?_
    replace F : Fm 105 [] [(9, ni (k + 1)), (7, pt aq6 0), (5, pt aq3 0), (6, pt aq4 0)] a := F.weak _ (subL_of kr)
    replace H : Hp [] w [bk aq6 (arrF .u32 16 (fP key ct nc (13 + (k + 1)))) 156, bk aq2 (arrF .u8 32 key) 23, bk aq3 (arrF .u8 12 nc) 121, bk aq4 #[.int .u8 0, .int .u8 0, .int .u8 0, .int .u8 0, .int .u8 0, .int .u8 0, .int .u8 0, .int .u8 0, .int .u8 0, .int .u8 0, .int .u8 0, .int .u8 0, .int .u8 0, .int .u8 0, .int .u8 0, .int .u8 0, .int .u8 0, .int .u8 0, .int .u8 0, .int .u8 0, .int .u8 0, .int .u8 0, .int .u8 0, .int .u8 0, .int .u8 0, .int .u8 0, .int .u8 0, .int .u8 0, .int .u8 0, .int .u8 0, .int .u8 0, .int .u8 0, .int .u8 0, .int .u8 0, .int .u8 0, .int .u8 0, .int .u8 0, .int .u8 0, .int .u8 0, .int .u8 0, .int .u8 0, .int .u8 0, .int .u8 0, .int .u8 0, .int .u8 0, .int .u8 0, .int .u8 0, .int .u8 0, .int .u8 0, .int .u8 0, .int .u8 0, .int .u8 0, .int .u8 0, .int .u8 0, .int .u8 0, .int .u8 0, .int .u8 0, .int .u8 0, .int .u8 0, .int .u8 0, .int .u8 0, .int .u8 0, .int .u8 0, .int .u8 0] 140] v := H
    exact ⟨m, Nat.lt_succ_self m, k + 1, by omega, F, H⟩
  have hkt : k = 3 := by omega
  try rw [hkt] at F
  try rw [hkt] at H
  clear hk
  refine C_seqK (fun K20 hK20 => ?_)
  refine C_seqK (fun K21 hK21 => ?_)
  refine C_region ?_
  refine T_k F H (ni 3) ?_
  clear F; intro a F
  refine T_val F H kr (.bool false) (fun w _ => R_bin (x := (.tmp 33)) (y := (.const (.int .i64 3))) rfl (k := .i64) (a := ((3 : Nat) : Int)) (b := ((3 : Nat) : Int)) kr kr (i_nlt (by omega)) w) ?_
  clear F; intro a F
  refine wpList_nil ?_
  refine hK21 _ _ ?_
  clear hK21
  try clear K21
  refine C_if F false rfl rfl ?_
  refine wp_exit ?_
  refine hK15 _ _ ?_
  clear hK15
  try clear K15
  refine C_seqK (fun K22 hK22 => ?_)
  replace H : Hp [] w [bk aq6 (arrF .u32 16 (fP key ct nc 16)) 156, bk aq2 (arrF .u8 32 key) 23, bk aq3 (arrF .u8 12 nc) 121, bk aq4 #[.int .u8 0, .int .u8 0, .int .u8 0, .int .u8 0, .int .u8 0, .int .u8 0, .int .u8 0, .int .u8 0, .int .u8 0, .int .u8 0, .int .u8 0, .int .u8 0, .int .u8 0, .int .u8 0, .int .u8 0, .int .u8 0, .int .u8 0, .int .u8 0, .int .u8 0, .int .u8 0, .int .u8 0, .int .u8 0, .int .u8 0, .int .u8 0, .int .u8 0, .int .u8 0, .int .u8 0, .int .u8 0, .int .u8 0, .int .u8 0, .int .u8 0, .int .u8 0, .int .u8 0, .int .u8 0, .int .u8 0, .int .u8 0, .int .u8 0, .int .u8 0, .int .u8 0, .int .u8 0, .int .u8 0, .int .u8 0, .int .u8 0, .int .u8 0, .int .u8 0, .int .u8 0, .int .u8 0, .int .u8 0, .int .u8 0, .int .u8 0, .int .u8 0, .int .u8 0, .int .u8 0, .int .u8 0, .int .u8 0, .int .u8 0, .int .u8 0, .int .u8 0, .int .u8 0, .int .u8 0, .int .u8 0, .int .u8 0, .int .u8 0, .int .u8 0] 140] v := H
  rw [hfa] at H
  refine C_region ?_
  refine T_val F H kr (.agg (arrF .u32 16 fw)) (R_load (own := true) (g := aq6) (all := (arrF .u32 16 fw)) (t := 156) (fr := (0, 0)) 0 kr 156 (.tmp 7) rfl 0 kr (arrF .u32 16 fw) (part_all _) _ Tryd.underlying156 rfl (by rw [arrF_size]; kernel_rfl)) ?_
  clear F; intro a F
  refine T_new F H kr (fun ad => pt ad 0) (ce #[.int .u32 0, .int .u32 0, .int .u32 0, .int .u32 0, .int .u32 0, .int .u32 0, .int .u32 0, .int .u32 0, .int .u32 0, .int .u32 0, .int .u32 0, .int .u32 0, .int .u32 0, .int .u32 0, .int .u32 0, .int .u32 0] 156) (fun w => kr) ?_
  clear F H; intro aq23 a v F H
  refine T_set F H kr rfl 0 rfl (arrF .u32 16 fw) (S_row 0 rfl 156 (.tmp 10) (.tmp 47) rfl kr (arrF .u32 16 fw) kr (by rw [arrF_size]; kernel_rfl) (by rw [arrF_size]; kernel_rfl) (arrF_one _ _ _)) [bk aq23 (arrF .u32 16 fw) 156, bk aq6 (arrF .u32 16 fw) 156, bk aq2 (arrF .u8 32 key) 23, bk aq3 (arrF .u8 12 nc) 121, bk aq4 #[.int .u8 0, .int .u8 0, .int .u8 0, .int .u8 0, .int .u8 0, .int .u8 0, .int .u8 0, .int .u8 0, .int .u8 0, .int .u8 0, .int .u8 0, .int .u8 0, .int .u8 0, .int .u8 0, .int .u8 0, .int .u8 0, .int .u8 0, .int .u8 0, .int .u8 0, .int .u8 0, .int .u8 0, .int .u8 0, .int .u8 0, .int .u8 0, .int .u8 0, .int .u8 0, .int .u8 0, .int .u8 0, .int .u8 0, .int .u8 0, .int .u8 0, .int .u8 0, .int .u8 0, .int .u8 0, .int .u8 0, .int .u8 0, .int .u8 0, .int .u8 0, .int .u8 0, .int .u8 0, .int .u8 0, .int .u8 0, .int .u8 0, .int .u8 0, .int .u8 0, .int .u8 0, .int .u8 0, .int .u8 0, .int .u8 0, .int .u8 0, .int .u8 0, .int .u8 0, .int .u8 0, .int .u8 0, .int .u8 0, .int .u8 0, .int .u8 0, .int .u8 0, .int .u8 0, .int .u8 0, .int .u8 0, .int .u8 0, .int .u8 0, .int .u8 0] 140] rfl ?_
  clear F H; intro a v F H
  refine wpList_nil ?_
  refine hK22 _ _ ?_
  clear hK22
  try clear K22
  refine C_seqK (fun K24 hK24 => ?_)
  refine C_seqK (fun K25 hK25 => ?_)
  refine C_region ?_
  refine T_k F H (ni 0) ?_
  clear F; intro a F
  refine wpList_nil ?_
  replace F : Fm 105 [] [(11, ni 0), (7, pt aq6 0), (10, pt aq23 0), (6, pt aq4 0)] a := F.weak _ (subL_of kr)
  replace H : Hp [] w [bk aq23 (arrF .u32 16 fw) 156, bk aq6 (arrF .u32 16 fw) 156, bk aq4 #[.int .u8 0, .int .u8 0, .int .u8 0, .int .u8 0, .int .u8 0, .int .u8 0, .int .u8 0, .int .u8 0, .int .u8 0, .int .u8 0, .int .u8 0, .int .u8 0, .int .u8 0, .int .u8 0, .int .u8 0, .int .u8 0, .int .u8 0, .int .u8 0, .int .u8 0, .int .u8 0, .int .u8 0, .int .u8 0, .int .u8 0, .int .u8 0, .int .u8 0, .int .u8 0, .int .u8 0, .int .u8 0, .int .u8 0, .int .u8 0, .int .u8 0, .int .u8 0, .int .u8 0, .int .u8 0, .int .u8 0, .int .u8 0, .int .u8 0, .int .u8 0, .int .u8 0, .int .u8 0, .int .u8 0, .int .u8 0, .int .u8 0, .int .u8 0, .int .u8 0, .int .u8 0, .int .u8 0, .int .u8 0, .int .u8 0, .int .u8 0, .int .u8 0, .int .u8 0, .int .u8 0, .int .u8 0, .int .u8 0, .int .u8 0, .int .u8 0, .int .u8 0, .int .u8 0, .int .u8 0, .int .u8 0, .int .u8 0, .int .u8 0, .int .u8 0] 140] v := H.pick [0, 1, 4] kr _ rfl
  replace H : Hp [] w [bk aq23 (arrF .u32 16 (rn fw 0)) 156, bk aq6 (arrF .u32 16 fw) 156, bk aq4 #[.int .u8 0, .int .u8 0, .int .u8 0, .int .u8 0, .int .u8 0, .int .u8 0, .int .u8 0, .int .u8 0, .int .u8 0, .int .u8 0, .int .u8 0, .int .u8 0, .int .u8 0, .int .u8 0, .int .u8 0, .int .u8 0, .int .u8 0, .int .u8 0, .int .u8 0, .int .u8 0, .int .u8 0, .int .u8 0, .int .u8 0, .int .u8 0, .int .u8 0, .int .u8 0, .int .u8 0, .int .u8 0, .int .u8 0, .int .u8 0, .int .u8 0, .int .u8 0, .int .u8 0, .int .u8 0, .int .u8 0, .int .u8 0, .int .u8 0, .int .u8 0, .int .u8 0, .int .u8 0, .int .u8 0, .int .u8 0, .int .u8 0, .int .u8 0, .int .u8 0, .int .u8 0, .int .u8 0, .int .u8 0, .int .u8 0, .int .u8 0, .int .u8 0, .int .u8 0, .int .u8 0, .int .u8 0, .int .u8 0, .int .u8 0, .int .u8 0, .int .u8 0, .int .u8 0, .int .u8 0, .int .u8 0, .int .u8 0, .int .u8 0, .int .u8 0] 140] v := H
  refine hK25 _ _ ?_
  clear hK25
  try clear K25
  refine wp_block ?_
  refine C_loop (fun m a v => ∃ k, k + m = 10 ∧ Fm 105 [] [(11, ni k), (7, pt aq6 0), (10, pt aq23 0), (6, pt aq4 0)] a ∧ Hp [] w [bk aq23 (arrF .u32 16 (rn fw k)) 156, bk aq6 (arrF .u32 16 fw) 156, bk aq4 #[.int .u8 0, .int .u8 0, .int .u8 0, .int .u8 0, .int .u8 0, .int .u8 0, .int .u8 0, .int .u8 0, .int .u8 0, .int .u8 0, .int .u8 0, .int .u8 0, .int .u8 0, .int .u8 0, .int .u8 0, .int .u8 0, .int .u8 0, .int .u8 0, .int .u8 0, .int .u8 0, .int .u8 0, .int .u8 0, .int .u8 0, .int .u8 0, .int .u8 0, .int .u8 0, .int .u8 0, .int .u8 0, .int .u8 0, .int .u8 0, .int .u8 0, .int .u8 0, .int .u8 0, .int .u8 0, .int .u8 0, .int .u8 0, .int .u8 0, .int .u8 0, .int .u8 0, .int .u8 0, .int .u8 0, .int .u8 0, .int .u8 0, .int .u8 0, .int .u8 0, .int .u8 0, .int .u8 0, .int .u8 0, .int .u8 0, .int .u8 0, .int .u8 0, .int .u8 0, .int .u8 0, .int .u8 0, .int .u8 0, .int .u8 0, .int .u8 0, .int .u8 0, .int .u8 0, .int .u8 0, .int .u8 0, .int .u8 0, .int .u8 0, .int .u8 0] 140] v) (10) ⟨0, Nat.zero_add _, F, H⟩ ?_
  clear F H
  intro m a v ⟨k, hk, F, H⟩
  rcases m with _ | m
  rotate_left
  · skip
    refine C_seqK (fun K26 hK26 => ?_)
    refine C_seqK (fun K27 hK27 => ?_)
    refine C_region ?_
    refine T_k F H (ni k) ?_
    clear F; intro a F
    refine T_val F H kr (.bool true) (fun w _ => R_bin (x := (.tmp 48)) (y := (.const (.int .i64 10))) rfl (k := .i64) (a := ((k : Nat) : Int)) (b := ((10 : Nat) : Int)) kr kr (i_lt (by omega)) w) ?_
    clear F; intro a F
    refine wpList_nil ?_
    refine hK27 _ _ ?_
    clear hK27
    try clear K27
    refine C_if F true rfl rfl ?_
    refine wp_skip ?_
    refine hK26 _ _ ?_
    clear hK26
    try clear K26
    refine C_seqK (fun K28 hK28 => ?_)
    refine wp_block ?_
    refine C_seqK (fun K29 hK29 => ?_)
    refine C_seqK (fun K30 hK30 => ?_)
    refine C_region ?_
    refine T_k F H (ni 0) ?_
    clear F; intro a F
    refine wpList_nil ?_
    replace F : Fm 105 [] [(12, ni 0), (11, ni k), (7, pt aq6 0), (10, pt aq23 0), (6, pt aq4 0)] a := F.weak _ (subL_of kr)
    replace H : Hp [] w [bk aq23 (arrF .u32 16 (dr (rn fw k) 0)) 156, bk aq6 (arrF .u32 16 fw) 156, bk aq4 #[.int .u8 0, .int .u8 0, .int .u8 0, .int .u8 0, .int .u8 0, .int .u8 0, .int .u8 0, .int .u8 0, .int .u8 0, .int .u8 0, .int .u8 0, .int .u8 0, .int .u8 0, .int .u8 0, .int .u8 0, .int .u8 0, .int .u8 0, .int .u8 0, .int .u8 0, .int .u8 0, .int .u8 0, .int .u8 0, .int .u8 0, .int .u8 0, .int .u8 0, .int .u8 0, .int .u8 0, .int .u8 0, .int .u8 0, .int .u8 0, .int .u8 0, .int .u8 0, .int .u8 0, .int .u8 0, .int .u8 0, .int .u8 0, .int .u8 0, .int .u8 0, .int .u8 0, .int .u8 0, .int .u8 0, .int .u8 0, .int .u8 0, .int .u8 0, .int .u8 0, .int .u8 0, .int .u8 0, .int .u8 0, .int .u8 0, .int .u8 0, .int .u8 0, .int .u8 0, .int .u8 0, .int .u8 0, .int .u8 0, .int .u8 0, .int .u8 0, .int .u8 0, .int .u8 0, .int .u8 0, .int .u8 0, .int .u8 0, .int .u8 0, .int .u8 0] 140] v := H
    refine hK30 _ _ ?_
    clear hK30
    try clear K30
    refine wp_block ?_
    refine C_loop (fun mj a v => ∃ j, j + mj = 4 ∧ Fm 105 [] [(12, ni j), (11, ni k), (7, pt aq6 0), (10, pt aq23 0), (6, pt aq4 0)] a ∧ Hp [] w [bk aq23 (arrF .u32 16 (dr (rn fw k) j)) 156, bk aq6 (arrF .u32 16 fw) 156, bk aq4 #[.int .u8 0, .int .u8 0, .int .u8 0, .int .u8 0, .int .u8 0, .int .u8 0, .int .u8 0, .int .u8 0, .int .u8 0, .int .u8 0, .int .u8 0, .int .u8 0, .int .u8 0, .int .u8 0, .int .u8 0, .int .u8 0, .int .u8 0, .int .u8 0, .int .u8 0, .int .u8 0, .int .u8 0, .int .u8 0, .int .u8 0, .int .u8 0, .int .u8 0, .int .u8 0, .int .u8 0, .int .u8 0, .int .u8 0, .int .u8 0, .int .u8 0, .int .u8 0, .int .u8 0, .int .u8 0, .int .u8 0, .int .u8 0, .int .u8 0, .int .u8 0, .int .u8 0, .int .u8 0, .int .u8 0, .int .u8 0, .int .u8 0, .int .u8 0, .int .u8 0, .int .u8 0, .int .u8 0, .int .u8 0, .int .u8 0, .int .u8 0, .int .u8 0, .int .u8 0, .int .u8 0, .int .u8 0, .int .u8 0, .int .u8 0, .int .u8 0, .int .u8 0, .int .u8 0, .int .u8 0, .int .u8 0, .int .u8 0, .int .u8 0, .int .u8 0] 140] v) (4) ⟨0, Nat.zero_add _, F, H⟩ ?_
    clear F H
    intro mj a v ⟨j, hj, F, H⟩
    rcases mj with _ | mj
    rotate_left
    · skip
      refine C_seqK (fun K31 hK31 => ?_)
      refine C_seqK (fun K32 hK32 => ?_)
      refine C_region ?_
      refine T_k F H (ni j) ?_
      clear F; intro a F
      refine T_val F H kr (.bool true) (fun w _ => R_bin (x := (.tmp 52)) (y := (.const (.int .i64 4))) rfl (k := .i64) (a := ((j : Nat) : Int)) (b := ((4 : Nat) : Int)) kr kr (i_lt (by omega)) w) ?_
      clear F; intro a F
      refine wpList_nil ?_
      refine hK32 _ _ ?_
      clear hK32
      try clear K32
      refine C_if F true rfl rfl ?_
      refine wp_skip ?_
      refine hK31 _ _ ?_
      clear hK31
      try clear K31
      refine C_seqK (fun K33 hK33 => ?_)
      refine wp_block ?_
      refine C_region ?_
      refine T_val F H kr (.agg (arrF .u32 16 (dr (rn fw k) j))) (R_load (own := true) (g := aq23) (all := (arrF .u32 16 (dr (rn fw k) j))) (t := 156) (fr := (0, 0)) 0 kr 156 (.tmp 10) rfl 0 kr (arrF .u32 16 (dr (rn fw k) j)) (part_all _) _ Tryd.underlying156 rfl (by rw [arrF_size]; kernel_rfl)) ?_
      clear F; intro a F
      refine T_k F H (ni j) ?_
      clear F; intro a F
      refine T_k F H (ni j) ?_
      clear F; intro a F
      refine T_val F H kr (ni (4 + j)) (fun w _ => R_bin (x := (.const (.int .i64 4))) (y := (.tmp 58)) rfl (k := .i64) (a := ((4 : Nat) : Int)) (b := ((j : Nat) : Int)) kr kr (i_addn64 (a := 4) (b := j) (by omega)) w) ?_
      clear F; intro a F
      refine T_k F H (ni j) ?_
      clear F; intro a F
      refine T_val F H kr (ni (8 + j)) (fun w _ => R_bin (x := (.const (.int .i64 8))) (y := (.tmp 60)) rfl (k := .i64) (a := ((8 : Nat) : Int)) (b := ((j : Nat) : Int)) kr kr (i_addn64 (a := 8) (b := j) (by omega)) w) ?_
      clear F; intro a F
      refine T_k F H (ni j) ?_
      clear F; intro a F
      refine T_val F H kr (ni (12 + j)) (fun w _ => R_bin (x := (.const (.int .i64 12))) (y := (.tmp 62)) rfl (k := .i64) (a := ((12 : Nat) : Int)) (b := ((j : Nat) : Int)) kr kr (i_addn64 (a := 12) (b := j) (by omega)) w) ?_
      clear F; intro a F
      refine T_call F H kr 108 #[.agg (arrF .u32 16 (dr (rn fw k) j)), ni j, ni (4 + j), ni (8 + j), ni (12 + j)] (.agg (arrF .u32 16 (dr (rn fw k) (j + 1)))) (fun w => kr) ((lquarter_any (dr (rn fw k) j) (dr_lt (rn_lt hfl k) j) j ((4 + j)) ((8 + j)) ((12 + j)) (by omega) (by omega) (by omega) (by omega) _).mono (fun _ _ ⟨q1, q2⟩ => ⟨by rw [q1, dr_lo (rn fw k) (by omega)], q2⟩)) ?_
      clear F H; intro a v F H
      refine T_set F H kr rfl 0 rfl (arrF .u32 16 (dr (rn fw k) (j + 1))) (S_row 0 rfl 156 (.tmp 10) (.tmp 64) rfl kr (arrF .u32 16 (dr (rn fw k) (j + 1))) kr (by rw [arrF_size]; kernel_rfl) ((arrF_size _ _ _).trans (arrF_size _ _ _).symm) (arrF_one _ _ _)) [bk aq23 (arrF .u32 16 (dr (rn fw k) (j + 1))) 156, bk aq6 (arrF .u32 16 fw) 156, bk aq4 #[.int .u8 0, .int .u8 0, .int .u8 0, .int .u8 0, .int .u8 0, .int .u8 0, .int .u8 0, .int .u8 0, .int .u8 0, .int .u8 0, .int .u8 0, .int .u8 0, .int .u8 0, .int .u8 0, .int .u8 0, .int .u8 0, .int .u8 0, .int .u8 0, .int .u8 0, .int .u8 0, .int .u8 0, .int .u8 0, .int .u8 0, .int .u8 0, .int .u8 0, .int .u8 0, .int .u8 0, .int .u8 0, .int .u8 0, .int .u8 0, .int .u8 0, .int .u8 0, .int .u8 0, .int .u8 0, .int .u8 0, .int .u8 0, .int .u8 0, .int .u8 0, .int .u8 0, .int .u8 0, .int .u8 0, .int .u8 0, .int .u8 0, .int .u8 0, .int .u8 0, .int .u8 0, .int .u8 0, .int .u8 0, .int .u8 0, .int .u8 0, .int .u8 0, .int .u8 0, .int .u8 0, .int .u8 0, .int .u8 0, .int .u8 0, .int .u8 0, .int .u8 0, .int .u8 0, .int .u8 0, .int .u8 0, .int .u8 0, .int .u8 0, .int .u8 0] 140] rfl ?_
      clear F H; intro a v F H
      refine wpList_nil ?_
      refine hK33 _ _ ?_
      clear hK33
      try clear K33
      refine C_region ?_
      refine T_k F H (ni j) ?_
      clear F; intro a F
      refine T_val F H kr (ni (j + 1)) (fun w _ => R_bin (x := (.tmp 54)) (y := (.const (.int .i64 1))) rfl (k := .i64) (a := ((j : Nat) : Int)) (b := ((1 : Nat) : Int)) kr kr (i_addn64 (a := j) (b := 1) (by omega)) w) ?_
      clear F; intro a F
      refine T_k F H (ni (j + 1)) ?_
      clear F; intro a F
      refine wpList_nil ?_
      replace F : Fm 105 [] [(12, ni (j + 1)), (11, ni k), (7, pt aq6 0), (10, pt aq23 0), (6, pt aq4 0)] a := F.weak _ (subL_of kr)
      replace H : Hp [] w [bk aq23 (arrF .u32 16 (dr (rn fw k) (j + 1))) 156, bk aq6 (arrF .u32 16 fw) 156, bk aq4 #[.int .u8 0, .int .u8 0, .int .u8 0, .int .u8 0, .int .u8 0, .int .u8 0, .int .u8 0, .int .u8 0, .int .u8 0, .int .u8 0, .int .u8 0, .int .u8 0, .int .u8 0, .int .u8 0, .int .u8 0, .int .u8 0, .int .u8 0, .int .u8 0, .int .u8 0, .int .u8 0, .int .u8 0, .int .u8 0, .int .u8 0, .int .u8 0, .int .u8 0, .int .u8 0, .int .u8 0, .int .u8 0, .int .u8 0, .int .u8 0, .int .u8 0, .int .u8 0, .int .u8 0, .int .u8 0, .int .u8 0, .int .u8 0, .int .u8 0, .int .u8 0, .int .u8 0, .int .u8 0, .int .u8 0, .int .u8 0, .int .u8 0, .int .u8 0, .int .u8 0, .int .u8 0, .int .u8 0, .int .u8 0, .int .u8 0, .int .u8 0, .int .u8 0, .int .u8 0, .int .u8 0, .int .u8 0, .int .u8 0, .int .u8 0, .int .u8 0, .int .u8 0, .int .u8 0, .int .u8 0, .int .u8 0, .int .u8 0, .int .u8 0, .int .u8 0] 140] v := H
      exact ⟨mj, Nat.lt_succ_self mj, j + 1, by omega, F, H⟩
    have hjt : j = 4 := by omega
    try rw [hjt] at F
    try rw [hjt] at H
    clear hj
    refine C_seqK (fun K34 hK34 => ?_)
    refine C_seqK (fun K35 hK35 => ?_)
    refine C_region ?_
    refine T_k F H (ni 4) ?_
    clear F; intro a F
    refine T_val F H kr (.bool false) (fun w _ => R_bin (x := (.tmp 52)) (y := (.const (.int .i64 4))) rfl (k := .i64) (a := ((4 : Nat) : Int)) (b := ((4 : Nat) : Int)) kr kr (i_nlt (by omega)) w) ?_
    clear F; intro a F
    refine wpList_nil ?_
    refine hK35 _ _ ?_
    clear hK35
    try clear K35
    refine C_if F false rfl rfl ?_
    refine wp_exit ?_
    refine hK29 _ _ ?_
    clear hK29
    try clear K29
    refine C_seqK (fun K36 hK36 => ?_)
    refine C_region ?_
    refine T_k F H (ni 0) ?_
    clear F; intro a F
    refine wpList_nil ?_
    replace F : Fm 105 [] [(13, ni 0), (11, ni k), (7, pt aq6 0), (10, pt aq23 0), (6, pt aq4 0)] a := F.weak _ (subL_of kr)
    replace H : Hp [] w [bk aq23 (arrF .u32 16 (dr (rn fw k) (4 + 0))) 156, bk aq6 (arrF .u32 16 fw) 156, bk aq4 #[.int .u8 0, .int .u8 0, .int .u8 0, .int .u8 0, .int .u8 0, .int .u8 0, .int .u8 0, .int .u8 0, .int .u8 0, .int .u8 0, .int .u8 0, .int .u8 0, .int .u8 0, .int .u8 0, .int .u8 0, .int .u8 0, .int .u8 0, .int .u8 0, .int .u8 0, .int .u8 0, .int .u8 0, .int .u8 0, .int .u8 0, .int .u8 0, .int .u8 0, .int .u8 0, .int .u8 0, .int .u8 0, .int .u8 0, .int .u8 0, .int .u8 0, .int .u8 0, .int .u8 0, .int .u8 0, .int .u8 0, .int .u8 0, .int .u8 0, .int .u8 0, .int .u8 0, .int .u8 0, .int .u8 0, .int .u8 0, .int .u8 0, .int .u8 0, .int .u8 0, .int .u8 0, .int .u8 0, .int .u8 0, .int .u8 0, .int .u8 0, .int .u8 0, .int .u8 0, .int .u8 0, .int .u8 0, .int .u8 0, .int .u8 0, .int .u8 0, .int .u8 0, .int .u8 0, .int .u8 0, .int .u8 0, .int .u8 0, .int .u8 0, .int .u8 0] 140] v := H
    refine hK36 _ _ ?_
    clear hK36
    try clear K36
    refine wp_block ?_
    refine C_loop (fun ml a v => ∃ j, j + ml = 4 ∧ Fm 105 [] [(13, ni j), (11, ni k), (7, pt aq6 0), (10, pt aq23 0), (6, pt aq4 0)] a ∧ Hp [] w [bk aq23 (arrF .u32 16 (dr (rn fw k) (4 + j))) 156, bk aq6 (arrF .u32 16 fw) 156, bk aq4 #[.int .u8 0, .int .u8 0, .int .u8 0, .int .u8 0, .int .u8 0, .int .u8 0, .int .u8 0, .int .u8 0, .int .u8 0, .int .u8 0, .int .u8 0, .int .u8 0, .int .u8 0, .int .u8 0, .int .u8 0, .int .u8 0, .int .u8 0, .int .u8 0, .int .u8 0, .int .u8 0, .int .u8 0, .int .u8 0, .int .u8 0, .int .u8 0, .int .u8 0, .int .u8 0, .int .u8 0, .int .u8 0, .int .u8 0, .int .u8 0, .int .u8 0, .int .u8 0, .int .u8 0, .int .u8 0, .int .u8 0, .int .u8 0, .int .u8 0, .int .u8 0, .int .u8 0, .int .u8 0, .int .u8 0, .int .u8 0, .int .u8 0, .int .u8 0, .int .u8 0, .int .u8 0, .int .u8 0, .int .u8 0, .int .u8 0, .int .u8 0, .int .u8 0, .int .u8 0, .int .u8 0, .int .u8 0, .int .u8 0, .int .u8 0, .int .u8 0, .int .u8 0, .int .u8 0, .int .u8 0, .int .u8 0, .int .u8 0, .int .u8 0, .int .u8 0] 140] v) (4) ⟨0, Nat.zero_add _, F, H⟩ ?_
    clear F H
    intro ml a v ⟨j, hj, F, H⟩
    rcases ml with _ | ml
    rotate_left
    · skip
      refine C_seqK (fun K37 hK37 => ?_)
      refine C_seqK (fun K38 hK38 => ?_)
      refine C_region ?_
      refine T_k F H (ni j) ?_
      clear F; intro a F
      refine T_val F H kr (.bool true) (fun w _ => R_bin (x := (.tmp 65)) (y := (.const (.int .i64 4))) rfl (k := .i64) (a := ((j : Nat) : Int)) (b := ((4 : Nat) : Int)) kr kr (i_lt (by omega)) w) ?_
      clear F; intro a F
      refine wpList_nil ?_
      refine hK38 _ _ ?_
      clear hK38
      try clear K38
      refine C_if F true rfl rfl ?_
      refine wp_skip ?_
      refine hK37 _ _ ?_
      clear hK37
      try clear K37
      refine C_seqK (fun K39 hK39 => ?_)
      refine wp_block ?_
      refine C_region ?_
      refine T_val F H kr (.agg (arrF .u32 16 (dr (rn fw k) (4 + j)))) (R_load (own := true) (g := aq23) (all := (arrF .u32 16 (dr (rn fw k) (4 + j)))) (t := 156) (fr := (0, 0)) 0 kr 156 (.tmp 10) rfl 0 kr (arrF .u32 16 (dr (rn fw k) (4 + j))) (part_all _) _ Tryd.underlying156 rfl (by rw [arrF_size]; kernel_rfl)) ?_
      clear F; intro a F
      refine T_k F H (ni j) ?_
      clear F; intro a F
      refine T_k F H (ni j) ?_
      clear F; intro a F
      refine T_val F H kr (ni (j + 1)) (fun w _ => R_bin (x := (.tmp 71)) (y := (.const (.int .i64 1))) rfl (k := .i64) (a := ((j : Nat) : Int)) (b := ((1 : Nat) : Int)) kr kr (i_addn64 (a := j) (b := 1) (by omega)) w) ?_
      clear F; intro a F
      refine T_val F H kr (ni ((j + 1) % 4)) (fun w _ => R_bin (x := (.tmp 72)) (y := (.const (.int .i64 4))) rfl (k := .i64) (a := (((j + 1) : Nat) : Int)) (b := ((4 : Nat) : Int)) kr kr (i_rem64 (a := (j + 1)) (b := 4) (by omega)) w) ?_
      clear F; intro a F
      refine T_val F H kr (ni (4 + ((j + 1) % 4))) (fun w _ => R_bin (x := (.const (.int .i64 4))) (y := (.tmp 73)) rfl (k := .i64) (a := ((4 : Nat) : Int)) (b := ((((j + 1) % 4) : Nat) : Int)) kr kr (i_addn64 (a := 4) (b := ((j + 1) % 4)) (by omega)) w) ?_
      clear F; intro a F
      refine T_k F H (ni j) ?_
      clear F; intro a F
      refine T_val F H kr (ni (j + 2)) (fun w _ => R_bin (x := (.tmp 75)) (y := (.const (.int .i64 2))) rfl (k := .i64) (a := ((j : Nat) : Int)) (b := ((2 : Nat) : Int)) kr kr (i_addn64 (a := j) (b := 2) (by omega)) w) ?_
      clear F; intro a F
      refine T_val F H kr (ni ((j + 2) % 4)) (fun w _ => R_bin (x := (.tmp 76)) (y := (.const (.int .i64 4))) rfl (k := .i64) (a := (((j + 2) : Nat) : Int)) (b := ((4 : Nat) : Int)) kr kr (i_rem64 (a := (j + 2)) (b := 4) (by omega)) w) ?_
      clear F; intro a F
      refine T_val F H kr (ni (8 + ((j + 2) % 4))) (fun w _ => R_bin (x := (.const (.int .i64 8))) (y := (.tmp 77)) rfl (k := .i64) (a := ((8 : Nat) : Int)) (b := ((((j + 2) % 4) : Nat) : Int)) kr kr (i_addn64 (a := 8) (b := ((j + 2) % 4)) (by omega)) w) ?_
      clear F; intro a F
      refine T_k F H (ni j) ?_
      clear F; intro a F
      refine T_val F H kr (ni (j + 3)) (fun w _ => R_bin (x := (.tmp 79)) (y := (.const (.int .i64 3))) rfl (k := .i64) (a := ((j : Nat) : Int)) (b := ((3 : Nat) : Int)) kr kr (i_addn64 (a := j) (b := 3) (by omega)) w) ?_
      clear F; intro a F
      refine T_val F H kr (ni ((j + 3) % 4)) (fun w _ => R_bin (x := (.tmp 80)) (y := (.const (.int .i64 4))) rfl (k := .i64) (a := (((j + 3) : Nat) : Int)) (b := ((4 : Nat) : Int)) kr kr (i_rem64 (a := (j + 3)) (b := 4) (by omega)) w) ?_
      clear F; intro a F
      refine T_val F H kr (ni (12 + ((j + 3) % 4))) (fun w _ => R_bin (x := (.const (.int .i64 12))) (y := (.tmp 81)) rfl (k := .i64) (a := ((12 : Nat) : Int)) (b := ((((j + 3) % 4) : Nat) : Int)) kr kr (i_addn64 (a := 12) (b := ((j + 3) % 4)) (by omega)) w) ?_
      clear F; intro a F
      refine T_call F H kr 108 #[.agg (arrF .u32 16 (dr (rn fw k) (4 + j))), ni j, ni (4 + ((j + 1) % 4)), ni (8 + ((j + 2) % 4)), ni (12 + ((j + 3) % 4))] (.agg (arrF .u32 16 (dr (rn fw k) (4 + (j + 1))))) (fun w => kr) ((lquarter_any (dr (rn fw k) (4 + j)) (dr_lt (rn_lt hfl k) (4 + j)) j ((4 + ((j + 1) % 4))) ((8 + ((j + 2) % 4))) ((12 + ((j + 3) % 4))) (by omega) (by omega) (by omega) (by omega) _).mono (fun _ _ ⟨q1, q2⟩ => ⟨by rw [q1, dr_hi (rn fw k) (by omega)], q2⟩)) ?_
      clear F H; intro a v F H
      refine T_set F H kr rfl 0 rfl (arrF .u32 16 (dr (rn fw k) (4 + (j + 1)))) (S_row 0 rfl 156 (.tmp 10) (.tmp 83) rfl kr (arrF .u32 16 (dr (rn fw k) (4 + (j + 1)))) kr (by rw [arrF_size]; kernel_rfl) ((arrF_size _ _ _).trans (arrF_size _ _ _).symm) (arrF_one _ _ _)) [bk aq23 (arrF .u32 16 (dr (rn fw k) (4 + (j + 1)))) 156, bk aq6 (arrF .u32 16 fw) 156, bk aq4 #[.int .u8 0, .int .u8 0, .int .u8 0, .int .u8 0, .int .u8 0, .int .u8 0, .int .u8 0, .int .u8 0, .int .u8 0, .int .u8 0, .int .u8 0, .int .u8 0, .int .u8 0, .int .u8 0, .int .u8 0, .int .u8 0, .int .u8 0, .int .u8 0, .int .u8 0, .int .u8 0, .int .u8 0, .int .u8 0, .int .u8 0, .int .u8 0, .int .u8 0, .int .u8 0, .int .u8 0, .int .u8 0, .int .u8 0, .int .u8 0, .int .u8 0, .int .u8 0, .int .u8 0, .int .u8 0, .int .u8 0, .int .u8 0, .int .u8 0, .int .u8 0, .int .u8 0, .int .u8 0, .int .u8 0, .int .u8 0, .int .u8 0, .int .u8 0, .int .u8 0, .int .u8 0, .int .u8 0, .int .u8 0, .int .u8 0, .int .u8 0, .int .u8 0, .int .u8 0, .int .u8 0, .int .u8 0, .int .u8 0, .int .u8 0, .int .u8 0, .int .u8 0, .int .u8 0, .int .u8 0, .int .u8 0, .int .u8 0, .int .u8 0, .int .u8 0] 140] rfl ?_
      clear F H; intro a v F H
      refine wpList_nil ?_
      refine hK39 _ _ ?_
      clear hK39
      try clear K39
      refine C_region ?_
      refine T_k F H (ni j) ?_
      clear F; intro a F
      refine T_val F H kr (ni (j + 1)) (fun w _ => R_bin (x := (.tmp 67)) (y := (.const (.int .i64 1))) rfl (k := .i64) (a := ((j : Nat) : Int)) (b := ((1 : Nat) : Int)) kr kr (i_addn64 (a := j) (b := 1) (by omega)) w) ?_
      clear F; intro a F
      refine T_k F H (ni (j + 1)) ?_
      clear F; intro a F
      refine wpList_nil ?_
      replace F : Fm 105 [] [(13, ni (j + 1)), (11, ni k), (7, pt aq6 0), (10, pt aq23 0), (6, pt aq4 0)] a := F.weak _ (subL_of kr)
      replace H : Hp [] w [bk aq23 (arrF .u32 16 (dr (rn fw k) (4 + (j + 1)))) 156, bk aq6 (arrF .u32 16 fw) 156, bk aq4 #[.int .u8 0, .int .u8 0, .int .u8 0, .int .u8 0, .int .u8 0, .int .u8 0, .int .u8 0, .int .u8 0, .int .u8 0, .int .u8 0, .int .u8 0, .int .u8 0, .int .u8 0, .int .u8 0, .int .u8 0, .int .u8 0, .int .u8 0, .int .u8 0, .int .u8 0, .int .u8 0, .int .u8 0, .int .u8 0, .int .u8 0, .int .u8 0, .int .u8 0, .int .u8 0, .int .u8 0, .int .u8 0, .int .u8 0, .int .u8 0, .int .u8 0, .int .u8 0, .int .u8 0, .int .u8 0, .int .u8 0, .int .u8 0, .int .u8 0, .int .u8 0, .int .u8 0, .int .u8 0, .int .u8 0, .int .u8 0, .int .u8 0, .int .u8 0, .int .u8 0, .int .u8 0, .int .u8 0, .int .u8 0, .int .u8 0, .int .u8 0, .int .u8 0, .int .u8 0, .int .u8 0, .int .u8 0, .int .u8 0, .int .u8 0, .int .u8 0, .int .u8 0, .int .u8 0, .int .u8 0, .int .u8 0, .int .u8 0, .int .u8 0, .int .u8 0] 140] v := H
      exact ⟨ml, Nat.lt_succ_self ml, j + 1, by omega, F, H⟩
    have hjt : j = 4 := by omega
    try rw [hjt] at F
    try rw [hjt] at H
    clear hj
    refine C_seqK (fun K40 hK40 => ?_)
    refine C_seqK (fun K41 hK41 => ?_)
    refine C_region ?_
    refine T_k F H (ni 4) ?_
    clear F; intro a F
    refine T_val F H kr (.bool false) (fun w _ => R_bin (x := (.tmp 65)) (y := (.const (.int .i64 4))) rfl (k := .i64) (a := ((4 : Nat) : Int)) (b := ((4 : Nat) : Int)) kr kr (i_nlt (by omega)) w) ?_
    clear F; intro a F
    refine wpList_nil ?_
    refine hK41 _ _ ?_
    clear hK41
    try clear K41
    refine C_if F false rfl rfl ?_
    refine wp_exit ?_
    refine hK28 _ _ ?_
    clear hK28
    try clear K28
    replace H : Hp [] w [bk aq23 (arrF .u32 16 (rn fw (k + 1))) 156, bk aq6 (arrF .u32 16 fw) 156, bk aq4 #[.int .u8 0, .int .u8 0, .int .u8 0, .int .u8 0, .int .u8 0, .int .u8 0, .int .u8 0, .int .u8 0, .int .u8 0, .int .u8 0, .int .u8 0, .int .u8 0, .int .u8 0, .int .u8 0, .int .u8 0, .int .u8 0, .int .u8 0, .int .u8 0, .int .u8 0, .int .u8 0, .int .u8 0, .int .u8 0, .int .u8 0, .int .u8 0, .int .u8 0, .int .u8 0, .int .u8 0, .int .u8 0, .int .u8 0, .int .u8 0, .int .u8 0, .int .u8 0, .int .u8 0, .int .u8 0, .int .u8 0, .int .u8 0, .int .u8 0, .int .u8 0, .int .u8 0, .int .u8 0, .int .u8 0, .int .u8 0, .int .u8 0, .int .u8 0, .int .u8 0, .int .u8 0, .int .u8 0, .int .u8 0, .int .u8 0, .int .u8 0, .int .u8 0, .int .u8 0, .int .u8 0, .int .u8 0, .int .u8 0, .int .u8 0, .int .u8 0, .int .u8 0, .int .u8 0, .int .u8 0, .int .u8 0, .int .u8 0, .int .u8 0, .int .u8 0] 140] v := H
    refine C_region ?_
    refine T_k F H (ni k) ?_
    clear F; intro a F
    refine T_val F H kr (ni (k + 1)) (fun w _ => R_bin (x := (.tmp 50)) (y := (.const (.int .i64 1))) rfl (k := .i64) (a := ((k : Nat) : Int)) (b := ((1 : Nat) : Int)) kr kr (i_addn64 (a := k) (b := 1) (by omega)) w) ?_
    clear F; intro a F
    refine T_k F H (ni (k + 1)) ?_
    clear F; intro a F
    refine wpList_nil ?_
    replace F : Fm 105 [] [(11, ni (k + 1)), (7, pt aq6 0), (10, pt aq23 0), (6, pt aq4 0)] a := F.weak _ (subL_of kr)
    replace H : Hp [] w [bk aq23 (arrF .u32 16 (rn fw (k + 1))) 156, bk aq6 (arrF .u32 16 fw) 156, bk aq4 #[.int .u8 0, .int .u8 0, .int .u8 0, .int .u8 0, .int .u8 0, .int .u8 0, .int .u8 0, .int .u8 0, .int .u8 0, .int .u8 0, .int .u8 0, .int .u8 0, .int .u8 0, .int .u8 0, .int .u8 0, .int .u8 0, .int .u8 0, .int .u8 0, .int .u8 0, .int .u8 0, .int .u8 0, .int .u8 0, .int .u8 0, .int .u8 0, .int .u8 0, .int .u8 0, .int .u8 0, .int .u8 0, .int .u8 0, .int .u8 0, .int .u8 0, .int .u8 0, .int .u8 0, .int .u8 0, .int .u8 0, .int .u8 0, .int .u8 0, .int .u8 0, .int .u8 0, .int .u8 0, .int .u8 0, .int .u8 0, .int .u8 0, .int .u8 0, .int .u8 0, .int .u8 0, .int .u8 0, .int .u8 0, .int .u8 0, .int .u8 0, .int .u8 0, .int .u8 0, .int .u8 0, .int .u8 0, .int .u8 0, .int .u8 0, .int .u8 0, .int .u8 0, .int .u8 0, .int .u8 0, .int .u8 0, .int .u8 0, .int .u8 0, .int .u8 0] 140] v := H
    exact ⟨m, Nat.lt_succ_self m, k + 1, by omega, F, H⟩
  have hkt : k = 10 := by omega
  try rw [hkt] at F
  try rw [hkt] at H
  clear hk
  refine C_seqK (fun K42 hK42 => ?_)
  refine C_seqK (fun K43 hK43 => ?_)
  refine C_region ?_
  refine T_k F H (ni 10) ?_
  clear F; intro a F
  refine T_val F H kr (.bool false) (fun w _ => R_bin (x := (.tmp 48)) (y := (.const (.int .i64 10))) rfl (k := .i64) (a := ((10 : Nat) : Int)) (b := ((10 : Nat) : Int)) kr kr (i_nlt (by omega)) w) ?_
  clear F; intro a F
  refine wpList_nil ?_
  refine hK43 _ _ ?_
  clear hK43
  try clear K43
  refine C_if F false rfl rfl ?_
  refine wp_exit ?_
  refine hK24 _ _ ?_
  clear hK24
  try clear K24
  refine C_seqK (fun K44 hK44 => ?_)
  refine C_region ?_
  refine T_new F H kr (fun ad => pt ad 0) (ce #[.int .u8 0, .int .u8 0, .int .u8 0, .int .u8 0, .int .u8 0, .int .u8 0, .int .u8 0, .int .u8 0, .int .u8 0, .int .u8 0, .int .u8 0, .int .u8 0, .int .u8 0, .int .u8 0, .int .u8 0, .int .u8 0, .int .u8 0, .int .u8 0, .int .u8 0, .int .u8 0, .int .u8 0, .int .u8 0, .int .u8 0, .int .u8 0, .int .u8 0, .int .u8 0, .int .u8 0, .int .u8 0, .int .u8 0, .int .u8 0, .int .u8 0, .int .u8 0, .int .u8 0, .int .u8 0, .int .u8 0, .int .u8 0, .int .u8 0, .int .u8 0, .int .u8 0, .int .u8 0, .int .u8 0, .int .u8 0, .int .u8 0, .int .u8 0, .int .u8 0, .int .u8 0, .int .u8 0, .int .u8 0, .int .u8 0, .int .u8 0, .int .u8 0, .int .u8 0, .int .u8 0, .int .u8 0, .int .u8 0, .int .u8 0, .int .u8 0, .int .u8 0, .int .u8 0, .int .u8 0, .int .u8 0, .int .u8 0, .int .u8 0, .int .u8 0] 140) (fun w => kr) ?_
  clear F H; intro aq45 a v F H
  refine wpList_nil ?_
  rw [show (#[.int .u8 0, .int .u8 0, .int .u8 0, .int .u8 0, .int .u8 0, .int .u8 0, .int .u8 0, .int .u8 0, .int .u8 0, .int .u8 0, .int .u8 0, .int .u8 0, .int .u8 0, .int .u8 0, .int .u8 0, .int .u8 0, .int .u8 0, .int .u8 0, .int .u8 0, .int .u8 0, .int .u8 0, .int .u8 0, .int .u8 0, .int .u8 0, .int .u8 0, .int .u8 0, .int .u8 0, .int .u8 0, .int .u8 0, .int .u8 0, .int .u8 0, .int .u8 0, .int .u8 0, .int .u8 0, .int .u8 0, .int .u8 0, .int .u8 0, .int .u8 0, .int .u8 0, .int .u8 0, .int .u8 0, .int .u8 0, .int .u8 0, .int .u8 0, .int .u8 0, .int .u8 0, .int .u8 0, .int .u8 0, .int .u8 0, .int .u8 0, .int .u8 0, .int .u8 0, .int .u8 0, .int .u8 0, .int .u8 0, .int .u8 0, .int .u8 0, .int .u8 0, .int .u8 0, .int .u8 0, .int .u8 0, .int .u8 0, .int .u8 0, .int .u8 0] : Array Value) = arrF .u8 64 (ccP key ct nc 0) from kr] at H
  refine hK44 _ _ ?_
  clear hK44
  try clear K44
  refine C_seqK (fun K46 hK46 => ?_)
  refine C_seqK (fun K47 hK47 => ?_)
  refine C_region ?_
  refine T_k F H (ni 0) ?_
  clear F; intro a F
  refine wpList_nil ?_
  replace F : Fm 105 [] [(15, ni 0), (14, pt aq45 0), (7, pt aq6 0), (10, pt aq23 0), (6, pt aq4 0)] a := F.weak _ (subL_of kr)
  replace H : Hp [] w [bk aq45 (arrF .u8 64 (ccP key ct nc 0)) 140, bk aq23 (arrF .u32 16 (rn fw 10)) 156, bk aq6 (arrF .u32 16 fw) 156, bk aq4 (arrF .u8 64 (ccP key ct nc 0)) 140] v := H.pick [0, 1, 2, 3] kr _ rfl
  have hrl := rn_lt hfl 10
  refine hK47 _ _ ?_
  clear hK47
  try clear K47
  refine wp_block ?_
  refine C_loop (fun m a v => ∃ k, k + m = 64 ∧ Fm 105 [] [(15, ni k), (14, pt aq45 0), (7, pt aq6 0), (10, pt aq23 0), (6, pt aq4 0)] a ∧ Hp [] w [bk aq45 (arrF .u8 64 (ccP key ct nc k)) 140, bk aq23 (arrF .u32 16 (rn fw 10)) 156, bk aq6 (arrF .u32 16 fw) 156, bk aq4 (arrF .u8 64 (ccP key ct nc 0)) 140] v) (64) ⟨0, Nat.zero_add _, F, H⟩ ?_
  clear F H
  intro m a v ⟨k, hk, F, H⟩
  rcases m with _ | m
  rotate_left
  · skip
    have hadl := add32_lt (rn fw 10 (k / 4)) (fw (k / 4))
    refine C_seqK (fun K48 hK48 => ?_)
    refine C_seqK (fun K49 hK49 => ?_)
    refine C_region ?_
    refine T_k F H (ni k) ?_
    clear F; intro a F
    refine T_val F H kr (.bool true) (fun w _ => R_bin (x := (.tmp 84)) (y := (.const (.int .i64 64))) rfl (k := .i64) (a := ((k : Nat) : Int)) (b := ((64 : Nat) : Int)) kr kr (i_lt (by omega)) w) ?_
    clear F; intro a F
    refine wpList_nil ?_
    refine hK49 _ _ ?_
    clear hK49
    try clear K49
    refine C_if F true rfl rfl ?_
    refine wp_skip ?_
    refine hK48 _ _ ?_
    clear hK48
    try clear K48
    refine C_seqK (fun K50 hK50 => ?_)
    refine wp_block ?_
    refine E_region F H (fun β => [(88, ni k), (89, ni k), (90, ni (k / 4)), (91, pt aq23 (0 + ((k / 4)) * 1)), (92, nw ((rn fw 10) ((k / 4)))), (93, ni k), (94, ni (k / 4)), (95, pt aq6 (0 + ((k / 4)) * 1)), (96, nw (fw ((k / 4)))), (97, nw (add32 ((rn fw 10) ((k / 4))) (fw ((k / 4))))), (98, ni k), (99, ni (k % 4)), (100, ni (8 * (k % 4))), (101, nw ((add32 ((rn fw 10) ((k / 4))) (fw ((k / 4)))) >>> ((8 * (k % 4))))), (102, nb (ccF key ct nc k)), (103, pt aq45 (0 + (k) * 1))]) [88, 89, 90, 91, 92, 93, 94, 95, 96, 97, 98, 99, 100, 101, 102, 103] [⟨none, none, aq45, [], fun q_ => ce (arrF .u8 64 (ccP key ct nc k)) 140, gT, [⟨16, [], fun q_ => ce (arrF .u8 64 (upd (ccP key ct nc k) (k) (ccF key ct nc k))) 140, gT⟩]⟩] [bk aq23 (arrF .u32 16 (rn fw 10)) 156, bk aq6 (arrF .u32 16 fw) 156, bk aq4 (arrF .u8 64 (ccP key ct nc 0)) 140] [0, 1, 2, 3] 2 [] kr kr kr (fun β => rfl) ⟨fun _ _ => trivial, trivial⟩ ⟨?_, ?_, ?_, ?_, ?_, ?_, ?_, ?_, ?_, ?_, ?_, ?_, ?_, ?_, ?_, ?_, ?_, trivial⟩ ?_
    · exact E_k 105 (fun β => ni k) 88 2
    · exact E_k 105 (fun β => ni k) 89 2
    · exact E_v 105 (fun β => ni (k / 4)) 90 2 [] (fun β w hk hl hq => R_bin (x := (.tmp 89)) (y := (.const (.int .i64 4))) rfl (k := .i64) (a := ((k : Nat) : Int)) (b := ((4 : Nat) : Int)) kr kr (i_quo64 (a := k) (b := 4) (by omega) (by omega)) w)
    · exact E_v 105 (fun β => pt aq23 (0 + ((k / 4)) * 1)) 91 2 [] (fun β w hk hl hq => R_index (k := .i64) (g := aq23) (off := 0) (x := (.tmp 10)) (y := (.tmp 90)) rfl Tryd.underlying156 kr ((k / 4)) kr (by omega) (sz := 1) kr w)
    · exact E_v 105 (fun β => nw ((rn fw 10) ((k / 4)))) 92 2 [] (fun β w hk hl hq => R_cellH hl (own := true) (g := aq23) (all := (arrF .u32 16 (rn fw 10))) (t := 156) (fr := (0, 0)) 0 kr 53 (.tmp 91) rfl (0 + ((k / 4)) * 1) kr (nw ((rn fw 10) ((k / 4)))) ((congrArg (fun q => ((arrF .u32 16 (rn fw 10)))[q]?) (show (0 + ((k / 4)) * 1) = (k / 4) by omega)).trans (arrF_get (rn fw 10) (by omega))) _ Tryd.underlying53 rfl)
    · exact E_k 105 (fun β => ni k) 93 2
    · exact E_v 105 (fun β => ni (k / 4)) 94 2 [] (fun β w hk hl hq => R_bin (x := (.tmp 93)) (y := (.const (.int .i64 4))) rfl (k := .i64) (a := ((k : Nat) : Int)) (b := ((4 : Nat) : Int)) kr kr (i_quo64 (a := k) (b := 4) (by omega) (by omega)) w)
    · exact E_v 105 (fun β => pt aq6 (0 + ((k / 4)) * 1)) 95 2 [] (fun β w hk hl hq => R_index (k := .i64) (g := aq6) (off := 0) (x := (.tmp 7)) (y := (.tmp 94)) rfl Tryd.underlying156 kr ((k / 4)) kr (by omega) (sz := 1) kr w)
    · exact E_v 105 (fun β => nw (fw ((k / 4)))) 96 2 [] (fun β w hk hl hq => R_cellH hl (own := true) (g := aq6) (all := (arrF .u32 16 fw)) (t := 156) (fr := (0, 0)) 1 kr 53 (.tmp 95) rfl (0 + ((k / 4)) * 1) kr (nw (fw ((k / 4)))) ((congrArg (fun q => ((arrF .u32 16 fw))[q]?) (show (0 + ((k / 4)) * 1) = (k / 4) by omega)).trans (arrF_get fw (by omega))) _ Tryd.underlying53 rfl)
    · exact E_v 105 (fun β => nw (add32 ((rn fw 10) ((k / 4))) (fw ((k / 4))))) 97 2 [] (fun β w hk hl hq => R_bin (x := (.tmp 92)) (y := (.tmp 96)) rfl (k := .u32) (a := (((rn fw 10) ((k / 4)) : Nat) : Int)) (b := ((fw ((k / 4)) : Nat) : Int)) kr kr (i_add32 (a := (rn fw 10) ((k / 4))) (b := fw ((k / 4)))) w)
    · exact E_k 105 (fun β => ni k) 98 2
    · exact E_v 105 (fun β => ni (k % 4)) 99 2 [] (fun β w hk hl hq => R_bin (x := (.tmp 98)) (y := (.const (.int .i64 4))) rfl (k := .i64) (a := ((k : Nat) : Int)) (b := ((4 : Nat) : Int)) kr kr (i_rem64 (a := k) (b := 4) (by omega)) w)
    · exact E_v 105 (fun β => ni (8 * (k % 4))) 100 2 [] (fun β w hk hl hq => R_bin (x := (.const (.int .i64 8))) (y := (.tmp 99)) rfl (k := .i64) (a := ((8 : Nat) : Int)) (b := (((k % 4) : Nat) : Int)) kr kr (i_muln64 (a := 8) (b := (k % 4)) (by omega)) w)
    · exact E_v 105 (fun β => nw ((add32 ((rn fw 10) ((k / 4))) (fw ((k / 4)))) >>> ((8 * (k % 4))))) 101 2 [] (fun β w hk hl hq => R_shr (x := (.tmp 97)) (y := (.tmp 100)) rfl (k := .u32) (yk := .i64) (a := ((add32 ((rn fw 10) ((k / 4))) (fw ((k / 4))) : Nat) : Int)) (b := (((8 * (k % 4)) : Nat) : Int)) kr kr (Int.natCast_nonneg _) (shr_val (k := .u32) (by show _ ≤ 32; omega)) w)
    · exact E_v 105 (fun β => nb (ccF key ct nc k)) 102 2 [] (fun β w hk hl hq => R_conv (x := (.tmp 101)) rfl (k0 := .u32) kr kr (k := .u32) (a := ((add32 (rn fw 10 (k / 4)) (fw (k / 4)) >>> (8 * (k % 4)) : Nat) : Int)) kr ((wr8m (a := add32 (rn fw 10 (k / 4)) (fw (k / 4)) >>> (8 * (k % 4)))).trans (congrArg (fun q : Nat => (q : Int)) (hcb k))) w)
    · exact E_v 105 (fun β => pt aq45 (0 + (k) * 1)) 103 2 [] (fun β w hk hl hq => R_index (k := .i64) (g := aq45) (off := 0) (x := (.tmp 14)) (y := (.tmp 88)) rfl Tryd.underlying140 kr (k) kr (by omega) (sz := 1) kr w)
    · exact E_store 105 kq rfl 2 [] 0 0 _ _ rfl rfl kr rfl (fun _ => trivial) (fun β w hk hl hq hm => let ⟨w', h1, h2, h3⟩ := P_cell (off := (0 + (k) * 1)) (old := (arrF .u8 64 (ccP key ct nc k))) (v := nb (ccF key ct nc k)) (Z := ce (arrF .u8 64 (ccP key ct nc k)) 140) (R := ce (arrF .u8 64 (upd (ccP key ct nc k) (k) (ccF key ct nc k))) 140) rfl (by rw [show (0 + (k) * 1) = k by omega, arrF_upd _ (by omega)]) (ty := 5) (x := (.tmp 103)) (y := (.tmp 102)) rfl kr kr rfl (by rw [arrF_size]; omega) Tryd.underlying5 rfl kr hm; ⟨w', h1, h2, h3⟩)
    clear F H; intro β a v Q F H
    replace H : Hp [] w [bk aq45 (arrF .u8 64 (upd (ccP key ct nc k) (k) (ccF key ct nc k))) 140, bk aq23 (arrF .u32 16 (rn fw 10)) 156, bk aq6 (arrF .u32 16 fw) 156, bk aq4 (arrF .u8 64 (ccP key ct nc 0)) 140] v := H
    replace F : Fm 105 [] [(103, pt aq45 (0 + (k) * 1)), (102, nb (ccF key ct nc k)), (101, nw ((add32 ((rn fw 10) ((k / 4))) (fw ((k / 4)))) >>> ((8 * (k % 4))))), (100, ni (8 * (k % 4))), (99, ni (k % 4)), (98, ni k), (97, nw (add32 ((rn fw 10) ((k / 4))) (fw ((k / 4))))), (96, nw (fw ((k / 4)))), (95, pt aq6 (0 + ((k / 4)) * 1)), (94, ni (k / 4)), (93, ni k), (92, nw ((rn fw 10) ((k / 4)))), (91, pt aq23 (0 + ((k / 4)) * 1)), (90, ni (k / 4)), (89, ni k), (88, ni k), (85, .bool true), (84, ni k), (15, ni k), (14, pt aq45 0), (7, pt aq6 0), (10, pt aq23 0), (6, pt aq4 0)] a := F.weak _ (subL_of kr)
    clear Q
    refine ?_
    replace H : Hp [] w [bk aq45 (arrF .u8 64 (upd (ccP key ct nc k) (k) (ccF key ct nc k))) 140, bk aq23 (arrF .u32 16 (rn fw 10)) 156, bk aq6 (arrF .u32 16 fw) 156, bk aq4 (arrF .u8 64 (ccP key ct nc 0)) 140] v := H.pick [0, 1, 2, 3] kr _ rfl
    rw [ccP_step] at H
    refine hK50 _ _ ?_
    clear hK50
    try clear K50
    refine C_region ?_
    refine T_k F H (ni k) ?_
    clear F; intro a F
    refine T_val F H kr (ni (k + 1)) (fun w _ => R_bin (x := (.tmp 86)) (y := (.const (.int .i64 1))) rfl (k := .i64) (a := ((k : Nat) : Int)) (b := ((1 : Nat) : Int)) kr kr (i_addn64 (a := k) (b := 1) (by omega)) w) ?_
    clear F; intro a F
    refine T_k F H (ni (k + 1)) ?_
    clear F; intro a F
    refine wpList_nil ?_
    replace F : Fm 105 [] [(15, ni (k + 1)), (14, pt aq45 0), (7, pt aq6 0), (10, pt aq23 0), (6, pt aq4 0)] a := F.weak _ (subL_of kr)
    replace H : Hp [] w [bk aq45 (arrF .u8 64 (ccP key ct nc (k + 1))) 140, bk aq23 (arrF .u32 16 (rn fw 10)) 156, bk aq6 (arrF .u32 16 fw) 156, bk aq4 (arrF .u8 64 (ccP key ct nc 0)) 140] v := H
    exact ⟨m, Nat.lt_succ_self m, k + 1, by omega, F, H⟩
  have hkt : k = 64 := by omega
  try rw [hkt] at F
  try rw [hkt] at H
  clear hk
  refine C_seqK (fun K51 hK51 => ?_)
  refine C_seqK (fun K52 hK52 => ?_)
  refine C_region ?_
  refine T_k F H (ni 64) ?_
  clear F; intro a F
  refine T_val F H kr (.bool false) (fun w _ => R_bin (x := (.tmp 84)) (y := (.const (.int .i64 64))) rfl (k := .i64) (a := ((64 : Nat) : Int)) (b := ((64 : Nat) : Int)) kr kr (i_nlt (by omega)) w) ?_
  clear F; intro a F
  refine wpList_nil ?_
  refine hK52 _ _ ?_
  clear hK52
  try clear K52
  refine C_if F false rfl rfl ?_
  refine wp_exit ?_
  refine hK46 _ _ ?_
  clear hK46
  try clear K46
  refine C_seqK (fun K53 hK53 => ?_)
  replace H : Hp [] w [bk aq45 (arrF .u8 64 (ccP key ct nc 64)) 140, bk aq23 (arrF .u32 16 (rn fw 10)) 156, bk aq6 (arrF .u32 16 fw) 156, bk aq4 (arrF .u8 64 (ccP key ct nc 0)) 140] v := H
  rw [ccP_all] at H
  refine C_region ?_
  refine T_val F H kr (.agg (arrF .u8 64 (ccF key ct nc))) (R_load (own := true) (g := aq45) (all := (arrF .u8 64 (ccF key ct nc))) (t := 140) (fr := (0, 0)) 0 kr 140 (.tmp 14) rfl 0 kr (arrF .u8 64 (ccF key ct nc)) (part_all _) _ Tryd.underlying140 rfl (by rw [arrF_size]; kernel_rfl)) ?_
  clear F; intro a F
  refine T_set F H kr rfl 3 rfl (arrF .u8 64 (ccF key ct nc)) (S_row 3 rfl 140 (.tmp 6) (.tmp 104) rfl kr (arrF .u8 64 (ccF key ct nc)) kr (by rw [arrF_size]; kernel_rfl) ((arrF_size _ _ _).trans (arrF_size _ _ _).symm) (arrF_one _ _ _)) [bk aq45 (arrF .u8 64 (ccF key ct nc)) 140, bk aq23 (arrF .u32 16 (rn fw 10)) 156, bk aq6 (arrF .u32 16 fw) 156, bk aq4 (arrF .u8 64 (ccF key ct nc)) 140] rfl ?_
  clear F H; intro a v F H
  refine wpList_nil ?_
  refine hK53 _ _ ?_
  clear hK53
  try clear K53
  refine wp_ret ?_
  exact C_ret F H (rs := [.cell 6 140]) rfl (vs := [.agg (arrF .u8 64 (ccF key ct nc))]) (.row 3 rfl rfl _ Tryd.underlying140 rfl kr .nil) (.agg (arrF .u8 64 (ccF key ct nc))) rfl ⟨rfl, H.kept⟩
end Go.Proofs.YtdejhenkdbjakaaDoor
