/- FieldReckons: the walk by rules. -/
import Derived.Test.YtdmioipdmdmkhaaDoorH2
import Derived.Test.YtdmioipdmdmkhaaDoorE2
import Derived.Test.YtdmioipdmdmkhaaDoorE4
set_option linter.unusedVariables false
set_option linter.unusedSimpArgs false
namespace Go.Proofs.YtdmioipdmdmkhaaDoor
open Go.RowKit
theorem choose_el (t : Bool) {v u : Value} {x y : Nat} (hv : El v x) (hu : El u y) : El (if t then v else u) (if t then x else y) := by
  cases t
  · exact hu
  · exact hv
set_option maxRecDepth 100000 in
set_option maxHeartbeats 4000000 in
theorem reckons_any (f : Nat → Nat) (hf : ∀ b, b < 32 → f b < 256) (g : Nat → Nat) (hg : ∀ b, b < 32 → g b < 256) (h : Nat → Nat) (hh : ∀ b, b < 32 → h b < 256) (tf : Bool) (w : World) (h4 : Four w) : Calls Tryd.prog 10 #[.agg (kArr f), .agg (kArr g), .agg (kArr h), .bool tf] w fun r w' => r = .returned (.bool true) ∧ Below w.heap.size w w' := by
  have Of := of_any f hf
  have Lf := ofL_el hf
  have Rf := fun w => rof_any f hf w
  obtain ⟨x0, x1, x2, x3, x4, hcf⟩ : ∃ a b c d e, ofL f = ⟨a, b, c, d, e⟩ := ⟨_, _, _, _, _, rfl⟩
  rw [hcf] at Of Lf
  unfold Det L5.v limbsV at Of
  unfold two255 at Rf
  dsimp only at Of
  generalize kVal f % 57896044618658097711785492504343953926634992332820282019728792003956564819968 % pr = nf at Lf Rf
  generalize decide (kVal f < pr) = bf at Rf
  clear hcf hf
  have ex : El (limbsV x0 x1 x2 x3 x4) nf := Lf
  have lx := ex.lt
  clear Lf
  have Og := of_any g hg
  have Lg := ofL_el hg
  have Rg := fun w => rof_any g hg w
  obtain ⟨y0, y1, y2, y3, y4, hcg⟩ : ∃ a b c d e, ofL g = ⟨a, b, c, d, e⟩ := ⟨_, _, _, _, _, rfl⟩
  rw [hcg] at Og Lg
  unfold Det L5.v limbsV at Og
  unfold two255 at Rg
  dsimp only at Og
  generalize kVal g % 57896044618658097711785492504343953926634992332820282019728792003956564819968 % pr = ng at Lg Rg
  generalize decide (kVal g < pr) = bg at Rg
  clear hcg hg
  have ey : El (limbsV y0 y1 y2 y3 y4) ng := Lg
  have ly := ey.lt
  clear Lg
  have Oh := of_any h hh
  have Lh := ofL_el hh
  have Rh := fun w => rof_any h hh w
  obtain ⟨z0, z1, z2, z3, z4, hch⟩ : ∃ a b c d e, ofL h = ⟨a, b, c, d, e⟩ := ⟨_, _, _, _, _, rfl⟩
  rw [hch] at Oh Lh
  unfold Det L5.v limbsV at Oh
  unfold two255 at Rh
  dsimp only at Oh
  generalize kVal h % 57896044618658097711785492504343953926634992332820282019728792003956564819968 % pr = nh at Lh Rh
  generalize decide (kVal h < pr) = bh at Rh
  clear hch hh
  have ez : El (limbsV z0 z1 z2 z3 z4) nh := Lh
  have lz := ez.lt
  clear Lh
  obtain ⟨es, ds⟩ := addV_spec ex ey
  generalize addV (limbsV x0 x1 x2 x3 x4) (limbsV y0 y1 y2 y3 y4) = vs at es ds
  obtain ⟨s0, s1, s2, s3, s4, rfl⟩ := es.limbs
  obtain ⟨ed, dd⟩ := subV_spec ex ey
  generalize subV (limbsV x0 x1 x2 x3 x4) (limbsV y0 y1 y2 y3 y4) = vd at ed dd
  obtain ⟨d0, d1, d2, d3, d4, rfl⟩ := ed.limbs
  obtain ⟨em, dm⟩ := mulV_spec ex ey
  generalize mulV (limbsV x0 x1 x2 x3 x4) (limbsV y0 y1 y2 y3 y4) = vm at em dm
  obtain ⟨m0, m1, m2, m3, m4, rfl⟩ := em.limbs
  obtain ⟨ep, dp⟩ := subV_spec es ez
  generalize subV (limbsV s0 s1 s2 s3 s4) (limbsV z0 z1 z2 z3 z4) = vp at ep dp
  obtain ⟨p0, p1, p2, p3, p4, rfl⟩ := ep.limbs
  obtain ⟨eq, dq⟩ := addV_spec ed ez
  generalize addV (limbsV d0 d1 d2 d3 d4) (limbsV z0 z1 z2 z3 z4) = vq at eq dq
  obtain ⟨q0, q1, q2, q3, q4, rfl⟩ := eq.limbs
  obtain ⟨er, dr⟩ := mulV_spec ep eq
  generalize mulV (limbsV p0 p1 p2 p3 p4) (limbsV q0 q1 q2 q3 q4) = vr at er dr
  obtain ⟨r0, r1, r2, r3, r4, rfl⟩ := er.limbs
  obtain ⟨et, dt⟩ := addV_spec er em
  generalize addV (limbsV r0 r1 r2 r3 r4) (limbsV m0 m1 m2 m3 m4) = vt at et dt
  obtain ⟨t0, t1, t2, t3, t4, rfl⟩ := et.limbs
  obtain ⟨be, hbe⟩ : ∃ b, b = decide (nf = ng) := ⟨_, rfl⟩
  have DQ := fun w => equal_any ex ey w
  rw [← hbe] at DQ
  have dc := choose_any tf ex ey
  have eh := choose_el tf ex ey
  obtain ⟨nn, hnn⟩ : ∃ nn, nn = (if tf then nf else ng) := ⟨_, rfl⟩
  rw [← hnn] at eh
  obtain ⟨vh, hvh⟩ : ∃ vh, vh = (if tf then limbsV x0 x1 x2 x3 x4 else limbsV y0 y1 y2 y3 y4) := ⟨_, rfl⟩
  rw [← hvh] at eh dc
  clear hvh
  obtain ⟨j0, j1, j2, j3, j4, rfl⟩ := eh.limbs
  have DKS := fun w => key_any es w
  have DKD := fun w => key_any ed w
  have DKM := fun w => key_any em w
  have DKT := fun w => key_any et w
  have DKH := fun w => key_any eh w
  have RA := fun w => radd_any nf ng lx ly w
  have RS := fun w => rsub_any nf ng lx ly w
  have RM := fun w => rmul_any nf ng lx ly w
  have RP := fun w => rsub_any _ nh es.lt lz w
  have RQ := fun w => radd_any _ nh ed.lt lz w
  have RR := fun w => rmul_any _ _ ep.lt eq.lt w
  have RT := fun w => radd_any _ _ er.lt em.lt w
  have RKS := fun w => rkey_any ((nf + ng) % pr) w
  have RKD := fun w => rkey_any (subP nf ng) w
  have RKM := fun w => rkey_any (nf * ng % pr) w
  have RKT := fun w => rkey_any ((subP ((nf + ng) % pr) nh * ((subP nf ng + nh) % pr) % pr + nf * ng % pr) % pr) w
  have RKH := fun w => rkey_any nn w
  clear ex ey ez es ed em ep eq er et eh
  generalize (subP ((nf + ng) % pr) nh * ((subP nf ng + nh) % pr) % pr + nf * ng % pr) % pr = nt at *
  generalize subP ((nf + ng) % pr) nh * ((subP nf ng + nh) % pr) % pr = nr at *
  generalize subP ((nf + ng) % pr) nh = np at *
  generalize (subP nf ng + nh) % pr = nq at *
  generalize (nf + ng) % pr = ns at *
  generalize subP nf ng = nd at *
  generalize nf * ng % pr = nm at *
  unfold Det at ds dm dq dr dt dc
  unfold DetF at dd dp
  unfold limbsV at ds dd dm dp dq dr dt dc DQ DKS DKD DKM DKT DKH
  unfold keyOf at DKS DKD DKM DKT DKH
  unfold numV at Rf Rg Rh RA RS RM RP RQ RR RT RKS RKD RKM RKT RKH
  have h4p := h4.pos
  skip
  refine C_enter Tryd.func10 rfl 141 Tryd.ntmps10 (Nat.le_of_ble_eq_true rfl) (fun a F => ?_)
  have H := Hp.start [] w
  replace F : Fm 141 [] [(0, .agg (kArr f)), (1, .agg (kArr g)), (2, .agg (kArr h)), (3, .bool tf)] a := F.weak _ (⟨rfl, ⟨rfl, ⟨rfl, ⟨rfl, trivial⟩⟩⟩⟩)
  refine C_seqK (fun K hK => ?_)
  refine C_region ?_
  refine T_new F H (by as_aux_lemma => kernel_rfl) (fun ad => .pointer (some ⟨ad, 0, none⟩)) (.cells (kArr f) 23 (0, 0)) (fun w => by as_aux_lemma => kernel_rfl) ?_
  clear F H; intro b1 a v F H
  refine T_new F H (by as_aux_lemma => kernel_rfl) (fun ad => .pointer (some ⟨ad, 0, none⟩)) (.cells (kArr g) 23 (0, 0)) (fun w => by as_aux_lemma => kernel_rfl) ?_
  clear F H; intro b2 a v F H
  refine T_new F H (by as_aux_lemma => kernel_rfl) (fun ad => .pointer (some ⟨ad, 0, none⟩)) (.cells (kArr h) 23 (0, 0)) (fun w => by as_aux_lemma => kernel_rfl) ?_
  clear F H; intro b3 a v F H
  refine T_val F H (by as_aux_lemma => kernel_rfl) (.bool false) (fun _ _ => by as_aux_lemma => kernel_rfl) ?_
  clear F; intro a F
  refine T_end (hK _ _ ?_)
  clear hK K
  refine C_seqK (fun K hK => ?_)
  refine C_region ?_
  refine T_call F H (by as_aux_lemma => kernel_rfl) 17 #[] (.bool true) (fun w => by as_aux_lemma => kernel_rfl) (Calls.kept (awakeF_any _ (h4.below h4p H.kept.below))) ?_
  clear F H; intro a v F H
  refine T_val F H (by as_aux_lemma => kernel_rfl) (.bool true) (fun _ _ => by as_aux_lemma => kernel_rfl) ?_
  clear F; intro a F
  refine T_end (hK _ _ ?_)
  clear hK K
  refine C_seqK (fun K hK => ?_)
  refine C_region ?_
  refine T_val F H (by as_aux_lemma => kernel_rfl) (.agg (kArr f)) (R_load 2 rfl 23 (.tmp 4) rfl 0 (by as_aux_lemma => kernel_rfl) (kArr f) (part_all _) _ Tryd.underlying23 rfl (by as_aux_lemma => kernel_rfl)) ?_
  clear F; intro a F
  refine T_call F H (by as_aux_lemma => kernel_rfl) 18 #[.agg (kArr f)] (.tuple #[.agg (nArr (dg nf)), .bool bf]) (fun w => by as_aux_lemma => kernel_rfl) (Calls.kept (Rf _)) ?_
  clear F H; intro a v F H
  refine T_val F H (by as_aux_lemma => kernel_rfl) (.tuple #[.agg (nArr (dg nf)), .bool bf]) (fun _ _ => by as_aux_lemma => kernel_rfl) ?_
  clear F; intro a F
  refine T_val F H (by as_aux_lemma => kernel_rfl) (.agg (nArr (dg nf))) (fun _ _ => by as_aux_lemma => kernel_rfl) ?_
  clear F; intro a F
  refine T_val F H (by as_aux_lemma => kernel_rfl) (.bool bf) (fun _ _ => by as_aux_lemma => kernel_rfl) ?_
  clear F; intro a F
  refine T_new F H (by as_aux_lemma => kernel_rfl) (fun ad => .pointer (some ⟨ad, 0, none⟩)) (.cells #[.int .u64 0, .int .u64 0, .int .u64 0, .int .u64 0, .int .u64 0, .int .u64 0, .int .u64 0, .int .u64 0, .int .u64 0, .int .u64 0, .int .u64 0, .int .u64 0, .int .u64 0, .int .u64 0, .int .u64 0, .int .u64 0] 27 (0, 0)) (fun w => by as_aux_lemma => kernel_rfl) ?_
  clear F H; intro b4 a v F H
  refine T_set F H (by as_aux_lemma => kernel_rfl) rfl 0 rfl (nArr (dg nf)) (S_row 0 rfl 27 (.tmp 10) (.tmp 31) rfl (by as_aux_lemma => kernel_rfl) (nArr (dg nf)) (by as_aux_lemma => kernel_rfl) (by as_aux_lemma => kernel_rfl) (by as_aux_lemma => kernel_rfl) (by as_aux_lemma => kernel_rfl)) [⟨true, b4, .cells (nArr (dg nf)) 27 (0, 0)⟩, ⟨true, b3, .cells (kArr h) 23 (0, 0)⟩, ⟨true, b2, .cells (kArr g) 23 (0, 0)⟩, ⟨true, b1, .cells (kArr f) 23 (0, 0)⟩] rfl ?_
  clear F H; intro a v F H
  refine T_val F H (by as_aux_lemma => kernel_rfl) (.bool bf) (fun _ _ => by as_aux_lemma => kernel_rfl) ?_
  clear F; intro a F
  refine T_end (hK _ _ ?_)
  clear hK K
  refine C_seqK (fun K hK => ?_)
  refine C_region ?_
  refine T_val F H (by as_aux_lemma => kernel_rfl) (.agg (kArr g)) (R_load 2 rfl 23 (.tmp 5) rfl 0 (by as_aux_lemma => kernel_rfl) (kArr g) (part_all _) _ Tryd.underlying23 rfl (by as_aux_lemma => kernel_rfl)) ?_
  clear F; intro a F
  refine T_call F H (by as_aux_lemma => kernel_rfl) 18 #[.agg (kArr g)] (.tuple #[.agg (nArr (dg ng)), .bool bg]) (fun w => by as_aux_lemma => kernel_rfl) (Calls.kept (Rg _)) ?_
  clear F H; intro a v F H
  refine T_val F H (by as_aux_lemma => kernel_rfl) (.tuple #[.agg (nArr (dg ng)), .bool bg]) (fun _ _ => by as_aux_lemma => kernel_rfl) ?_
  clear F; intro a F
  refine T_val F H (by as_aux_lemma => kernel_rfl) (.agg (nArr (dg ng))) (fun _ _ => by as_aux_lemma => kernel_rfl) ?_
  clear F; intro a F
  refine T_val F H (by as_aux_lemma => kernel_rfl) (.bool bg) (fun _ _ => by as_aux_lemma => kernel_rfl) ?_
  clear F; intro a F
  refine T_new F H (by as_aux_lemma => kernel_rfl) (fun ad => .pointer (some ⟨ad, 0, none⟩)) (.cells #[.int .u64 0, .int .u64 0, .int .u64 0, .int .u64 0, .int .u64 0, .int .u64 0, .int .u64 0, .int .u64 0, .int .u64 0, .int .u64 0, .int .u64 0, .int .u64 0, .int .u64 0, .int .u64 0, .int .u64 0, .int .u64 0] 27 (0, 0)) (fun w => by as_aux_lemma => kernel_rfl) ?_
  clear F H; intro b5 a v F H
  refine T_set F H (by as_aux_lemma => kernel_rfl) rfl 0 rfl (nArr (dg ng)) (S_row 0 rfl 27 (.tmp 12) (.tmp 36) rfl (by as_aux_lemma => kernel_rfl) (nArr (dg ng)) (by as_aux_lemma => kernel_rfl) (by as_aux_lemma => kernel_rfl) (by as_aux_lemma => kernel_rfl) (by as_aux_lemma => kernel_rfl)) [⟨true, b5, .cells (nArr (dg ng)) 27 (0, 0)⟩, ⟨true, b4, .cells (nArr (dg nf)) 27 (0, 0)⟩, ⟨true, b3, .cells (kArr h) 23 (0, 0)⟩, ⟨true, b2, .cells (kArr g) 23 (0, 0)⟩, ⟨true, b1, .cells (kArr f) 23 (0, 0)⟩] rfl ?_
  clear F H; intro a v F H
  refine T_val F H (by as_aux_lemma => kernel_rfl) (.bool bg) (fun _ _ => by as_aux_lemma => kernel_rfl) ?_
  clear F; intro a F
  refine T_end (hK _ _ ?_)
  clear hK K
  refine C_seqK (fun K hK => ?_)
  refine C_region ?_
  refine T_val F H (by as_aux_lemma => kernel_rfl) (.agg (kArr h)) (R_load 2 rfl 23 (.tmp 6) rfl 0 (by as_aux_lemma => kernel_rfl) (kArr h) (part_all _) _ Tryd.underlying23 rfl (by as_aux_lemma => kernel_rfl)) ?_
  clear F; intro a F
  refine T_call F H (by as_aux_lemma => kernel_rfl) 18 #[.agg (kArr h)] (.tuple #[.agg (nArr (dg nh)), .bool bh]) (fun w => by as_aux_lemma => kernel_rfl) (Calls.kept (Rh _)) ?_
  clear F H; intro a v F H
  refine T_val F H (by as_aux_lemma => kernel_rfl) (.tuple #[.agg (nArr (dg nh)), .bool bh]) (fun _ _ => by as_aux_lemma => kernel_rfl) ?_
  clear F; intro a F
  refine T_val F H (by as_aux_lemma => kernel_rfl) (.agg (nArr (dg nh))) (fun _ _ => by as_aux_lemma => kernel_rfl) ?_
  clear F; intro a F
  refine T_val F H (by as_aux_lemma => kernel_rfl) (.bool bh) (fun _ _ => by as_aux_lemma => kernel_rfl) ?_
  clear F; intro a F
  refine T_new F H (by as_aux_lemma => kernel_rfl) (fun ad => .pointer (some ⟨ad, 0, none⟩)) (.cells #[.int .u64 0, .int .u64 0, .int .u64 0, .int .u64 0, .int .u64 0, .int .u64 0, .int .u64 0, .int .u64 0, .int .u64 0, .int .u64 0, .int .u64 0, .int .u64 0, .int .u64 0, .int .u64 0, .int .u64 0, .int .u64 0] 27 (0, 0)) (fun w => by as_aux_lemma => kernel_rfl) ?_
  clear F H; intro b6 a v F H
  refine T_set F H (by as_aux_lemma => kernel_rfl) rfl 0 rfl (nArr (dg nh)) (S_row 0 rfl 27 (.tmp 14) (.tmp 41) rfl (by as_aux_lemma => kernel_rfl) (nArr (dg nh)) (by as_aux_lemma => kernel_rfl) (by as_aux_lemma => kernel_rfl) (by as_aux_lemma => kernel_rfl) (by as_aux_lemma => kernel_rfl)) [⟨true, b6, .cells (nArr (dg nh)) 27 (0, 0)⟩, ⟨true, b5, .cells (nArr (dg ng)) 27 (0, 0)⟩, ⟨true, b4, .cells (nArr (dg nf)) 27 (0, 0)⟩, ⟨true, b3, .cells (kArr h) 23 (0, 0)⟩, ⟨true, b2, .cells (kArr g) 23 (0, 0)⟩, ⟨true, b1, .cells (kArr f) 23 (0, 0)⟩] rfl ?_
  clear F H; intro a v F H
  refine T_val F H (by as_aux_lemma => kernel_rfl) (.bool bh) (fun _ _ => by as_aux_lemma => kernel_rfl) ?_
  clear F; intro a F
  refine T_end (hK _ _ ?_)
  clear hK K
  refine C_seqK (fun K hK => ?_)
  refine C_region ?_
  refine T_val F H (by as_aux_lemma => kernel_rfl) (.agg (kArr f)) (R_load 5 rfl 23 (.tmp 4) rfl 0 (by as_aux_lemma => kernel_rfl) (kArr f) (part_all _) _ Tryd.underlying23 rfl (by as_aux_lemma => kernel_rfl)) ?_
  clear F; intro a F
  refine T_call F H (by as_aux_lemma => kernel_rfl) 19 #[.agg (kArr f)] (.agg (c5 x0 x1 x2 x3 x4)) (fun w => by as_aux_lemma => kernel_rfl) (Calls.kept (Of _)) ?_
  clear F H; intro a v F H
  refine T_new F H (by as_aux_lemma => kernel_rfl) (fun ad => .pointer (some ⟨ad, 0, none⟩)) (.cells #[.int .u64 0, .int .u64 0, .int .u64 0, .int .u64 0, .int .u64 0] 33 (0, 0)) (fun w => by as_aux_lemma => kernel_rfl) ?_
  clear F H; intro b7 a v F H
  refine T_set F H (by as_aux_lemma => kernel_rfl) rfl 0 rfl (c5 x0 x1 x2 x3 x4) (S_row 0 rfl 33 (.tmp 16) (.tmp 44) rfl (by as_aux_lemma => kernel_rfl) (c5 x0 x1 x2 x3 x4) (by as_aux_lemma => kernel_rfl) (by as_aux_lemma => kernel_rfl) (by as_aux_lemma => kernel_rfl) (by as_aux_lemma => kernel_rfl)) [⟨true, b7, .cells (c5 x0 x1 x2 x3 x4) 33 (0, 0)⟩, ⟨true, b6, .cells (nArr (dg nh)) 27 (0, 0)⟩, ⟨true, b5, .cells (nArr (dg ng)) 27 (0, 0)⟩, ⟨true, b4, .cells (nArr (dg nf)) 27 (0, 0)⟩, ⟨true, b3, .cells (kArr h) 23 (0, 0)⟩, ⟨true, b2, .cells (kArr g) 23 (0, 0)⟩, ⟨true, b1, .cells (kArr f) 23 (0, 0)⟩] rfl ?_
  clear F H; intro a v F H
  refine T_end (hK _ _ ?_)
  clear hK K
  refine C_seqK (fun K hK => ?_)
  refine C_region ?_
  refine T_val F H (by as_aux_lemma => kernel_rfl) (.agg (kArr g)) (R_load 5 rfl 23 (.tmp 5) rfl 0 (by as_aux_lemma => kernel_rfl) (kArr g) (part_all _) _ Tryd.underlying23 rfl (by as_aux_lemma => kernel_rfl)) ?_
  clear F; intro a F
  refine T_call F H (by as_aux_lemma => kernel_rfl) 19 #[.agg (kArr g)] (.agg (c5 y0 y1 y2 y3 y4)) (fun w => by as_aux_lemma => kernel_rfl) (Calls.kept (Og _)) ?_
  clear F H; intro a v F H
  refine T_new F H (by as_aux_lemma => kernel_rfl) (fun ad => .pointer (some ⟨ad, 0, none⟩)) (.cells #[.int .u64 0, .int .u64 0, .int .u64 0, .int .u64 0, .int .u64 0] 33 (0, 0)) (fun w => by as_aux_lemma => kernel_rfl) ?_
  clear F H; intro b8 a v F H
  refine T_set F H (by as_aux_lemma => kernel_rfl) rfl 0 rfl (c5 y0 y1 y2 y3 y4) (S_row 0 rfl 33 (.tmp 17) (.tmp 46) rfl (by as_aux_lemma => kernel_rfl) (c5 y0 y1 y2 y3 y4) (by as_aux_lemma => kernel_rfl) (by as_aux_lemma => kernel_rfl) (by as_aux_lemma => kernel_rfl) (by as_aux_lemma => kernel_rfl)) [⟨true, b8, .cells (c5 y0 y1 y2 y3 y4) 33 (0, 0)⟩, ⟨true, b7, .cells (c5 x0 x1 x2 x3 x4) 33 (0, 0)⟩, ⟨true, b6, .cells (nArr (dg nh)) 27 (0, 0)⟩, ⟨true, b5, .cells (nArr (dg ng)) 27 (0, 0)⟩, ⟨true, b4, .cells (nArr (dg nf)) 27 (0, 0)⟩, ⟨true, b3, .cells (kArr h) 23 (0, 0)⟩, ⟨true, b2, .cells (kArr g) 23 (0, 0)⟩, ⟨true, b1, .cells (kArr f) 23 (0, 0)⟩] rfl ?_
  clear F H; intro a v F H
  refine T_end (hK _ _ ?_)
  clear hK K
  refine C_seqK (fun K hK => ?_)
  refine C_region ?_
  refine T_val F H (by as_aux_lemma => kernel_rfl) (.agg (kArr h)) (R_load 5 rfl 23 (.tmp 6) rfl 0 (by as_aux_lemma => kernel_rfl) (kArr h) (part_all _) _ Tryd.underlying23 rfl (by as_aux_lemma => kernel_rfl)) ?_
  clear F; intro a F
  refine T_call F H (by as_aux_lemma => kernel_rfl) 19 #[.agg (kArr h)] (.agg (c5 z0 z1 z2 z3 z4)) (fun w => by as_aux_lemma => kernel_rfl) (Calls.kept (Oh _)) ?_
  clear F H; intro a v F H
  refine T_new F H (by as_aux_lemma => kernel_rfl) (fun ad => .pointer (some ⟨ad, 0, none⟩)) (.cells #[.int .u64 0, .int .u64 0, .int .u64 0, .int .u64 0, .int .u64 0] 33 (0, 0)) (fun w => by as_aux_lemma => kernel_rfl) ?_
  clear F H; intro b9 a v F H
  refine T_set F H (by as_aux_lemma => kernel_rfl) rfl 0 rfl (c5 z0 z1 z2 z3 z4) (S_row 0 rfl 33 (.tmp 18) (.tmp 48) rfl (by as_aux_lemma => kernel_rfl) (c5 z0 z1 z2 z3 z4) (by as_aux_lemma => kernel_rfl) (by as_aux_lemma => kernel_rfl) (by as_aux_lemma => kernel_rfl) (by as_aux_lemma => kernel_rfl)) [⟨true, b9, .cells (c5 z0 z1 z2 z3 z4) 33 (0, 0)⟩, ⟨true, b8, .cells (c5 y0 y1 y2 y3 y4) 33 (0, 0)⟩, ⟨true, b7, .cells (c5 x0 x1 x2 x3 x4) 33 (0, 0)⟩, ⟨true, b6, .cells (nArr (dg nh)) 27 (0, 0)⟩, ⟨true, b5, .cells (nArr (dg ng)) 27 (0, 0)⟩, ⟨true, b4, .cells (nArr (dg nf)) 27 (0, 0)⟩, ⟨true, b3, .cells (kArr h) 23 (0, 0)⟩, ⟨true, b2, .cells (kArr g) 23 (0, 0)⟩, ⟨true, b1, .cells (kArr f) 23 (0, 0)⟩] rfl ?_
  clear F H; intro a v F H
  refine T_end (hK _ _ ?_)
  clear hK K
  refine C_seqK (fun K hK => ?_)
  refine C_region ?_
  refine T_val F H (by as_aux_lemma => kernel_rfl) (.agg (c5 x0 x1 x2 x3 x4)) (R_load 2 rfl 33 (.tmp 16) rfl 0 (by as_aux_lemma => kernel_rfl) (c5 x0 x1 x2 x3 x4) (part_all _) _ Tryd.underlying33 rfl (by as_aux_lemma => kernel_rfl)) ?_
  clear F; intro a F
  refine T_val F H (by as_aux_lemma => kernel_rfl) (.agg (c5 y0 y1 y2 y3 y4)) (R_load 1 rfl 33 (.tmp 17) rfl 0 (by as_aux_lemma => kernel_rfl) (c5 y0 y1 y2 y3 y4) (part_all _) _ Tryd.underlying33 rfl (by as_aux_lemma => kernel_rfl)) ?_
  clear F; intro a F
  refine T_call F H (by as_aux_lemma => kernel_rfl) 32 #[.agg (c5 x0 x1 x2 x3 x4), .agg (c5 y0 y1 y2 y3 y4)] (.agg (c5 s0 s1 s2 s3 s4)) (fun w => by as_aux_lemma => kernel_rfl) (Calls.kept (ds _)) ?_
  clear F H; intro a v F H
  refine T_new F H (by as_aux_lemma => kernel_rfl) (fun ad => .pointer (some ⟨ad, 0, none⟩)) (.cells #[.int .u64 0, .int .u64 0, .int .u64 0, .int .u64 0, .int .u64 0] 33 (0, 0)) (fun w => by as_aux_lemma => kernel_rfl) ?_
  clear F H; intro b10 a v F H
  refine T_set F H (by as_aux_lemma => kernel_rfl) rfl 0 rfl (c5 s0 s1 s2 s3 s4) (S_row 0 rfl 33 (.tmp 19) (.tmp 51) rfl (by as_aux_lemma => kernel_rfl) (c5 s0 s1 s2 s3 s4) (by as_aux_lemma => kernel_rfl) (by as_aux_lemma => kernel_rfl) (by as_aux_lemma => kernel_rfl) (by as_aux_lemma => kernel_rfl)) [⟨true, b10, .cells (c5 s0 s1 s2 s3 s4) 33 (0, 0)⟩, ⟨true, b9, .cells (c5 z0 z1 z2 z3 z4) 33 (0, 0)⟩, ⟨true, b8, .cells (c5 y0 y1 y2 y3 y4) 33 (0, 0)⟩, ⟨true, b7, .cells (c5 x0 x1 x2 x3 x4) 33 (0, 0)⟩, ⟨true, b6, .cells (nArr (dg nh)) 27 (0, 0)⟩, ⟨true, b5, .cells (nArr (dg ng)) 27 (0, 0)⟩, ⟨true, b4, .cells (nArr (dg nf)) 27 (0, 0)⟩, ⟨true, b3, .cells (kArr h) 23 (0, 0)⟩, ⟨true, b2, .cells (kArr g) 23 (0, 0)⟩, ⟨true, b1, .cells (kArr f) 23 (0, 0)⟩] rfl ?_
  clear F H; intro a v F H
  refine T_end (hK _ _ ?_)
  clear hK K
  refine C_seqK (fun K hK => ?_)
  refine C_region ?_
  refine T_val F H (by as_aux_lemma => kernel_rfl) (.agg (c5 x0 x1 x2 x3 x4)) (R_load 3 rfl 33 (.tmp 16) rfl 0 (by as_aux_lemma => kernel_rfl) (c5 x0 x1 x2 x3 x4) (part_all _) _ Tryd.underlying33 rfl (by as_aux_lemma => kernel_rfl)) ?_
  clear F; intro a F
  refine T_val F H (by as_aux_lemma => kernel_rfl) (.agg (c5 y0 y1 y2 y3 y4)) (R_load 2 rfl 33 (.tmp 17) rfl 0 (by as_aux_lemma => kernel_rfl) (c5 y0 y1 y2 y3 y4) (part_all _) _ Tryd.underlying33 rfl (by as_aux_lemma => kernel_rfl)) ?_
  clear F; intro a F
  refine T_call F H (by as_aux_lemma => kernel_rfl) 33 #[.agg (c5 x0 x1 x2 x3 x4), .agg (c5 y0 y1 y2 y3 y4)] (.agg (c5 d0 d1 d2 d3 d4)) (fun w => by as_aux_lemma => kernel_rfl) (Calls.kept (dd _ (h4.below h4p H.kept.below))) ?_
  clear F H; intro a v F H
  refine T_new F H (by as_aux_lemma => kernel_rfl) (fun ad => .pointer (some ⟨ad, 0, none⟩)) (.cells #[.int .u64 0, .int .u64 0, .int .u64 0, .int .u64 0, .int .u64 0] 33 (0, 0)) (fun w => by as_aux_lemma => kernel_rfl) ?_
  clear F H; intro b11 a v F H
  refine T_set F H (by as_aux_lemma => kernel_rfl) rfl 0 rfl (c5 d0 d1 d2 d3 d4) (S_row 0 rfl 33 (.tmp 20) (.tmp 54) rfl (by as_aux_lemma => kernel_rfl) (c5 d0 d1 d2 d3 d4) (by as_aux_lemma => kernel_rfl) (by as_aux_lemma => kernel_rfl) (by as_aux_lemma => kernel_rfl) (by as_aux_lemma => kernel_rfl)) [⟨true, b11, .cells (c5 d0 d1 d2 d3 d4) 33 (0, 0)⟩, ⟨true, b10, .cells (c5 s0 s1 s2 s3 s4) 33 (0, 0)⟩, ⟨true, b9, .cells (c5 z0 z1 z2 z3 z4) 33 (0, 0)⟩, ⟨true, b8, .cells (c5 y0 y1 y2 y3 y4) 33 (0, 0)⟩, ⟨true, b7, .cells (c5 x0 x1 x2 x3 x4) 33 (0, 0)⟩, ⟨true, b6, .cells (nArr (dg nh)) 27 (0, 0)⟩, ⟨true, b5, .cells (nArr (dg ng)) 27 (0, 0)⟩, ⟨true, b4, .cells (nArr (dg nf)) 27 (0, 0)⟩, ⟨true, b3, .cells (kArr h) 23 (0, 0)⟩, ⟨true, b2, .cells (kArr g) 23 (0, 0)⟩, ⟨true, b1, .cells (kArr f) 23 (0, 0)⟩] rfl ?_
  clear F H; intro a v F H
  refine T_end (hK _ _ ?_)
  clear hK K
  refine C_seqK (fun K hK => ?_)
  refine C_region ?_
  refine T_val F H (by as_aux_lemma => kernel_rfl) (.agg (c5 x0 x1 x2 x3 x4)) (R_load 4 rfl 33 (.tmp 16) rfl 0 (by as_aux_lemma => kernel_rfl) (c5 x0 x1 x2 x3 x4) (part_all _) _ Tryd.underlying33 rfl (by as_aux_lemma => kernel_rfl)) ?_
  clear F; intro a F
  refine T_val F H (by as_aux_lemma => kernel_rfl) (.agg (c5 y0 y1 y2 y3 y4)) (R_load 3 rfl 33 (.tmp 17) rfl 0 (by as_aux_lemma => kernel_rfl) (c5 y0 y1 y2 y3 y4) (part_all _) _ Tryd.underlying33 rfl (by as_aux_lemma => kernel_rfl)) ?_
  clear F; intro a F
  refine T_call F H (by as_aux_lemma => kernel_rfl) 28 #[.agg (c5 x0 x1 x2 x3 x4), .agg (c5 y0 y1 y2 y3 y4)] (.agg (c5 m0 m1 m2 m3 m4)) (fun w => by as_aux_lemma => kernel_rfl) (Calls.kept (dm _)) ?_
  clear F H; intro a v F H
  refine T_new F H (by as_aux_lemma => kernel_rfl) (fun ad => .pointer (some ⟨ad, 0, none⟩)) (.cells #[.int .u64 0, .int .u64 0, .int .u64 0, .int .u64 0, .int .u64 0] 33 (0, 0)) (fun w => by as_aux_lemma => kernel_rfl) ?_
  clear F H; intro b12 a v F H
  refine T_set F H (by as_aux_lemma => kernel_rfl) rfl 0 rfl (c5 m0 m1 m2 m3 m4) (S_row 0 rfl 33 (.tmp 21) (.tmp 57) rfl (by as_aux_lemma => kernel_rfl) (c5 m0 m1 m2 m3 m4) (by as_aux_lemma => kernel_rfl) (by as_aux_lemma => kernel_rfl) (by as_aux_lemma => kernel_rfl) (by as_aux_lemma => kernel_rfl)) [⟨true, b12, .cells (c5 m0 m1 m2 m3 m4) 33 (0, 0)⟩, ⟨true, b11, .cells (c5 d0 d1 d2 d3 d4) 33 (0, 0)⟩, ⟨true, b10, .cells (c5 s0 s1 s2 s3 s4) 33 (0, 0)⟩, ⟨true, b9, .cells (c5 z0 z1 z2 z3 z4) 33 (0, 0)⟩, ⟨true, b8, .cells (c5 y0 y1 y2 y3 y4) 33 (0, 0)⟩, ⟨true, b7, .cells (c5 x0 x1 x2 x3 x4) 33 (0, 0)⟩, ⟨true, b6, .cells (nArr (dg nh)) 27 (0, 0)⟩, ⟨true, b5, .cells (nArr (dg ng)) 27 (0, 0)⟩, ⟨true, b4, .cells (nArr (dg nf)) 27 (0, 0)⟩, ⟨true, b3, .cells (kArr h) 23 (0, 0)⟩, ⟨true, b2, .cells (kArr g) 23 (0, 0)⟩, ⟨true, b1, .cells (kArr f) 23 (0, 0)⟩] rfl ?_
  clear F H; intro a v F H
  refine T_end (hK _ _ ?_)
  clear hK K
  refine C_seqK (fun K hK => ?_)
  refine D_region F H (fun β => [(58, .agg (c5 s0 s1 s2 s3 s4)), (59, .agg (c5 z0 z1 z2 z3 z4)), (60, .agg (c5 p0 p1 p2 p3 p4)), (61, .agg (c5 d0 d1 d2 d3 d4)), (62, .agg (c5 z0 z1 z2 z3 z4)), (63, .agg (c5 q0 q1 q2 q3 q4)), (64, .agg (c5 r0 r1 r2 r3 r4)), (65, .agg (c5 m0 m1 m2 m3 m4)), (66, .agg (c5 t0 t1 t2 t3 t4)), (22, .pointer (some ⟨(β 9), 0, none⟩))]) [58, 59, 60, 61, 62, 63, 64, 65, 66, 22] [⟨9, 10, .cells #[.int .u64 0, .int .u64 0, .int .u64 0, .int .u64 0, .int .u64 0] 33 (0, 0), .cells (c5 t0 t1 t2 t3 t4) 33 (0, 0)⟩] [] [⟨true, b12, .cells (c5 m0 m1 m2 m3 m4) 33 (0, 0)⟩, ⟨true, b11, .cells (c5 d0 d1 d2 d3 d4) 33 (0, 0)⟩, ⟨true, b10, .cells (c5 s0 s1 s2 s3 s4) 33 (0, 0)⟩, ⟨true, b9, .cells (c5 z0 z1 z2 z3 z4) 33 (0, 0)⟩, ⟨true, b8, .cells (c5 y0 y1 y2 y3 y4) 33 (0, 0)⟩, ⟨true, b7, .cells (c5 x0 x1 x2 x3 x4) 33 (0, 0)⟩, ⟨true, b6, .cells (nArr (dg nh)) 27 (0, 0)⟩, ⟨true, b5, .cells (nArr (dg ng)) 27 (0, 0)⟩, ⟨true, b4, .cells (nArr (dg nf)) 27 (0, 0)⟩, ⟨true, b3, .cells (kArr h) 23 (0, 0)⟩, ⟨true, b2, .cells (kArr g) 23 (0, 0)⟩, ⟨true, b1, .cells (kArr f) 23 (0, 0)⟩] [0, 1, 2, 3, 4, 5, 6, 7, 8, 9, 10, 11] (by as_aux_lemma => kernel_rfl) (by as_aux_lemma => kernel_rfl) rfl (fun β => rfl) (fun fit => ⟨?_, ?_, ?_, ?_, ?_, ?_, ?_, ?_, ?_, ?_, ?_, trivial⟩) ?_
  · exact D_val 141 (fun β => by as_aux_lemma => kernel_rfl) (fun β => .agg (c5 s0 s1 s2 s3 s4)) 58 rfl (fun β => by as_aux_lemma => kernel_rfl) (fun β => R_load 2 rfl 33 (.tmp 19) rfl 0 (by as_aux_lemma => kernel_rfl) (c5 s0 s1 s2 s3 s4) (part_all _) _ Tryd.underlying33 rfl (by as_aux_lemma => kernel_rfl)) (by as_aux_lemma => kernel_rfl)
  · exact D_val 141 (fun β => by as_aux_lemma => kernel_rfl) (fun β => .agg (c5 z0 z1 z2 z3 z4)) 59 rfl (fun β => by as_aux_lemma => kernel_rfl) (fun β => R_load 3 rfl 33 (.tmp 18) rfl 0 (by as_aux_lemma => kernel_rfl) (c5 z0 z1 z2 z3 z4) (part_all _) _ Tryd.underlying33 rfl (by as_aux_lemma => kernel_rfl)) (by as_aux_lemma => kernel_rfl)
  · exact D_call 141 (fun β => by as_aux_lemma => kernel_rfl) (fun β => .agg (c5 p0 p1 p2 p3 p4)) 60 rfl (fun β => by as_aux_lemma => kernel_rfl) 33 (fun β => #[.agg (c5 s0 s1 s2 s3 s4), .agg (c5 z0 z1 z2 z3 z4)]) (fun β w => by as_aux_lemma => kernel_rfl) (fun β w hk => Calls.kept (dp _ (h4.below h4p hk.below))) (by as_aux_lemma => kernel_rfl)
  · exact D_val 141 (fun β => by as_aux_lemma => kernel_rfl) (fun β => .agg (c5 d0 d1 d2 d3 d4)) 61 rfl (fun β => by as_aux_lemma => kernel_rfl) (fun β => R_load 1 rfl 33 (.tmp 20) rfl 0 (by as_aux_lemma => kernel_rfl) (c5 d0 d1 d2 d3 d4) (part_all _) _ Tryd.underlying33 rfl (by as_aux_lemma => kernel_rfl)) (by as_aux_lemma => kernel_rfl)
  · exact D_val 141 (fun β => by as_aux_lemma => kernel_rfl) (fun β => .agg (c5 z0 z1 z2 z3 z4)) 62 rfl (fun β => by as_aux_lemma => kernel_rfl) (fun β => R_load 3 rfl 33 (.tmp 18) rfl 0 (by as_aux_lemma => kernel_rfl) (c5 z0 z1 z2 z3 z4) (part_all _) _ Tryd.underlying33 rfl (by as_aux_lemma => kernel_rfl)) (by as_aux_lemma => kernel_rfl)
  · exact D_call 141 (fun β => by as_aux_lemma => kernel_rfl) (fun β => .agg (c5 q0 q1 q2 q3 q4)) 63 rfl (fun β => by as_aux_lemma => kernel_rfl) 32 (fun β => #[.agg (c5 d0 d1 d2 d3 d4), .agg (c5 z0 z1 z2 z3 z4)]) (fun β w => by as_aux_lemma => kernel_rfl) (fun β w hk => Calls.kept (dq _)) (by as_aux_lemma => kernel_rfl)
  · exact D_call 141 (fun β => by as_aux_lemma => kernel_rfl) (fun β => .agg (c5 r0 r1 r2 r3 r4)) 64 rfl (fun β => by as_aux_lemma => kernel_rfl) 28 (fun β => #[.agg (c5 p0 p1 p2 p3 p4), .agg (c5 q0 q1 q2 q3 q4)]) (fun β w => by as_aux_lemma => kernel_rfl) (fun β w hk => Calls.kept (dr _)) (by as_aux_lemma => kernel_rfl)
  · exact D_val 141 (fun β => by as_aux_lemma => kernel_rfl) (fun β => .agg (c5 m0 m1 m2 m3 m4)) 65 rfl (fun β => by as_aux_lemma => kernel_rfl) (fun β => R_load 0 rfl 33 (.tmp 21) rfl 0 (by as_aux_lemma => kernel_rfl) (c5 m0 m1 m2 m3 m4) (part_all _) _ Tryd.underlying33 rfl (by as_aux_lemma => kernel_rfl)) (by as_aux_lemma => kernel_rfl)
  · exact D_call 141 (fun β => by as_aux_lemma => kernel_rfl) (fun β => .agg (c5 t0 t1 t2 t3 t4)) 66 rfl (fun β => by as_aux_lemma => kernel_rfl) 32 (fun β => #[.agg (c5 r0 r1 r2 r3 r4), .agg (c5 m0 m1 m2 m3 m4)]) (fun β w => by as_aux_lemma => kernel_rfl) (fun β w hk => Calls.kept (dt _)) (by as_aux_lemma => kernel_rfl)
  · exact D_new fit ⟨9, 10, .cells #[.int .u64 0, .int .u64 0, .int .u64 0, .int .u64 0, .int .u64 0] 33 (0, 0), .cells (c5 t0 t1 t2 t3 t4) 33 (0, 0)⟩ (List.mem_of_getElem? (i := 0) rfl) rfl 141 (fun β => by as_aux_lemma => kernel_rfl) 22 rfl (fun ad => .pointer (some ⟨ad, 0, none⟩)) (fun β w => by as_aux_lemma => kernel_rfl) (fun β => by as_aux_lemma => kernel_rfl) (fun β b => ⟨rfl, .inr rfl, ⟨rfl, .inr rfl, ⟨rfl, .inr rfl, ⟨rfl, .inr rfl, ⟨rfl, .inr rfl, ⟨rfl, .inr rfl, ⟨rfl, .inr rfl, ⟨rfl, .inr rfl, ⟨rfl, .inr rfl, ⟨rfl, .inl rfl, trivial⟩⟩⟩⟩⟩⟩⟩⟩⟩⟩) (by as_aux_lemma => kernel_rfl)
  · exact D_put fit ⟨9, 10, .cells #[.int .u64 0, .int .u64 0, .int .u64 0, .int .u64 0, .int .u64 0] 33 (0, 0), .cells (c5 t0 t1 t2 t3 t4) 33 (0, 0)⟩ (List.mem_of_getElem? (i := 0) rfl) rfl 141 (fun β => by as_aux_lemma => kernel_rfl) rfl (by as_aux_lemma => kernel_rfl) (fun β w _ hg => P_row rfl rfl (ty := 33) (x := (.tmp 22)) (y := (.tmp 66)) rfl (by as_aux_lemma => kernel_rfl) (by as_aux_lemma => kernel_rfl) (by as_aux_lemma => kernel_rfl) (by as_aux_lemma => kernel_rfl) (by as_aux_lemma => kernel_rfl) hg) (by as_aux_lemma => kernel_rfl)
  clear F H; intro β a v F H
  replace H : Hp [] w [⟨true, (β 9), .cells (c5 t0 t1 t2 t3 t4) 33 (0, 0)⟩, ⟨true, b12, .cells (c5 m0 m1 m2 m3 m4) 33 (0, 0)⟩, ⟨true, b11, .cells (c5 d0 d1 d2 d3 d4) 33 (0, 0)⟩, ⟨true, b10, .cells (c5 s0 s1 s2 s3 s4) 33 (0, 0)⟩, ⟨true, b9, .cells (c5 z0 z1 z2 z3 z4) 33 (0, 0)⟩, ⟨true, b8, .cells (c5 y0 y1 y2 y3 y4) 33 (0, 0)⟩, ⟨true, b7, .cells (c5 x0 x1 x2 x3 x4) 33 (0, 0)⟩, ⟨true, b6, .cells (nArr (dg nh)) 27 (0, 0)⟩, ⟨true, b5, .cells (nArr (dg ng)) 27 (0, 0)⟩, ⟨true, b4, .cells (nArr (dg nf)) 27 (0, 0)⟩, ⟨true, b3, .cells (kArr h) 23 (0, 0)⟩, ⟨true, b2, .cells (kArr g) 23 (0, 0)⟩, ⟨true, b1, .cells (kArr f) 23 (0, 0)⟩] v := H
  replace F : Fm 141 [] [(22, .pointer (some ⟨(β 9), 0, none⟩)), (66, .agg (c5 t0 t1 t2 t3 t4)), (65, .agg (c5 m0 m1 m2 m3 m4)), (64, .agg (c5 r0 r1 r2 r3 r4)), (63, .agg (c5 q0 q1 q2 q3 q4)), (62, .agg (c5 z0 z1 z2 z3 z4)), (61, .agg (c5 d0 d1 d2 d3 d4)), (60, .agg (c5 p0 p1 p2 p3 p4)), (59, .agg (c5 z0 z1 z2 z3 z4)), (58, .agg (c5 s0 s1 s2 s3 s4)), (21, .pointer (some ⟨b12, 0, none⟩)), (57, .agg (c5 m0 m1 m2 m3 m4)), (56, .agg (c5 y0 y1 y2 y3 y4)), (55, .agg (c5 x0 x1 x2 x3 x4)), (20, .pointer (some ⟨b11, 0, none⟩)), (54, .agg (c5 d0 d1 d2 d3 d4)), (53, .agg (c5 y0 y1 y2 y3 y4)), (52, .agg (c5 x0 x1 x2 x3 x4)), (19, .pointer (some ⟨b10, 0, none⟩)), (51, .agg (c5 s0 s1 s2 s3 s4)), (50, .agg (c5 y0 y1 y2 y3 y4)), (49, .agg (c5 x0 x1 x2 x3 x4)), (18, .pointer (some ⟨b9, 0, none⟩)), (48, .agg (c5 z0 z1 z2 z3 z4)), (47, .agg (kArr h)), (17, .pointer (some ⟨b8, 0, none⟩)), (46, .agg (c5 y0 y1 y2 y3 y4)), (45, .agg (kArr g)), (16, .pointer (some ⟨b7, 0, none⟩)), (44, .agg (c5 x0 x1 x2 x3 x4)), (43, .agg (kArr f)), (15, .bool bh), (14, .pointer (some ⟨b6, 0, none⟩)), (42, .bool bh), (41, .agg (nArr (dg nh))), (38, .tuple #[.agg (nArr (dg nh)), .bool bh]), (40, .tuple #[.agg (nArr (dg nh)), .bool bh]), (39, .agg (kArr h)), (13, .bool bg), (12, .pointer (some ⟨b5, 0, none⟩)), (37, .bool bg), (36, .agg (nArr (dg ng))), (33, .tuple #[.agg (nArr (dg ng)), .bool bg]), (35, .tuple #[.agg (nArr (dg ng)), .bool bg]), (34, .agg (kArr g)), (11, .bool bf), (10, .pointer (some ⟨b4, 0, none⟩)), (32, .bool bf), (31, .agg (nArr (dg nf))), (28, .tuple #[.agg (nArr (dg nf)), .bool bf]), (30, .tuple #[.agg (nArr (dg nf)), .bool bf]), (29, .agg (kArr f)), (9, .bool true), (27, .bool true), (8, .bool false), (6, .pointer (some ⟨b3, 0, none⟩)), (5, .pointer (some ⟨b2, 0, none⟩)), (4, .pointer (some ⟨b1, 0, none⟩)), (0, .agg (kArr f)), (1, .agg (kArr g)), (2, .agg (kArr h)), (3, .bool tf)] a := F.weak _ (⟨rfl, ⟨rfl, ⟨rfl, ⟨rfl, ⟨rfl, ⟨rfl, ⟨rfl, ⟨rfl, ⟨rfl, ⟨rfl, ⟨rfl, ⟨rfl, ⟨rfl, ⟨rfl, ⟨rfl, ⟨rfl, ⟨rfl, ⟨rfl, ⟨rfl, ⟨rfl, ⟨rfl, ⟨rfl, ⟨rfl, ⟨rfl, ⟨rfl, ⟨rfl, ⟨rfl, ⟨rfl, ⟨rfl, ⟨rfl, ⟨rfl, ⟨rfl, ⟨rfl, ⟨rfl, ⟨rfl, ⟨rfl, ⟨rfl, ⟨rfl, ⟨rfl, ⟨rfl, ⟨rfl, ⟨rfl, ⟨rfl, ⟨rfl, ⟨rfl, ⟨rfl, ⟨rfl, ⟨rfl, ⟨rfl, ⟨rfl, ⟨rfl, ⟨rfl, ⟨rfl, ⟨rfl, ⟨rfl, ⟨rfl, ⟨rfl, ⟨rfl, ⟨rfl, ⟨rfl, ⟨rfl, ⟨rfl, trivial⟩⟩⟩⟩⟩⟩⟩⟩⟩⟩⟩⟩⟩⟩⟩⟩⟩⟩⟩⟩⟩⟩⟩⟩⟩⟩⟩⟩⟩⟩⟩⟩⟩⟩⟩⟩⟩⟩⟩⟩⟩⟩⟩⟩⟩⟩⟩⟩⟩⟩⟩⟩⟩⟩⟩⟩⟩⟩⟩⟩⟩⟩)
  generalize β 9 = b13 at F H
  refine hK _ _ ?_
  clear hK K
  refine C_seqK (fun K hK => ?_)
  refine D_region F H (fun β => [(67, .agg (nArr (dg nf))), (68, .agg (nArr (dg ng))), (69, .agg (nArr (dg ns))), (70, .agg (nArr (dg nh))), (71, .agg (nArr (dg np))), (72, .agg (nArr (dg nf))), (73, .agg (nArr (dg ng))), (74, .agg (nArr (dg nd))), (75, .agg (nArr (dg nh))), (76, .agg (nArr (dg nq))), (77, .agg (nArr (dg nr))), (78, .agg (nArr (dg nf))), (79, .agg (nArr (dg ng))), (80, .agg (nArr (dg nm))), (81, .agg (nArr (dg nt))), (23, .pointer (some ⟨(β 15), 0, none⟩))]) [67, 68, 69, 70, 71, 72, 73, 74, 75, 76, 77, 78, 79, 80, 81, 23] [⟨15, 16, .cells #[.int .u64 0, .int .u64 0, .int .u64 0, .int .u64 0, .int .u64 0, .int .u64 0, .int .u64 0, .int .u64 0, .int .u64 0, .int .u64 0, .int .u64 0, .int .u64 0, .int .u64 0, .int .u64 0, .int .u64 0, .int .u64 0] 27 (0, 0), .cells (nArr (dg nt)) 27 (0, 0)⟩] [] [⟨true, b13, .cells (c5 t0 t1 t2 t3 t4) 33 (0, 0)⟩, ⟨true, b12, .cells (c5 m0 m1 m2 m3 m4) 33 (0, 0)⟩, ⟨true, b11, .cells (c5 d0 d1 d2 d3 d4) 33 (0, 0)⟩, ⟨true, b10, .cells (c5 s0 s1 s2 s3 s4) 33 (0, 0)⟩, ⟨true, b9, .cells (c5 z0 z1 z2 z3 z4) 33 (0, 0)⟩, ⟨true, b8, .cells (c5 y0 y1 y2 y3 y4) 33 (0, 0)⟩, ⟨true, b7, .cells (c5 x0 x1 x2 x3 x4) 33 (0, 0)⟩, ⟨true, b6, .cells (nArr (dg nh)) 27 (0, 0)⟩, ⟨true, b5, .cells (nArr (dg ng)) 27 (0, 0)⟩, ⟨true, b4, .cells (nArr (dg nf)) 27 (0, 0)⟩, ⟨true, b3, .cells (kArr h) 23 (0, 0)⟩, ⟨true, b2, .cells (kArr g) 23 (0, 0)⟩, ⟨true, b1, .cells (kArr f) 23 (0, 0)⟩] [0, 1, 2, 3, 4, 5, 6, 7, 8, 9, 10, 11, 12] (by as_aux_lemma => kernel_rfl) (by as_aux_lemma => kernel_rfl) rfl (fun β => rfl) (fun fit => ⟨?_, ?_, ?_, ?_, ?_, ?_, ?_, ?_, ?_, ?_, ?_, ?_, ?_, ?_, ?_, ?_, ?_, trivial⟩) ?_
  · exact D_val 141 (fun β => by as_aux_lemma => kernel_rfl) (fun β => .agg (nArr (dg nf))) 67 rfl (fun β => by as_aux_lemma => kernel_rfl) (fun β => R_load 9 rfl 27 (.tmp 10) rfl 0 (by as_aux_lemma => kernel_rfl) (nArr (dg nf)) (part_all _) _ Tryd.underlying27 rfl (by as_aux_lemma => kernel_rfl)) (by as_aux_lemma => kernel_rfl)
  · exact D_val 141 (fun β => by as_aux_lemma => kernel_rfl) (fun β => .agg (nArr (dg ng))) 68 rfl (fun β => by as_aux_lemma => kernel_rfl) (fun β => R_load 8 rfl 27 (.tmp 12) rfl 0 (by as_aux_lemma => kernel_rfl) (nArr (dg ng)) (part_all _) _ Tryd.underlying27 rfl (by as_aux_lemma => kernel_rfl)) (by as_aux_lemma => kernel_rfl)
  · exact D_call 141 (fun β => by as_aux_lemma => kernel_rfl) (fun β => .agg (nArr (dg ns))) 69 rfl (fun β => by as_aux_lemma => kernel_rfl) 34 (fun β => #[.agg (nArr (dg nf)), .agg (nArr (dg ng))]) (fun β w => by as_aux_lemma => kernel_rfl) (fun β w hk => Calls.kept (RA _)) (by as_aux_lemma => kernel_rfl)
  · exact D_val 141 (fun β => by as_aux_lemma => kernel_rfl) (fun β => .agg (nArr (dg nh))) 70 rfl (fun β => by as_aux_lemma => kernel_rfl) (fun β => R_load 7 rfl 27 (.tmp 14) rfl 0 (by as_aux_lemma => kernel_rfl) (nArr (dg nh)) (part_all _) _ Tryd.underlying27 rfl (by as_aux_lemma => kernel_rfl)) (by as_aux_lemma => kernel_rfl)
  · exact D_call 141 (fun β => by as_aux_lemma => kernel_rfl) (fun β => .agg (nArr (dg np))) 71 rfl (fun β => by as_aux_lemma => kernel_rfl) 36 (fun β => #[.agg (nArr (dg ns)), .agg (nArr (dg nh))]) (fun β w => by as_aux_lemma => kernel_rfl) (fun β w hk => Calls.kept (RP _)) (by as_aux_lemma => kernel_rfl)
  · exact D_val 141 (fun β => by as_aux_lemma => kernel_rfl) (fun β => .agg (nArr (dg nf))) 72 rfl (fun β => by as_aux_lemma => kernel_rfl) (fun β => R_load 9 rfl 27 (.tmp 10) rfl 0 (by as_aux_lemma => kernel_rfl) (nArr (dg nf)) (part_all _) _ Tryd.underlying27 rfl (by as_aux_lemma => kernel_rfl)) (by as_aux_lemma => kernel_rfl)
  · exact D_val 141 (fun β => by as_aux_lemma => kernel_rfl) (fun β => .agg (nArr (dg ng))) 73 rfl (fun β => by as_aux_lemma => kernel_rfl) (fun β => R_load 8 rfl 27 (.tmp 12) rfl 0 (by as_aux_lemma => kernel_rfl) (nArr (dg ng)) (part_all _) _ Tryd.underlying27 rfl (by as_aux_lemma => kernel_rfl)) (by as_aux_lemma => kernel_rfl)
  · exact D_call 141 (fun β => by as_aux_lemma => kernel_rfl) (fun β => .agg (nArr (dg nd))) 74 rfl (fun β => by as_aux_lemma => kernel_rfl) 36 (fun β => #[.agg (nArr (dg nf)), .agg (nArr (dg ng))]) (fun β w => by as_aux_lemma => kernel_rfl) (fun β w hk => Calls.kept (RS _)) (by as_aux_lemma => kernel_rfl)
  · exact D_val 141 (fun β => by as_aux_lemma => kernel_rfl) (fun β => .agg (nArr (dg nh))) 75 rfl (fun β => by as_aux_lemma => kernel_rfl) (fun β => R_load 7 rfl 27 (.tmp 14) rfl 0 (by as_aux_lemma => kernel_rfl) (nArr (dg nh)) (part_all _) _ Tryd.underlying27 rfl (by as_aux_lemma => kernel_rfl)) (by as_aux_lemma => kernel_rfl)
  · exact D_call 141 (fun β => by as_aux_lemma => kernel_rfl) (fun β => .agg (nArr (dg nq))) 76 rfl (fun β => by as_aux_lemma => kernel_rfl) 34 (fun β => #[.agg (nArr (dg nd)), .agg (nArr (dg nh))]) (fun β w => by as_aux_lemma => kernel_rfl) (fun β w hk => Calls.kept (RQ _)) (by as_aux_lemma => kernel_rfl)
  · exact D_call 141 (fun β => by as_aux_lemma => kernel_rfl) (fun β => .agg (nArr (dg nr))) 77 rfl (fun β => by as_aux_lemma => kernel_rfl) 35 (fun β => #[.agg (nArr (dg np)), .agg (nArr (dg nq))]) (fun β w => by as_aux_lemma => kernel_rfl) (fun β w hk => Calls.kept (RR _)) (by as_aux_lemma => kernel_rfl)
  · exact D_val 141 (fun β => by as_aux_lemma => kernel_rfl) (fun β => .agg (nArr (dg nf))) 78 rfl (fun β => by as_aux_lemma => kernel_rfl) (fun β => R_load 9 rfl 27 (.tmp 10) rfl 0 (by as_aux_lemma => kernel_rfl) (nArr (dg nf)) (part_all _) _ Tryd.underlying27 rfl (by as_aux_lemma => kernel_rfl)) (by as_aux_lemma => kernel_rfl)
  · exact D_val 141 (fun β => by as_aux_lemma => kernel_rfl) (fun β => .agg (nArr (dg ng))) 79 rfl (fun β => by as_aux_lemma => kernel_rfl) (fun β => R_load 8 rfl 27 (.tmp 12) rfl 0 (by as_aux_lemma => kernel_rfl) (nArr (dg ng)) (part_all _) _ Tryd.underlying27 rfl (by as_aux_lemma => kernel_rfl)) (by as_aux_lemma => kernel_rfl)
  · exact D_call 141 (fun β => by as_aux_lemma => kernel_rfl) (fun β => .agg (nArr (dg nm))) 80 rfl (fun β => by as_aux_lemma => kernel_rfl) 35 (fun β => #[.agg (nArr (dg nf)), .agg (nArr (dg ng))]) (fun β w => by as_aux_lemma => kernel_rfl) (fun β w hk => Calls.kept (RM _)) (by as_aux_lemma => kernel_rfl)
  · exact D_call 141 (fun β => by as_aux_lemma => kernel_rfl) (fun β => .agg (nArr (dg nt))) 81 rfl (fun β => by as_aux_lemma => kernel_rfl) 34 (fun β => #[.agg (nArr (dg nr)), .agg (nArr (dg nm))]) (fun β w => by as_aux_lemma => kernel_rfl) (fun β w hk => Calls.kept (RT _)) (by as_aux_lemma => kernel_rfl)
  · exact D_new fit ⟨15, 16, .cells #[.int .u64 0, .int .u64 0, .int .u64 0, .int .u64 0, .int .u64 0, .int .u64 0, .int .u64 0, .int .u64 0, .int .u64 0, .int .u64 0, .int .u64 0, .int .u64 0, .int .u64 0, .int .u64 0, .int .u64 0, .int .u64 0] 27 (0, 0), .cells (nArr (dg nt)) 27 (0, 0)⟩ (List.mem_of_getElem? (i := 0) rfl) rfl 141 (fun β => by as_aux_lemma => kernel_rfl) 23 rfl (fun ad => .pointer (some ⟨ad, 0, none⟩)) (fun β w => by as_aux_lemma => kernel_rfl) (fun β => by as_aux_lemma => kernel_rfl) (fun β b => ⟨rfl, .inr rfl, ⟨rfl, .inr rfl, ⟨rfl, .inr rfl, ⟨rfl, .inr rfl, ⟨rfl, .inr rfl, ⟨rfl, .inr rfl, ⟨rfl, .inr rfl, ⟨rfl, .inr rfl, ⟨rfl, .inr rfl, ⟨rfl, .inr rfl, ⟨rfl, .inr rfl, ⟨rfl, .inr rfl, ⟨rfl, .inr rfl, ⟨rfl, .inr rfl, ⟨rfl, .inr rfl, ⟨rfl, .inl rfl, trivial⟩⟩⟩⟩⟩⟩⟩⟩⟩⟩⟩⟩⟩⟩⟩⟩) (by as_aux_lemma => kernel_rfl)
  · exact D_put fit ⟨15, 16, .cells #[.int .u64 0, .int .u64 0, .int .u64 0, .int .u64 0, .int .u64 0, .int .u64 0, .int .u64 0, .int .u64 0, .int .u64 0, .int .u64 0, .int .u64 0, .int .u64 0, .int .u64 0, .int .u64 0, .int .u64 0, .int .u64 0] 27 (0, 0), .cells (nArr (dg nt)) 27 (0, 0)⟩ (List.mem_of_getElem? (i := 0) rfl) rfl 141 (fun β => by as_aux_lemma => kernel_rfl) rfl (by as_aux_lemma => kernel_rfl) (fun β w _ hg => P_row rfl rfl (ty := 27) (x := (.tmp 23)) (y := (.tmp 81)) rfl (by as_aux_lemma => kernel_rfl) (by as_aux_lemma => kernel_rfl) (by as_aux_lemma => kernel_rfl) (by as_aux_lemma => kernel_rfl) (by as_aux_lemma => kernel_rfl) hg) (by as_aux_lemma => kernel_rfl)
  clear F H; intro β a v F H
  replace H : Hp [] w [⟨true, (β 15), .cells (nArr (dg nt)) 27 (0, 0)⟩, ⟨true, b13, .cells (c5 t0 t1 t2 t3 t4) 33 (0, 0)⟩, ⟨true, b12, .cells (c5 m0 m1 m2 m3 m4) 33 (0, 0)⟩, ⟨true, b11, .cells (c5 d0 d1 d2 d3 d4) 33 (0, 0)⟩, ⟨true, b10, .cells (c5 s0 s1 s2 s3 s4) 33 (0, 0)⟩, ⟨true, b9, .cells (c5 z0 z1 z2 z3 z4) 33 (0, 0)⟩, ⟨true, b8, .cells (c5 y0 y1 y2 y3 y4) 33 (0, 0)⟩, ⟨true, b7, .cells (c5 x0 x1 x2 x3 x4) 33 (0, 0)⟩, ⟨true, b6, .cells (nArr (dg nh)) 27 (0, 0)⟩, ⟨true, b5, .cells (nArr (dg ng)) 27 (0, 0)⟩, ⟨true, b4, .cells (nArr (dg nf)) 27 (0, 0)⟩, ⟨true, b3, .cells (kArr h) 23 (0, 0)⟩, ⟨true, b2, .cells (kArr g) 23 (0, 0)⟩, ⟨true, b1, .cells (kArr f) 23 (0, 0)⟩] v := H
  replace F : Fm 141 [] [(23, .pointer (some ⟨(β 15), 0, none⟩)), (81, .agg (nArr (dg nt))), (80, .agg (nArr (dg nm))), (79, .agg (nArr (dg ng))), (78, .agg (nArr (dg nf))), (77, .agg (nArr (dg nr))), (76, .agg (nArr (dg nq))), (75, .agg (nArr (dg nh))), (74, .agg (nArr (dg nd))), (73, .agg (nArr (dg ng))), (72, .agg (nArr (dg nf))), (71, .agg (nArr (dg np))), (70, .agg (nArr (dg nh))), (69, .agg (nArr (dg ns))), (68, .agg (nArr (dg ng))), (67, .agg (nArr (dg nf))), (22, .pointer (some ⟨b13, 0, none⟩)), (66, .agg (c5 t0 t1 t2 t3 t4)), (65, .agg (c5 m0 m1 m2 m3 m4)), (64, .agg (c5 r0 r1 r2 r3 r4)), (63, .agg (c5 q0 q1 q2 q3 q4)), (62, .agg (c5 z0 z1 z2 z3 z4)), (61, .agg (c5 d0 d1 d2 d3 d4)), (60, .agg (c5 p0 p1 p2 p3 p4)), (59, .agg (c5 z0 z1 z2 z3 z4)), (58, .agg (c5 s0 s1 s2 s3 s4)), (21, .pointer (some ⟨b12, 0, none⟩)), (57, .agg (c5 m0 m1 m2 m3 m4)), (56, .agg (c5 y0 y1 y2 y3 y4)), (55, .agg (c5 x0 x1 x2 x3 x4)), (20, .pointer (some ⟨b11, 0, none⟩)), (54, .agg (c5 d0 d1 d2 d3 d4)), (53, .agg (c5 y0 y1 y2 y3 y4)), (52, .agg (c5 x0 x1 x2 x3 x4)), (19, .pointer (some ⟨b10, 0, none⟩)), (51, .agg (c5 s0 s1 s2 s3 s4)), (50, .agg (c5 y0 y1 y2 y3 y4)), (49, .agg (c5 x0 x1 x2 x3 x4)), (18, .pointer (some ⟨b9, 0, none⟩)), (48, .agg (c5 z0 z1 z2 z3 z4)), (47, .agg (kArr h)), (17, .pointer (some ⟨b8, 0, none⟩)), (46, .agg (c5 y0 y1 y2 y3 y4)), (45, .agg (kArr g)), (16, .pointer (some ⟨b7, 0, none⟩)), (44, .agg (c5 x0 x1 x2 x3 x4)), (43, .agg (kArr f)), (15, .bool bh), (14, .pointer (some ⟨b6, 0, none⟩)), (42, .bool bh), (41, .agg (nArr (dg nh))), (38, .tuple #[.agg (nArr (dg nh)), .bool bh]), (40, .tuple #[.agg (nArr (dg nh)), .bool bh]), (39, .agg (kArr h)), (13, .bool bg), (12, .pointer (some ⟨b5, 0, none⟩)), (37, .bool bg), (36, .agg (nArr (dg ng))), (33, .tuple #[.agg (nArr (dg ng)), .bool bg]), (35, .tuple #[.agg (nArr (dg ng)), .bool bg]), (34, .agg (kArr g)), (11, .bool bf), (10, .pointer (some ⟨b4, 0, none⟩)), (32, .bool bf), (31, .agg (nArr (dg nf))), (28, .tuple #[.agg (nArr (dg nf)), .bool bf]), (30, .tuple #[.agg (nArr (dg nf)), .bool bf]), (29, .agg (kArr f)), (9, .bool true), (27, .bool true), (8, .bool false), (6, .pointer (some ⟨b3, 0, none⟩)), (5, .pointer (some ⟨b2, 0, none⟩)), (4, .pointer (some ⟨b1, 0, none⟩)), (0, .agg (kArr f)), (1, .agg (kArr g)), (2, .agg (kArr h)), (3, .bool tf)] a := F.weak _ (⟨rfl, ⟨rfl, ⟨rfl, ⟨rfl, ⟨rfl, ⟨rfl, ⟨rfl, ⟨rfl, ⟨rfl, ⟨rfl, ⟨rfl, ⟨rfl, ⟨rfl, ⟨rfl, ⟨rfl, ⟨rfl, ⟨rfl, ⟨rfl, ⟨rfl, ⟨rfl, ⟨rfl, ⟨rfl, ⟨rfl, ⟨rfl, ⟨rfl, ⟨rfl, ⟨rfl, ⟨rfl, ⟨rfl, ⟨rfl, ⟨rfl, ⟨rfl, ⟨rfl, ⟨rfl, ⟨rfl, ⟨rfl, ⟨rfl, ⟨rfl, ⟨rfl, ⟨rfl, ⟨rfl, ⟨rfl, ⟨rfl, ⟨rfl, ⟨rfl, ⟨rfl, ⟨rfl, ⟨rfl, ⟨rfl, ⟨rfl, ⟨rfl, ⟨rfl, ⟨rfl, ⟨rfl, ⟨rfl, ⟨rfl, ⟨rfl, ⟨rfl, ⟨rfl, ⟨rfl, ⟨rfl, ⟨rfl, ⟨rfl, ⟨rfl, ⟨rfl, ⟨rfl, ⟨rfl, ⟨rfl, ⟨rfl, ⟨rfl, ⟨rfl, ⟨rfl, ⟨rfl, ⟨rfl, ⟨rfl, ⟨rfl, ⟨rfl, ⟨rfl, trivial⟩⟩⟩⟩⟩⟩⟩⟩⟩⟩⟩⟩⟩⟩⟩⟩⟩⟩⟩⟩⟩⟩⟩⟩⟩⟩⟩⟩⟩⟩⟩⟩⟩⟩⟩⟩⟩⟩⟩⟩⟩⟩⟩⟩⟩⟩⟩⟩⟩⟩⟩⟩⟩⟩⟩⟩⟩⟩⟩⟩⟩⟩⟩⟩⟩⟩⟩⟩⟩⟩⟩⟩⟩⟩⟩⟩⟩⟩)
  generalize β 15 = b14 at F H
  refine hK _ _ ?_
  clear hK K
  refine C_seqK (fun K hK => ?_)
  refine C_region ?_
  refine T_val F H (by as_aux_lemma => kernel_rfl) (.agg (c5 x0 x1 x2 x3 x4)) (R_load 7 rfl 33 (.tmp 16) rfl 0 (by as_aux_lemma => kernel_rfl) (c5 x0 x1 x2 x3 x4) (part_all _) _ Tryd.underlying33 rfl (by as_aux_lemma => kernel_rfl)) ?_
  clear F; intro a F
  refine T_val F H (by as_aux_lemma => kernel_rfl) (.agg (c5 y0 y1 y2 y3 y4)) (R_load 6 rfl 33 (.tmp 17) rfl 0 (by as_aux_lemma => kernel_rfl) (c5 y0 y1 y2 y3 y4) (part_all _) _ Tryd.underlying33 rfl (by as_aux_lemma => kernel_rfl)) ?_
  clear F; intro a F
  refine T_call F H (by as_aux_lemma => kernel_rfl) 27 #[.agg (c5 x0 x1 x2 x3 x4), .agg (c5 y0 y1 y2 y3 y4)] (.bool be) (fun w => by as_aux_lemma => kernel_rfl) (Calls.kept (DQ _)) ?_
  clear F H; intro a v F H
  refine T_val F H (by as_aux_lemma => kernel_rfl) (.bool be) (fun _ _ => by as_aux_lemma => kernel_rfl) ?_
  clear F; intro a F
  refine T_end (hK _ _ ?_)
  clear hK K
  refine C_seqK (fun K hK => ?_)
  refine C_region ?_
  refine T_val F H (by as_aux_lemma => kernel_rfl) (.bool tf) (fun _ _ => by as_aux_lemma => kernel_rfl) ?_
  clear F; intro a F
  refine T_val F H (by as_aux_lemma => kernel_rfl) (.agg (c5 x0 x1 x2 x3 x4)) (R_load 7 rfl 33 (.tmp 16) rfl 0 (by as_aux_lemma => kernel_rfl) (c5 x0 x1 x2 x3 x4) (part_all _) _ Tryd.underlying33 rfl (by as_aux_lemma => kernel_rfl)) ?_
  clear F; intro a F
  refine T_val F H (by as_aux_lemma => kernel_rfl) (.agg (c5 y0 y1 y2 y3 y4)) (R_load 6 rfl 33 (.tmp 17) rfl 0 (by as_aux_lemma => kernel_rfl) (c5 y0 y1 y2 y3 y4) (part_all _) _ Tryd.underlying33 rfl (by as_aux_lemma => kernel_rfl)) ?_
  clear F; intro a F
  refine T_call F H (by as_aux_lemma => kernel_rfl) 37 #[.bool tf, .agg (c5 x0 x1 x2 x3 x4), .agg (c5 y0 y1 y2 y3 y4)] (.agg (c5 j0 j1 j2 j3 j4)) (fun w => by as_aux_lemma => kernel_rfl) (Calls.kept (dc _)) ?_
  clear F H; intro a v F H
  refine T_new F H (by as_aux_lemma => kernel_rfl) (fun ad => .pointer (some ⟨ad, 0, none⟩)) (.cells #[.int .u64 0, .int .u64 0, .int .u64 0, .int .u64 0, .int .u64 0] 33 (0, 0)) (fun w => by as_aux_lemma => kernel_rfl) ?_
  clear F H; intro b15 a v F H
  refine T_set F H (by as_aux_lemma => kernel_rfl) rfl 0 rfl (c5 j0 j1 j2 j3 j4) (S_row 0 rfl 33 (.tmp 25) (.tmp 88) rfl (by as_aux_lemma => kernel_rfl) (c5 j0 j1 j2 j3 j4) (by as_aux_lemma => kernel_rfl) (by as_aux_lemma => kernel_rfl) (by as_aux_lemma => kernel_rfl) (by as_aux_lemma => kernel_rfl)) [⟨true, b15, .cells (c5 j0 j1 j2 j3 j4) 33 (0, 0)⟩, ⟨true, b14, .cells (nArr (dg nt)) 27 (0, 0)⟩, ⟨true, b13, .cells (c5 t0 t1 t2 t3 t4) 33 (0, 0)⟩, ⟨true, b12, .cells (c5 m0 m1 m2 m3 m4) 33 (0, 0)⟩, ⟨true, b11, .cells (c5 d0 d1 d2 d3 d4) 33 (0, 0)⟩, ⟨true, b10, .cells (c5 s0 s1 s2 s3 s4) 33 (0, 0)⟩, ⟨true, b9, .cells (c5 z0 z1 z2 z3 z4) 33 (0, 0)⟩, ⟨true, b8, .cells (c5 y0 y1 y2 y3 y4) 33 (0, 0)⟩, ⟨true, b7, .cells (c5 x0 x1 x2 x3 x4) 33 (0, 0)⟩, ⟨true, b6, .cells (nArr (dg nh)) 27 (0, 0)⟩, ⟨true, b5, .cells (nArr (dg ng)) 27 (0, 0)⟩, ⟨true, b4, .cells (nArr (dg nf)) 27 (0, 0)⟩, ⟨true, b3, .cells (kArr h) 23 (0, 0)⟩, ⟨true, b2, .cells (kArr g) 23 (0, 0)⟩, ⟨true, b1, .cells (kArr f) 23 (0, 0)⟩] rfl ?_
  clear F H; intro a v F H
  refine T_end (hK _ _ ?_)
  clear hK K
  refine C_seqK (fun K hK => ?_)
  refine C_region ?_
  refine T_val F H (by as_aux_lemma => kernel_rfl) (.agg (nArr (dg ng))) (R_load 10 rfl 27 (.tmp 12) rfl 0 (by as_aux_lemma => kernel_rfl) (nArr (dg ng)) (part_all _) _ Tryd.underlying27 rfl (by as_aux_lemma => kernel_rfl)) ?_
  clear F; intro a F
  refine T_new F H (by as_aux_lemma => kernel_rfl) (fun ad => .pointer (some ⟨ad, 0, none⟩)) (.cells #[.int .u64 0, .int .u64 0, .int .u64 0, .int .u64 0, .int .u64 0, .int .u64 0, .int .u64 0, .int .u64 0, .int .u64 0, .int .u64 0, .int .u64 0, .int .u64 0, .int .u64 0, .int .u64 0, .int .u64 0, .int .u64 0] 27 (0, 0)) (fun w => by as_aux_lemma => kernel_rfl) ?_
  clear F H; intro b16 a v F H
  refine T_set F H (by as_aux_lemma => kernel_rfl) rfl 0 rfl (nArr (dg ng)) (S_row 0 rfl 27 (.tmp 26) (.tmp 89) rfl (by as_aux_lemma => kernel_rfl) (nArr (dg ng)) (by as_aux_lemma => kernel_rfl) (by as_aux_lemma => kernel_rfl) (by as_aux_lemma => kernel_rfl) (by as_aux_lemma => kernel_rfl)) [⟨true, b16, .cells (nArr (dg ng)) 27 (0, 0)⟩, ⟨true, b15, .cells (c5 j0 j1 j2 j3 j4) 33 (0, 0)⟩, ⟨true, b14, .cells (nArr (dg nt)) 27 (0, 0)⟩, ⟨true, b13, .cells (c5 t0 t1 t2 t3 t4) 33 (0, 0)⟩, ⟨true, b12, .cells (c5 m0 m1 m2 m3 m4) 33 (0, 0)⟩, ⟨true, b11, .cells (c5 d0 d1 d2 d3 d4) 33 (0, 0)⟩, ⟨true, b10, .cells (c5 s0 s1 s2 s3 s4) 33 (0, 0)⟩, ⟨true, b9, .cells (c5 z0 z1 z2 z3 z4) 33 (0, 0)⟩, ⟨true, b8, .cells (c5 y0 y1 y2 y3 y4) 33 (0, 0)⟩, ⟨true, b7, .cells (c5 x0 x1 x2 x3 x4) 33 (0, 0)⟩, ⟨true, b6, .cells (nArr (dg nh)) 27 (0, 0)⟩, ⟨true, b5, .cells (nArr (dg ng)) 27 (0, 0)⟩, ⟨true, b4, .cells (nArr (dg nf)) 27 (0, 0)⟩, ⟨true, b3, .cells (kArr h) 23 (0, 0)⟩, ⟨true, b2, .cells (kArr g) 23 (0, 0)⟩, ⟨true, b1, .cells (kArr f) 23 (0, 0)⟩] rfl ?_
  clear F H; intro a v F H
  refine T_end (hK _ _ ?_)
  clear hK K
  replace F : Fm 141 [] [(3, .bool tf), (9, .bool true), (10, .pointer (some ⟨b4, 0, none⟩)), (12, .pointer (some ⟨b5, 0, none⟩)), (16, .pointer (some ⟨b7, 0, none⟩)), (17, .pointer (some ⟨b8, 0, none⟩)), (19, .pointer (some ⟨b10, 0, none⟩)), (20, .pointer (some ⟨b11, 0, none⟩)), (21, .pointer (some ⟨b12, 0, none⟩)), (22, .pointer (some ⟨b13, 0, none⟩)), (23, .pointer (some ⟨b14, 0, none⟩)), (24, .bool be), (25, .pointer (some ⟨b15, 0, none⟩)), (26, .pointer (some ⟨b16, 0, none⟩))] a := F.weak _ (⟨rfl, ⟨rfl, ⟨rfl, ⟨rfl, ⟨rfl, ⟨rfl, ⟨rfl, ⟨rfl, ⟨rfl, ⟨rfl, ⟨rfl, ⟨rfl, ⟨rfl, ⟨rfl, trivial⟩⟩⟩⟩⟩⟩⟩⟩⟩⟩⟩⟩⟩⟩)
  refine C_seqK (fun K hK => ?_)
  cases tf
  · have hn3 : ng = nn := (hnn.trans (if_neg Bool.false_ne_true)).symm
    clear hnn
    subst hn3
    refine C_seqK (fun K hK => ?_)
    refine C_region ?_
    refine T_val F H (by as_aux_lemma => kernel_rfl) (.bool false) (fun _ _ => by as_aux_lemma => kernel_rfl) ?_
    clear F; intro a F
    refine T_end (hK _ _ ?_)
    clear hK K
    refine C_if F false rfl rfl ?_
    refine wp_skip ?_
    refine hK _ _ ?_
    clear hK K
    refine C_seqK (fun K hK => ?_)
    refine D_region F H (fun β => [(92, .bool true), (93, .bool true), (94, .agg (c5 s0 s1 s2 s3 s4)), (95, .agg (kArr (byteOf ns))), (96, .agg (nArr (dg nf))), (97, .agg (nArr (dg ng))), (98, .agg (nArr (dg ns))), (99, .agg (kArr (byteOf ns))), (100, .bool true), (101, .bool true), (102, .bool true), (103, .agg (c5 d0 d1 d2 d3 d4)), (104, .agg (kArr (byteOf nd))), (105, .agg (nArr (dg nf))), (106, .agg (nArr (dg ng))), (107, .agg (nArr (dg nd))), (108, .agg (kArr (byteOf nd))), (109, .bool true), (110, .bool true), (111, .bool true), (112, .agg (c5 m0 m1 m2 m3 m4)), (113, .agg (kArr (byteOf nm))), (114, .agg (nArr (dg nf))), (115, .agg (nArr (dg ng))), (116, .agg (nArr (dg nm))), (117, .agg (kArr (byteOf nm))), (118, .bool true), (119, .bool true), (120, .bool true), (121, .agg (c5 t0 t1 t2 t3 t4)), (122, .agg (kArr (byteOf nt))), (123, .agg (nArr (dg nt))), (124, .agg (kArr (byteOf nt))), (125, .bool true), (126, .bool true), (127, .bool true), (128, .bool be), (129, .agg (nArr (dg nf))), (130, .agg (nArr (dg ng))), (131, .bool be), (132, .bool true), (133, .bool true), (134, .bool true), (135, .agg (c5 j0 j1 j2 j3 j4)), (136, .agg (kArr (byteOf ng))), (137, .agg (nArr (dg ng))), (138, .agg (kArr (byteOf ng))), (139, .bool true), (140, .bool true), (8, .bool true)]) [92, 93, 94, 95, 96, 97, 98, 99, 100, 101, 102, 103, 104, 105, 106, 107, 108, 109, 110, 111, 112, 113, 114, 115, 116, 117, 118, 119, 120, 121, 122, 123, 124, 125, 126, 127, 128, 129, 130, 131, 132, 133, 134, 135, 136, 137, 138, 139, 140, 8] [] [] [⟨true, b16, .cells (nArr (dg ng)) 27 (0, 0)⟩, ⟨true, b15, .cells (c5 j0 j1 j2 j3 j4) 33 (0, 0)⟩, ⟨true, b14, .cells (nArr (dg nt)) 27 (0, 0)⟩, ⟨true, b13, .cells (c5 t0 t1 t2 t3 t4) 33 (0, 0)⟩, ⟨true, b12, .cells (c5 m0 m1 m2 m3 m4) 33 (0, 0)⟩, ⟨true, b11, .cells (c5 d0 d1 d2 d3 d4) 33 (0, 0)⟩, ⟨true, b10, .cells (c5 s0 s1 s2 s3 s4) 33 (0, 0)⟩, ⟨true, b9, .cells (c5 z0 z1 z2 z3 z4) 33 (0, 0)⟩, ⟨true, b8, .cells (c5 y0 y1 y2 y3 y4) 33 (0, 0)⟩, ⟨true, b7, .cells (c5 x0 x1 x2 x3 x4) 33 (0, 0)⟩, ⟨true, b6, .cells (nArr (dg nh)) 27 (0, 0)⟩, ⟨true, b5, .cells (nArr (dg ng)) 27 (0, 0)⟩, ⟨true, b4, .cells (nArr (dg nf)) 27 (0, 0)⟩, ⟨true, b3, .cells (kArr h) 23 (0, 0)⟩, ⟨true, b2, .cells (kArr g) 23 (0, 0)⟩, ⟨true, b1, .cells (kArr f) 23 (0, 0)⟩] [0, 1, 2, 3, 4, 5, 6, 7, 8, 9, 10, 11, 12, 13, 14, 15] (by as_aux_lemma => kernel_rfl) (by as_aux_lemma => kernel_rfl) rfl (fun β => rfl) (fun fit => ⟨?_, ?_, ?_, ?_, ?_, ?_, ?_, ?_, ?_, ?_, ?_, ?_, ?_, ?_, ?_, ?_, ?_, ?_, ?_, ?_, ?_, ?_, ?_, ?_, ?_, ?_, ?_, ?_, ?_, ?_, ?_, ?_, ?_, ?_, ?_, ?_, ?_, ?_, ?_, ?_, ?_, ?_, ?_, ?_, ?_, ?_, ?_, ?_, ?_, ?_, trivial⟩) ?_
    · exact D_val 141 (fun β => by as_aux_lemma => kernel_rfl) (fun β => .bool true) 92 rfl (fun β => by as_aux_lemma => kernel_rfl) (fun β _ _ => by as_aux_lemma => kernel_rfl) (by as_aux_lemma => kernel_rfl)
    · exact D_val 141 (fun β => by as_aux_lemma => kernel_rfl) (fun β => .bool true) 93 rfl (fun β => by as_aux_lemma => kernel_rfl) (fun β _ _ => by as_aux_lemma => kernel_rfl) (by as_aux_lemma => kernel_rfl)
    · exact D_val 141 (fun β => by as_aux_lemma => kernel_rfl) (fun β => .agg (c5 s0 s1 s2 s3 s4)) 94 rfl (fun β => by as_aux_lemma => kernel_rfl) (fun β => R_load 6 rfl 33 (.tmp 19) rfl 0 (by as_aux_lemma => kernel_rfl) (c5 s0 s1 s2 s3 s4) (part_all _) _ Tryd.underlying33 rfl (by as_aux_lemma => kernel_rfl)) (by as_aux_lemma => kernel_rfl)
    · exact D_call 141 (fun β => by as_aux_lemma => kernel_rfl) (fun β => .agg (kArr (byteOf ns))) 95 rfl (fun β => by as_aux_lemma => kernel_rfl) 22 (fun β => #[.agg (c5 s0 s1 s2 s3 s4)]) (fun β w => by as_aux_lemma => kernel_rfl) (fun β w hk => Calls.kept (DKS _)) (by as_aux_lemma => kernel_rfl)
    · exact D_val 141 (fun β => by as_aux_lemma => kernel_rfl) (fun β => .agg (nArr (dg nf))) 96 rfl (fun β => by as_aux_lemma => kernel_rfl) (fun β => R_load 12 rfl 27 (.tmp 10) rfl 0 (by as_aux_lemma => kernel_rfl) (nArr (dg nf)) (part_all _) _ Tryd.underlying27 rfl (by as_aux_lemma => kernel_rfl)) (by as_aux_lemma => kernel_rfl)
    · exact D_val 141 (fun β => by as_aux_lemma => kernel_rfl) (fun β => .agg (nArr (dg ng))) 97 rfl (fun β => by as_aux_lemma => kernel_rfl) (fun β => R_load 11 rfl 27 (.tmp 12) rfl 0 (by as_aux_lemma => kernel_rfl) (nArr (dg ng)) (part_all _) _ Tryd.underlying27 rfl (by as_aux_lemma => kernel_rfl)) (by as_aux_lemma => kernel_rfl)
    · exact D_call 141 (fun β => by as_aux_lemma => kernel_rfl) (fun β => .agg (nArr (dg ns))) 98 rfl (fun β => by as_aux_lemma => kernel_rfl) 34 (fun β => #[.agg (nArr (dg nf)), .agg (nArr (dg ng))]) (fun β w => by as_aux_lemma => kernel_rfl) (fun β w hk => Calls.kept (RA _)) (by as_aux_lemma => kernel_rfl)
    · exact D_call 141 (fun β => by as_aux_lemma => kernel_rfl) (fun β => .agg (kArr (byteOf ns))) 99 rfl (fun β => by as_aux_lemma => kernel_rfl) 23 (fun β => #[.agg (nArr (dg ns))]) (fun β w => by as_aux_lemma => kernel_rfl) (fun β w hk => Calls.kept (RKS _)) (by as_aux_lemma => kernel_rfl)
    · exact D_val 141 (fun β => by as_aux_lemma => kernel_rfl) (fun β => .bool true) 100 rfl (fun β => by as_aux_lemma => kernel_rfl) (fun β w _ => R_same (x := (.tmp 95)) (y := (.tmp 99)) rfl (byteOf ns) (by as_aux_lemma => kernel_rfl) (by as_aux_lemma => kernel_rfl) w) (by as_aux_lemma => kernel_rfl)
    · exact D_val 141 (fun β => by as_aux_lemma => kernel_rfl) (fun β => .bool true) 101 rfl (fun β => by as_aux_lemma => kernel_rfl) (fun β _ _ => by as_aux_lemma => kernel_rfl) (by as_aux_lemma => kernel_rfl)
    · exact D_val 141 (fun β => by as_aux_lemma => kernel_rfl) (fun β => .bool true) 102 rfl (fun β => by as_aux_lemma => kernel_rfl) (fun β _ _ => by as_aux_lemma => kernel_rfl) (by as_aux_lemma => kernel_rfl)
    · exact D_val 141 (fun β => by as_aux_lemma => kernel_rfl) (fun β => .agg (c5 d0 d1 d2 d3 d4)) 103 rfl (fun β => by as_aux_lemma => kernel_rfl) (fun β => R_load 5 rfl 33 (.tmp 20) rfl 0 (by as_aux_lemma => kernel_rfl) (c5 d0 d1 d2 d3 d4) (part_all _) _ Tryd.underlying33 rfl (by as_aux_lemma => kernel_rfl)) (by as_aux_lemma => kernel_rfl)
    · exact D_call 141 (fun β => by as_aux_lemma => kernel_rfl) (fun β => .agg (kArr (byteOf nd))) 104 rfl (fun β => by as_aux_lemma => kernel_rfl) 22 (fun β => #[.agg (c5 d0 d1 d2 d3 d4)]) (fun β w => by as_aux_lemma => kernel_rfl) (fun β w hk => Calls.kept (DKD _)) (by as_aux_lemma => kernel_rfl)
    · exact D_val 141 (fun β => by as_aux_lemma => kernel_rfl) (fun β => .agg (nArr (dg nf))) 105 rfl (fun β => by as_aux_lemma => kernel_rfl) (fun β => R_load 12 rfl 27 (.tmp 10) rfl 0 (by as_aux_lemma => kernel_rfl) (nArr (dg nf)) (part_all _) _ Tryd.underlying27 rfl (by as_aux_lemma => kernel_rfl)) (by as_aux_lemma => kernel_rfl)
    · exact D_val 141 (fun β => by as_aux_lemma => kernel_rfl) (fun β => .agg (nArr (dg ng))) 106 rfl (fun β => by as_aux_lemma => kernel_rfl) (fun β => R_load 11 rfl 27 (.tmp 12) rfl 0 (by as_aux_lemma => kernel_rfl) (nArr (dg ng)) (part_all _) _ Tryd.underlying27 rfl (by as_aux_lemma => kernel_rfl)) (by as_aux_lemma => kernel_rfl)
    · exact D_call 141 (fun β => by as_aux_lemma => kernel_rfl) (fun β => .agg (nArr (dg nd))) 107 rfl (fun β => by as_aux_lemma => kernel_rfl) 36 (fun β => #[.agg (nArr (dg nf)), .agg (nArr (dg ng))]) (fun β w => by as_aux_lemma => kernel_rfl) (fun β w hk => Calls.kept (RS _)) (by as_aux_lemma => kernel_rfl)
    · exact D_call 141 (fun β => by as_aux_lemma => kernel_rfl) (fun β => .agg (kArr (byteOf nd))) 108 rfl (fun β => by as_aux_lemma => kernel_rfl) 23 (fun β => #[.agg (nArr (dg nd))]) (fun β w => by as_aux_lemma => kernel_rfl) (fun β w hk => Calls.kept (RKD _)) (by as_aux_lemma => kernel_rfl)
    · exact D_val 141 (fun β => by as_aux_lemma => kernel_rfl) (fun β => .bool true) 109 rfl (fun β => by as_aux_lemma => kernel_rfl) (fun β w _ => R_same (x := (.tmp 104)) (y := (.tmp 108)) rfl (byteOf nd) (by as_aux_lemma => kernel_rfl) (by as_aux_lemma => kernel_rfl) w) (by as_aux_lemma => kernel_rfl)
    · exact D_val 141 (fun β => by as_aux_lemma => kernel_rfl) (fun β => .bool true) 110 rfl (fun β => by as_aux_lemma => kernel_rfl) (fun β _ _ => by as_aux_lemma => kernel_rfl) (by as_aux_lemma => kernel_rfl)
    · exact D_val 141 (fun β => by as_aux_lemma => kernel_rfl) (fun β => .bool true) 111 rfl (fun β => by as_aux_lemma => kernel_rfl) (fun β _ _ => by as_aux_lemma => kernel_rfl) (by as_aux_lemma => kernel_rfl)
    · exact D_val 141 (fun β => by as_aux_lemma => kernel_rfl) (fun β => .agg (c5 m0 m1 m2 m3 m4)) 112 rfl (fun β => by as_aux_lemma => kernel_rfl) (fun β => R_load 4 rfl 33 (.tmp 21) rfl 0 (by as_aux_lemma => kernel_rfl) (c5 m0 m1 m2 m3 m4) (part_all _) _ Tryd.underlying33 rfl (by as_aux_lemma => kernel_rfl)) (by as_aux_lemma => kernel_rfl)
    · exact D_call 141 (fun β => by as_aux_lemma => kernel_rfl) (fun β => .agg (kArr (byteOf nm))) 113 rfl (fun β => by as_aux_lemma => kernel_rfl) 22 (fun β => #[.agg (c5 m0 m1 m2 m3 m4)]) (fun β w => by as_aux_lemma => kernel_rfl) (fun β w hk => Calls.kept (DKM _)) (by as_aux_lemma => kernel_rfl)
    · exact D_val 141 (fun β => by as_aux_lemma => kernel_rfl) (fun β => .agg (nArr (dg nf))) 114 rfl (fun β => by as_aux_lemma => kernel_rfl) (fun β => R_load 12 rfl 27 (.tmp 10) rfl 0 (by as_aux_lemma => kernel_rfl) (nArr (dg nf)) (part_all _) _ Tryd.underlying27 rfl (by as_aux_lemma => kernel_rfl)) (by as_aux_lemma => kernel_rfl)
    · exact D_val 141 (fun β => by as_aux_lemma => kernel_rfl) (fun β => .agg (nArr (dg ng))) 115 rfl (fun β => by as_aux_lemma => kernel_rfl) (fun β => R_load 11 rfl 27 (.tmp 12) rfl 0 (by as_aux_lemma => kernel_rfl) (nArr (dg ng)) (part_all _) _ Tryd.underlying27 rfl (by as_aux_lemma => kernel_rfl)) (by as_aux_lemma => kernel_rfl)
    · exact D_call 141 (fun β => by as_aux_lemma => kernel_rfl) (fun β => .agg (nArr (dg nm))) 116 rfl (fun β => by as_aux_lemma => kernel_rfl) 35 (fun β => #[.agg (nArr (dg nf)), .agg (nArr (dg ng))]) (fun β w => by as_aux_lemma => kernel_rfl) (fun β w hk => Calls.kept (RM _)) (by as_aux_lemma => kernel_rfl)
    · exact D_call 141 (fun β => by as_aux_lemma => kernel_rfl) (fun β => .agg (kArr (byteOf nm))) 117 rfl (fun β => by as_aux_lemma => kernel_rfl) 23 (fun β => #[.agg (nArr (dg nm))]) (fun β w => by as_aux_lemma => kernel_rfl) (fun β w hk => Calls.kept (RKM _)) (by as_aux_lemma => kernel_rfl)
    · exact D_val 141 (fun β => by as_aux_lemma => kernel_rfl) (fun β => .bool true) 118 rfl (fun β => by as_aux_lemma => kernel_rfl) (fun β w _ => R_same (x := (.tmp 113)) (y := (.tmp 117)) rfl (byteOf nm) (by as_aux_lemma => kernel_rfl) (by as_aux_lemma => kernel_rfl) w) (by as_aux_lemma => kernel_rfl)
    · exact D_val 141 (fun β => by as_aux_lemma => kernel_rfl) (fun β => .bool true) 119 rfl (fun β => by as_aux_lemma => kernel_rfl) (fun β _ _ => by as_aux_lemma => kernel_rfl) (by as_aux_lemma => kernel_rfl)
    · exact D_val 141 (fun β => by as_aux_lemma => kernel_rfl) (fun β => .bool true) 120 rfl (fun β => by as_aux_lemma => kernel_rfl) (fun β _ _ => by as_aux_lemma => kernel_rfl) (by as_aux_lemma => kernel_rfl)
    · exact D_val 141 (fun β => by as_aux_lemma => kernel_rfl) (fun β => .agg (c5 t0 t1 t2 t3 t4)) 121 rfl (fun β => by as_aux_lemma => kernel_rfl) (fun β => R_load 3 rfl 33 (.tmp 22) rfl 0 (by as_aux_lemma => kernel_rfl) (c5 t0 t1 t2 t3 t4) (part_all _) _ Tryd.underlying33 rfl (by as_aux_lemma => kernel_rfl)) (by as_aux_lemma => kernel_rfl)
    · exact D_call 141 (fun β => by as_aux_lemma => kernel_rfl) (fun β => .agg (kArr (byteOf nt))) 122 rfl (fun β => by as_aux_lemma => kernel_rfl) 22 (fun β => #[.agg (c5 t0 t1 t2 t3 t4)]) (fun β w => by as_aux_lemma => kernel_rfl) (fun β w hk => Calls.kept (DKT _)) (by as_aux_lemma => kernel_rfl)
    · exact D_val 141 (fun β => by as_aux_lemma => kernel_rfl) (fun β => .agg (nArr (dg nt))) 123 rfl (fun β => by as_aux_lemma => kernel_rfl) (fun β => R_load 2 rfl 27 (.tmp 23) rfl 0 (by as_aux_lemma => kernel_rfl) (nArr (dg nt)) (part_all _) _ Tryd.underlying27 rfl (by as_aux_lemma => kernel_rfl)) (by as_aux_lemma => kernel_rfl)
    · exact D_call 141 (fun β => by as_aux_lemma => kernel_rfl) (fun β => .agg (kArr (byteOf nt))) 124 rfl (fun β => by as_aux_lemma => kernel_rfl) 23 (fun β => #[.agg (nArr (dg nt))]) (fun β w => by as_aux_lemma => kernel_rfl) (fun β w hk => Calls.kept (RKT _)) (by as_aux_lemma => kernel_rfl)
    · exact D_val 141 (fun β => by as_aux_lemma => kernel_rfl) (fun β => .bool true) 125 rfl (fun β => by as_aux_lemma => kernel_rfl) (fun β w _ => R_same (x := (.tmp 122)) (y := (.tmp 124)) rfl (byteOf nt) (by as_aux_lemma => kernel_rfl) (by as_aux_lemma => kernel_rfl) w) (by as_aux_lemma => kernel_rfl)
    · exact D_val 141 (fun β => by as_aux_lemma => kernel_rfl) (fun β => .bool true) 126 rfl (fun β => by as_aux_lemma => kernel_rfl) (fun β _ _ => by as_aux_lemma => kernel_rfl) (by as_aux_lemma => kernel_rfl)
    · exact D_val 141 (fun β => by as_aux_lemma => kernel_rfl) (fun β => .bool true) 127 rfl (fun β => by as_aux_lemma => kernel_rfl) (fun β _ _ => by as_aux_lemma => kernel_rfl) (by as_aux_lemma => kernel_rfl)
    · exact D_val 141 (fun β => by as_aux_lemma => kernel_rfl) (fun β => .bool be) 128 rfl (fun β => by as_aux_lemma => kernel_rfl) (fun β _ _ => by as_aux_lemma => kernel_rfl) (by as_aux_lemma => kernel_rfl)
    · exact D_val 141 (fun β => by as_aux_lemma => kernel_rfl) (fun β => .agg (nArr (dg nf))) 129 rfl (fun β => by as_aux_lemma => kernel_rfl) (fun β => R_load 12 rfl 27 (.tmp 10) rfl 0 (by as_aux_lemma => kernel_rfl) (nArr (dg nf)) (part_all _) _ Tryd.underlying27 rfl (by as_aux_lemma => kernel_rfl)) (by as_aux_lemma => kernel_rfl)
    · exact D_val 141 (fun β => by as_aux_lemma => kernel_rfl) (fun β => .agg (nArr (dg ng))) 130 rfl (fun β => by as_aux_lemma => kernel_rfl) (fun β => R_load 11 rfl 27 (.tmp 12) rfl 0 (by as_aux_lemma => kernel_rfl) (nArr (dg ng)) (part_all _) _ Tryd.underlying27 rfl (by as_aux_lemma => kernel_rfl)) (by as_aux_lemma => kernel_rfl)
    · exact D_val 141 (fun β => by as_aux_lemma => kernel_rfl) (fun β => .bool be) 131 rfl (fun β => by as_aux_lemma => kernel_rfl) (fun β w _ => R_eqn (x := (.tmp 129)) (y := (.tmp 130)) rfl nf ng be hbe (by as_aux_lemma => kernel_rfl) (by as_aux_lemma => kernel_rfl) lx ly w) (by as_aux_lemma => kernel_rfl)
    · exact D_val 141 (fun β => by as_aux_lemma => kernel_rfl) (fun β => .bool true) 132 rfl (fun β => by as_aux_lemma => kernel_rfl) (fun β w _ => R_eqb (x := (.tmp 128)) (y := (.tmp 131)) rfl (a := be) (b := be) (by as_aux_lemma => kernel_rfl) (by as_aux_lemma => kernel_rfl) Tryd.underlying4 (beq_self_eq_true be) w) (by as_aux_lemma => kernel_rfl)
    · exact D_val 141 (fun β => by as_aux_lemma => kernel_rfl) (fun β => .bool true) 133 rfl (fun β => by as_aux_lemma => kernel_rfl) (fun β _ _ => by as_aux_lemma => kernel_rfl) (by as_aux_lemma => kernel_rfl)
    · exact D_val 141 (fun β => by as_aux_lemma => kernel_rfl) (fun β => .bool true) 134 rfl (fun β => by as_aux_lemma => kernel_rfl) (fun β _ _ => by as_aux_lemma => kernel_rfl) (by as_aux_lemma => kernel_rfl)
    · exact D_val 141 (fun β => by as_aux_lemma => kernel_rfl) (fun β => .agg (c5 j0 j1 j2 j3 j4)) 135 rfl (fun β => by as_aux_lemma => kernel_rfl) (fun β => R_load 1 rfl 33 (.tmp 25) rfl 0 (by as_aux_lemma => kernel_rfl) (c5 j0 j1 j2 j3 j4) (part_all _) _ Tryd.underlying33 rfl (by as_aux_lemma => kernel_rfl)) (by as_aux_lemma => kernel_rfl)
    · exact D_call 141 (fun β => by as_aux_lemma => kernel_rfl) (fun β => .agg (kArr (byteOf ng))) 136 rfl (fun β => by as_aux_lemma => kernel_rfl) 22 (fun β => #[.agg (c5 j0 j1 j2 j3 j4)]) (fun β w => by as_aux_lemma => kernel_rfl) (fun β w hk => Calls.kept (DKH _)) (by as_aux_lemma => kernel_rfl)
    · exact D_val 141 (fun β => by as_aux_lemma => kernel_rfl) (fun β => .agg (nArr (dg ng))) 137 rfl (fun β => by as_aux_lemma => kernel_rfl) (fun β => R_load 0 rfl 27 (.tmp 26) rfl 0 (by as_aux_lemma => kernel_rfl) (nArr (dg ng)) (part_all _) _ Tryd.underlying27 rfl (by as_aux_lemma => kernel_rfl)) (by as_aux_lemma => kernel_rfl)
    · exact D_call 141 (fun β => by as_aux_lemma => kernel_rfl) (fun β => .agg (kArr (byteOf ng))) 138 rfl (fun β => by as_aux_lemma => kernel_rfl) 23 (fun β => #[.agg (nArr (dg ng))]) (fun β w => by as_aux_lemma => kernel_rfl) (fun β w hk => Calls.kept (RKH _)) (by as_aux_lemma => kernel_rfl)
    · exact D_val 141 (fun β => by as_aux_lemma => kernel_rfl) (fun β => .bool true) 139 rfl (fun β => by as_aux_lemma => kernel_rfl) (fun β w _ => R_same (x := (.tmp 136)) (y := (.tmp 138)) rfl (byteOf ng) (by as_aux_lemma => kernel_rfl) (by as_aux_lemma => kernel_rfl) w) (by as_aux_lemma => kernel_rfl)
    · exact D_val 141 (fun β => by as_aux_lemma => kernel_rfl) (fun β => .bool true) 140 rfl (fun β => by as_aux_lemma => kernel_rfl) (fun β _ _ => by as_aux_lemma => kernel_rfl) (by as_aux_lemma => kernel_rfl)
    · exact D_val 141 (fun β => by as_aux_lemma => kernel_rfl) (fun β => .bool true) 8 rfl (fun β => by as_aux_lemma => kernel_rfl) (fun β _ _ => by as_aux_lemma => kernel_rfl) (by as_aux_lemma => kernel_rfl)
    clear F H; intro β a v F H
    replace H : Hp [] w [⟨true, b16, .cells (nArr (dg ng)) 27 (0, 0)⟩, ⟨true, b15, .cells (c5 j0 j1 j2 j3 j4) 33 (0, 0)⟩, ⟨true, b14, .cells (nArr (dg nt)) 27 (0, 0)⟩, ⟨true, b13, .cells (c5 t0 t1 t2 t3 t4) 33 (0, 0)⟩, ⟨true, b12, .cells (c5 m0 m1 m2 m3 m4) 33 (0, 0)⟩, ⟨true, b11, .cells (c5 d0 d1 d2 d3 d4) 33 (0, 0)⟩, ⟨true, b10, .cells (c5 s0 s1 s2 s3 s4) 33 (0, 0)⟩, ⟨true, b9, .cells (c5 z0 z1 z2 z3 z4) 33 (0, 0)⟩, ⟨true, b8, .cells (c5 y0 y1 y2 y3 y4) 33 (0, 0)⟩, ⟨true, b7, .cells (c5 x0 x1 x2 x3 x4) 33 (0, 0)⟩, ⟨true, b6, .cells (nArr (dg nh)) 27 (0, 0)⟩, ⟨true, b5, .cells (nArr (dg ng)) 27 (0, 0)⟩, ⟨true, b4, .cells (nArr (dg nf)) 27 (0, 0)⟩, ⟨true, b3, .cells (kArr h) 23 (0, 0)⟩, ⟨true, b2, .cells (kArr g) 23 (0, 0)⟩, ⟨true, b1, .cells (kArr f) 23 (0, 0)⟩] v := H
    replace F : Fm 141 [] [(8, .bool true), (140, .bool true), (139, .bool true), (138, .agg (kArr (byteOf ng))), (137, .agg (nArr (dg ng))), (136, .agg (kArr (byteOf ng))), (135, .agg (c5 j0 j1 j2 j3 j4)), (134, .bool true), (133, .bool true), (132, .bool true), (131, .bool be), (130, .agg (nArr (dg ng))), (129, .agg (nArr (dg nf))), (128, .bool be), (127, .bool true), (126, .bool true), (125, .bool true), (124, .agg (kArr (byteOf nt))), (123, .agg (nArr (dg nt))), (122, .agg (kArr (byteOf nt))), (121, .agg (c5 t0 t1 t2 t3 t4)), (120, .bool true), (119, .bool true), (118, .bool true), (117, .agg (kArr (byteOf nm))), (116, .agg (nArr (dg nm))), (115, .agg (nArr (dg ng))), (114, .agg (nArr (dg nf))), (113, .agg (kArr (byteOf nm))), (112, .agg (c5 m0 m1 m2 m3 m4)), (111, .bool true), (110, .bool true), (109, .bool true), (108, .agg (kArr (byteOf nd))), (107, .agg (nArr (dg nd))), (106, .agg (nArr (dg ng))), (105, .agg (nArr (dg nf))), (104, .agg (kArr (byteOf nd))), (103, .agg (c5 d0 d1 d2 d3 d4)), (102, .bool true), (101, .bool true), (100, .bool true), (99, .agg (kArr (byteOf ns))), (98, .agg (nArr (dg ns))), (97, .agg (nArr (dg ng))), (96, .agg (nArr (dg nf))), (95, .agg (kArr (byteOf ns))), (94, .agg (c5 s0 s1 s2 s3 s4)), (93, .bool true), (92, .bool true), (90, .bool false), (3, .bool false), (9, .bool true), (10, .pointer (some ⟨b4, 0, none⟩)), (12, .pointer (some ⟨b5, 0, none⟩)), (16, .pointer (some ⟨b7, 0, none⟩)), (17, .pointer (some ⟨b8, 0, none⟩)), (19, .pointer (some ⟨b10, 0, none⟩)), (20, .pointer (some ⟨b11, 0, none⟩)), (21, .pointer (some ⟨b12, 0, none⟩)), (22, .pointer (some ⟨b13, 0, none⟩)), (23, .pointer (some ⟨b14, 0, none⟩)), (24, .bool be), (25, .pointer (some ⟨b15, 0, none⟩)), (26, .pointer (some ⟨b16, 0, none⟩))] a := F.weak _ (⟨rfl, ⟨rfl, ⟨rfl, ⟨rfl, ⟨rfl, ⟨rfl, ⟨rfl, ⟨rfl, ⟨rfl, ⟨rfl, ⟨rfl, ⟨rfl, ⟨rfl, ⟨rfl, ⟨rfl, ⟨rfl, ⟨rfl, ⟨rfl, ⟨rfl, ⟨rfl, ⟨rfl, ⟨rfl, ⟨rfl, ⟨rfl, ⟨rfl, ⟨rfl, ⟨rfl, ⟨rfl, ⟨rfl, ⟨rfl, ⟨rfl, ⟨rfl, ⟨rfl, ⟨rfl, ⟨rfl, ⟨rfl, ⟨rfl, ⟨rfl, ⟨rfl, ⟨rfl, ⟨rfl, ⟨rfl, ⟨rfl, ⟨rfl, ⟨rfl, ⟨rfl, ⟨rfl, ⟨rfl, ⟨rfl, ⟨rfl, ⟨rfl, ⟨rfl, ⟨rfl, ⟨rfl, ⟨rfl, ⟨rfl, ⟨rfl, ⟨rfl, ⟨rfl, ⟨rfl, ⟨rfl, ⟨rfl, ⟨rfl, ⟨rfl, ⟨rfl, trivial⟩⟩⟩⟩⟩⟩⟩⟩⟩⟩⟩⟩⟩⟩⟩⟩⟩⟩⟩⟩⟩⟩⟩⟩⟩⟩⟩⟩⟩⟩⟩⟩⟩⟩⟩⟩⟩⟩⟩⟩⟩⟩⟩⟩⟩⟩⟩⟩⟩⟩⟩⟩⟩⟩⟩⟩⟩⟩⟩⟩⟩⟩⟩⟩⟩)
    refine hK _ _ ?_
    clear hK K
    refine wp_ret ?_
    exact C_ret F H (rs := [.tmp 8]) rfl (vs := [.bool true]) (.tmp rfl .nil) (.bool true) rfl ⟨rfl, H.kept.below⟩
  · have hn3 : nf = nn := (hnn.trans (if_pos rfl)).symm
    clear hnn
    subst hn3
    refine C_seqK (fun K hK => ?_)
    refine C_region ?_
    refine T_val F H (by as_aux_lemma => kernel_rfl) (.bool true) (fun _ _ => by as_aux_lemma => kernel_rfl) ?_
    clear F; intro a F
    refine T_end (hK _ _ ?_)
    clear hK K
    refine C_if F true rfl rfl ?_
    refine C_region ?_
    refine T_val F H (by as_aux_lemma => kernel_rfl) (.agg (nArr (dg nf))) (R_load 12 rfl 27 (.tmp 10) rfl 0 (by as_aux_lemma => kernel_rfl) (nArr (dg nf)) (part_all _) _ Tryd.underlying27 rfl (by as_aux_lemma => kernel_rfl)) ?_
    clear F; intro a F
    refine T_set F H (by as_aux_lemma => kernel_rfl) rfl 0 rfl (nArr (dg nf)) (S_row 0 rfl 27 (.tmp 26) (.tmp 91) rfl (by as_aux_lemma => kernel_rfl) (nArr (dg nf)) (by as_aux_lemma => kernel_rfl) (by as_aux_lemma => kernel_rfl) (by as_aux_lemma => kernel_rfl) (by as_aux_lemma => kernel_rfl)) [⟨true, b16, .cells (nArr (dg nf)) 27 (0, 0)⟩, ⟨true, b15, .cells (c5 j0 j1 j2 j3 j4) 33 (0, 0)⟩, ⟨true, b14, .cells (nArr (dg nt)) 27 (0, 0)⟩, ⟨true, b13, .cells (c5 t0 t1 t2 t3 t4) 33 (0, 0)⟩, ⟨true, b12, .cells (c5 m0 m1 m2 m3 m4) 33 (0, 0)⟩, ⟨true, b11, .cells (c5 d0 d1 d2 d3 d4) 33 (0, 0)⟩, ⟨true, b10, .cells (c5 s0 s1 s2 s3 s4) 33 (0, 0)⟩, ⟨true, b9, .cells (c5 z0 z1 z2 z3 z4) 33 (0, 0)⟩, ⟨true, b8, .cells (c5 y0 y1 y2 y3 y4) 33 (0, 0)⟩, ⟨true, b7, .cells (c5 x0 x1 x2 x3 x4) 33 (0, 0)⟩, ⟨true, b6, .cells (nArr (dg nh)) 27 (0, 0)⟩, ⟨true, b5, .cells (nArr (dg ng)) 27 (0, 0)⟩, ⟨true, b4, .cells (nArr (dg nf)) 27 (0, 0)⟩, ⟨true, b3, .cells (kArr h) 23 (0, 0)⟩, ⟨true, b2, .cells (kArr g) 23 (0, 0)⟩, ⟨true, b1, .cells (kArr f) 23 (0, 0)⟩] rfl ?_
    clear F H; intro a v F H
    refine wpList_nil ?_
    refine hK _ _ ?_
    clear hK K
    refine C_seqK (fun K hK => ?_)
    refine D_region F H (fun β => [(92, .bool true), (93, .bool true), (94, .agg (c5 s0 s1 s2 s3 s4)), (95, .agg (kArr (byteOf ns))), (96, .agg (nArr (dg nf))), (97, .agg (nArr (dg ng))), (98, .agg (nArr (dg ns))), (99, .agg (kArr (byteOf ns))), (100, .bool true), (101, .bool true), (102, .bool true), (103, .agg (c5 d0 d1 d2 d3 d4)), (104, .agg (kArr (byteOf nd))), (105, .agg (nArr (dg nf))), (106, .agg (nArr (dg ng))), (107, .agg (nArr (dg nd))), (108, .agg (kArr (byteOf nd))), (109, .bool true), (110, .bool true), (111, .bool true), (112, .agg (c5 m0 m1 m2 m3 m4)), (113, .agg (kArr (byteOf nm))), (114, .agg (nArr (dg nf))), (115, .agg (nArr (dg ng))), (116, .agg (nArr (dg nm))), (117, .agg (kArr (byteOf nm))), (118, .bool true), (119, .bool true), (120, .bool true), (121, .agg (c5 t0 t1 t2 t3 t4)), (122, .agg (kArr (byteOf nt))), (123, .agg (nArr (dg nt))), (124, .agg (kArr (byteOf nt))), (125, .bool true), (126, .bool true), (127, .bool true), (128, .bool be), (129, .agg (nArr (dg nf))), (130, .agg (nArr (dg ng))), (131, .bool be), (132, .bool true), (133, .bool true), (134, .bool true), (135, .agg (c5 j0 j1 j2 j3 j4)), (136, .agg (kArr (byteOf nf))), (137, .agg (nArr (dg nf))), (138, .agg (kArr (byteOf nf))), (139, .bool true), (140, .bool true), (8, .bool true)]) [92, 93, 94, 95, 96, 97, 98, 99, 100, 101, 102, 103, 104, 105, 106, 107, 108, 109, 110, 111, 112, 113, 114, 115, 116, 117, 118, 119, 120, 121, 122, 123, 124, 125, 126, 127, 128, 129, 130, 131, 132, 133, 134, 135, 136, 137, 138, 139, 140, 8] [] [] [⟨true, b16, .cells (nArr (dg nf)) 27 (0, 0)⟩, ⟨true, b15, .cells (c5 j0 j1 j2 j3 j4) 33 (0, 0)⟩, ⟨true, b14, .cells (nArr (dg nt)) 27 (0, 0)⟩, ⟨true, b13, .cells (c5 t0 t1 t2 t3 t4) 33 (0, 0)⟩, ⟨true, b12, .cells (c5 m0 m1 m2 m3 m4) 33 (0, 0)⟩, ⟨true, b11, .cells (c5 d0 d1 d2 d3 d4) 33 (0, 0)⟩, ⟨true, b10, .cells (c5 s0 s1 s2 s3 s4) 33 (0, 0)⟩, ⟨true, b9, .cells (c5 z0 z1 z2 z3 z4) 33 (0, 0)⟩, ⟨true, b8, .cells (c5 y0 y1 y2 y3 y4) 33 (0, 0)⟩, ⟨true, b7, .cells (c5 x0 x1 x2 x3 x4) 33 (0, 0)⟩, ⟨true, b6, .cells (nArr (dg nh)) 27 (0, 0)⟩, ⟨true, b5, .cells (nArr (dg ng)) 27 (0, 0)⟩, ⟨true, b4, .cells (nArr (dg nf)) 27 (0, 0)⟩, ⟨true, b3, .cells (kArr h) 23 (0, 0)⟩, ⟨true, b2, .cells (kArr g) 23 (0, 0)⟩, ⟨true, b1, .cells (kArr f) 23 (0, 0)⟩] [0, 1, 2, 3, 4, 5, 6, 7, 8, 9, 10, 11, 12, 13, 14, 15] (by as_aux_lemma => kernel_rfl) (by as_aux_lemma => kernel_rfl) rfl (fun β => rfl) (fun fit => ⟨?_, ?_, ?_, ?_, ?_, ?_, ?_, ?_, ?_, ?_, ?_, ?_, ?_, ?_, ?_, ?_, ?_, ?_, ?_, ?_, ?_, ?_, ?_, ?_, ?_, ?_, ?_, ?_, ?_, ?_, ?_, ?_, ?_, ?_, ?_, ?_, ?_, ?_, ?_, ?_, ?_, ?_, ?_, ?_, ?_, ?_, ?_, ?_, ?_, ?_, trivial⟩) ?_
    · exact D_val 141 (fun β => by as_aux_lemma => kernel_rfl) (fun β => .bool true) 92 rfl (fun β => by as_aux_lemma => kernel_rfl) (fun β _ _ => by as_aux_lemma => kernel_rfl) (by as_aux_lemma => kernel_rfl)
    · exact D_val 141 (fun β => by as_aux_lemma => kernel_rfl) (fun β => .bool true) 93 rfl (fun β => by as_aux_lemma => kernel_rfl) (fun β _ _ => by as_aux_lemma => kernel_rfl) (by as_aux_lemma => kernel_rfl)
    · exact D_val 141 (fun β => by as_aux_lemma => kernel_rfl) (fun β => .agg (c5 s0 s1 s2 s3 s4)) 94 rfl (fun β => by as_aux_lemma => kernel_rfl) (fun β => R_load 6 rfl 33 (.tmp 19) rfl 0 (by as_aux_lemma => kernel_rfl) (c5 s0 s1 s2 s3 s4) (part_all _) _ Tryd.underlying33 rfl (by as_aux_lemma => kernel_rfl)) (by as_aux_lemma => kernel_rfl)
    · exact D_call 141 (fun β => by as_aux_lemma => kernel_rfl) (fun β => .agg (kArr (byteOf ns))) 95 rfl (fun β => by as_aux_lemma => kernel_rfl) 22 (fun β => #[.agg (c5 s0 s1 s2 s3 s4)]) (fun β w => by as_aux_lemma => kernel_rfl) (fun β w hk => Calls.kept (DKS _)) (by as_aux_lemma => kernel_rfl)
    · exact D_val 141 (fun β => by as_aux_lemma => kernel_rfl) (fun β => .agg (nArr (dg nf))) 96 rfl (fun β => by as_aux_lemma => kernel_rfl) (fun β => R_load 12 rfl 27 (.tmp 10) rfl 0 (by as_aux_lemma => kernel_rfl) (nArr (dg nf)) (part_all _) _ Tryd.underlying27 rfl (by as_aux_lemma => kernel_rfl)) (by as_aux_lemma => kernel_rfl)
    · exact D_val 141 (fun β => by as_aux_lemma => kernel_rfl) (fun β => .agg (nArr (dg ng))) 97 rfl (fun β => by as_aux_lemma => kernel_rfl) (fun β => R_load 11 rfl 27 (.tmp 12) rfl 0 (by as_aux_lemma => kernel_rfl) (nArr (dg ng)) (part_all _) _ Tryd.underlying27 rfl (by as_aux_lemma => kernel_rfl)) (by as_aux_lemma => kernel_rfl)
    · exact D_call 141 (fun β => by as_aux_lemma => kernel_rfl) (fun β => .agg (nArr (dg ns))) 98 rfl (fun β => by as_aux_lemma => kernel_rfl) 34 (fun β => #[.agg (nArr (dg nf)), .agg (nArr (dg ng))]) (fun β w => by as_aux_lemma => kernel_rfl) (fun β w hk => Calls.kept (RA _)) (by as_aux_lemma => kernel_rfl)
    · exact D_call 141 (fun β => by as_aux_lemma => kernel_rfl) (fun β => .agg (kArr (byteOf ns))) 99 rfl (fun β => by as_aux_lemma => kernel_rfl) 23 (fun β => #[.agg (nArr (dg ns))]) (fun β w => by as_aux_lemma => kernel_rfl) (fun β w hk => Calls.kept (RKS _)) (by as_aux_lemma => kernel_rfl)
    · exact D_val 141 (fun β => by as_aux_lemma => kernel_rfl) (fun β => .bool true) 100 rfl (fun β => by as_aux_lemma => kernel_rfl) (fun β w _ => R_same (x := (.tmp 95)) (y := (.tmp 99)) rfl (byteOf ns) (by as_aux_lemma => kernel_rfl) (by as_aux_lemma => kernel_rfl) w) (by as_aux_lemma => kernel_rfl)
    · exact D_val 141 (fun β => by as_aux_lemma => kernel_rfl) (fun β => .bool true) 101 rfl (fun β => by as_aux_lemma => kernel_rfl) (fun β _ _ => by as_aux_lemma => kernel_rfl) (by as_aux_lemma => kernel_rfl)
    · exact D_val 141 (fun β => by as_aux_lemma => kernel_rfl) (fun β => .bool true) 102 rfl (fun β => by as_aux_lemma => kernel_rfl) (fun β _ _ => by as_aux_lemma => kernel_rfl) (by as_aux_lemma => kernel_rfl)
    · exact D_val 141 (fun β => by as_aux_lemma => kernel_rfl) (fun β => .agg (c5 d0 d1 d2 d3 d4)) 103 rfl (fun β => by as_aux_lemma => kernel_rfl) (fun β => R_load 5 rfl 33 (.tmp 20) rfl 0 (by as_aux_lemma => kernel_rfl) (c5 d0 d1 d2 d3 d4) (part_all _) _ Tryd.underlying33 rfl (by as_aux_lemma => kernel_rfl)) (by as_aux_lemma => kernel_rfl)
    · exact D_call 141 (fun β => by as_aux_lemma => kernel_rfl) (fun β => .agg (kArr (byteOf nd))) 104 rfl (fun β => by as_aux_lemma => kernel_rfl) 22 (fun β => #[.agg (c5 d0 d1 d2 d3 d4)]) (fun β w => by as_aux_lemma => kernel_rfl) (fun β w hk => Calls.kept (DKD _)) (by as_aux_lemma => kernel_rfl)
    · exact D_val 141 (fun β => by as_aux_lemma => kernel_rfl) (fun β => .agg (nArr (dg nf))) 105 rfl (fun β => by as_aux_lemma => kernel_rfl) (fun β => R_load 12 rfl 27 (.tmp 10) rfl 0 (by as_aux_lemma => kernel_rfl) (nArr (dg nf)) (part_all _) _ Tryd.underlying27 rfl (by as_aux_lemma => kernel_rfl)) (by as_aux_lemma => kernel_rfl)
    · exact D_val 141 (fun β => by as_aux_lemma => kernel_rfl) (fun β => .agg (nArr (dg ng))) 106 rfl (fun β => by as_aux_lemma => kernel_rfl) (fun β => R_load 11 rfl 27 (.tmp 12) rfl 0 (by as_aux_lemma => kernel_rfl) (nArr (dg ng)) (part_all _) _ Tryd.underlying27 rfl (by as_aux_lemma => kernel_rfl)) (by as_aux_lemma => kernel_rfl)
    · exact D_call 141 (fun β => by as_aux_lemma => kernel_rfl) (fun β => .agg (nArr (dg nd))) 107 rfl (fun β => by as_aux_lemma => kernel_rfl) 36 (fun β => #[.agg (nArr (dg nf)), .agg (nArr (dg ng))]) (fun β w => by as_aux_lemma => kernel_rfl) (fun β w hk => Calls.kept (RS _)) (by as_aux_lemma => kernel_rfl)
    · exact D_call 141 (fun β => by as_aux_lemma => kernel_rfl) (fun β => .agg (kArr (byteOf nd))) 108 rfl (fun β => by as_aux_lemma => kernel_rfl) 23 (fun β => #[.agg (nArr (dg nd))]) (fun β w => by as_aux_lemma => kernel_rfl) (fun β w hk => Calls.kept (RKD _)) (by as_aux_lemma => kernel_rfl)
    · exact D_val 141 (fun β => by as_aux_lemma => kernel_rfl) (fun β => .bool true) 109 rfl (fun β => by as_aux_lemma => kernel_rfl) (fun β w _ => R_same (x := (.tmp 104)) (y := (.tmp 108)) rfl (byteOf nd) (by as_aux_lemma => kernel_rfl) (by as_aux_lemma => kernel_rfl) w) (by as_aux_lemma => kernel_rfl)
    · exact D_val 141 (fun β => by as_aux_lemma => kernel_rfl) (fun β => .bool true) 110 rfl (fun β => by as_aux_lemma => kernel_rfl) (fun β _ _ => by as_aux_lemma => kernel_rfl) (by as_aux_lemma => kernel_rfl)
    · exact D_val 141 (fun β => by as_aux_lemma => kernel_rfl) (fun β => .bool true) 111 rfl (fun β => by as_aux_lemma => kernel_rfl) (fun β _ _ => by as_aux_lemma => kernel_rfl) (by as_aux_lemma => kernel_rfl)
    · exact D_val 141 (fun β => by as_aux_lemma => kernel_rfl) (fun β => .agg (c5 m0 m1 m2 m3 m4)) 112 rfl (fun β => by as_aux_lemma => kernel_rfl) (fun β => R_load 4 rfl 33 (.tmp 21) rfl 0 (by as_aux_lemma => kernel_rfl) (c5 m0 m1 m2 m3 m4) (part_all _) _ Tryd.underlying33 rfl (by as_aux_lemma => kernel_rfl)) (by as_aux_lemma => kernel_rfl)
    · exact D_call 141 (fun β => by as_aux_lemma => kernel_rfl) (fun β => .agg (kArr (byteOf nm))) 113 rfl (fun β => by as_aux_lemma => kernel_rfl) 22 (fun β => #[.agg (c5 m0 m1 m2 m3 m4)]) (fun β w => by as_aux_lemma => kernel_rfl) (fun β w hk => Calls.kept (DKM _)) (by as_aux_lemma => kernel_rfl)
    · exact D_val 141 (fun β => by as_aux_lemma => kernel_rfl) (fun β => .agg (nArr (dg nf))) 114 rfl (fun β => by as_aux_lemma => kernel_rfl) (fun β => R_load 12 rfl 27 (.tmp 10) rfl 0 (by as_aux_lemma => kernel_rfl) (nArr (dg nf)) (part_all _) _ Tryd.underlying27 rfl (by as_aux_lemma => kernel_rfl)) (by as_aux_lemma => kernel_rfl)
    · exact D_val 141 (fun β => by as_aux_lemma => kernel_rfl) (fun β => .agg (nArr (dg ng))) 115 rfl (fun β => by as_aux_lemma => kernel_rfl) (fun β => R_load 11 rfl 27 (.tmp 12) rfl 0 (by as_aux_lemma => kernel_rfl) (nArr (dg ng)) (part_all _) _ Tryd.underlying27 rfl (by as_aux_lemma => kernel_rfl)) (by as_aux_lemma => kernel_rfl)
    · exact D_call 141 (fun β => by as_aux_lemma => kernel_rfl) (fun β => .agg (nArr (dg nm))) 116 rfl (fun β => by as_aux_lemma => kernel_rfl) 35 (fun β => #[.agg (nArr (dg nf)), .agg (nArr (dg ng))]) (fun β w => by as_aux_lemma => kernel_rfl) (fun β w hk => Calls.kept (RM _)) (by as_aux_lemma => kernel_rfl)
    · exact D_call 141 (fun β => by as_aux_lemma => kernel_rfl) (fun β => .agg (kArr (byteOf nm))) 117 rfl (fun β => by as_aux_lemma => kernel_rfl) 23 (fun β => #[.agg (nArr (dg nm))]) (fun β w => by as_aux_lemma => kernel_rfl) (fun β w hk => Calls.kept (RKM _)) (by as_aux_lemma => kernel_rfl)
    · exact D_val 141 (fun β => by as_aux_lemma => kernel_rfl) (fun β => .bool true) 118 rfl (fun β => by as_aux_lemma => kernel_rfl) (fun β w _ => R_same (x := (.tmp 113)) (y := (.tmp 117)) rfl (byteOf nm) (by as_aux_lemma => kernel_rfl) (by as_aux_lemma => kernel_rfl) w) (by as_aux_lemma => kernel_rfl)
    · exact D_val 141 (fun β => by as_aux_lemma => kernel_rfl) (fun β => .bool true) 119 rfl (fun β => by as_aux_lemma => kernel_rfl) (fun β _ _ => by as_aux_lemma => kernel_rfl) (by as_aux_lemma => kernel_rfl)
    · exact D_val 141 (fun β => by as_aux_lemma => kernel_rfl) (fun β => .bool true) 120 rfl (fun β => by as_aux_lemma => kernel_rfl) (fun β _ _ => by as_aux_lemma => kernel_rfl) (by as_aux_lemma => kernel_rfl)
    · exact D_val 141 (fun β => by as_aux_lemma => kernel_rfl) (fun β => .agg (c5 t0 t1 t2 t3 t4)) 121 rfl (fun β => by as_aux_lemma => kernel_rfl) (fun β => R_load 3 rfl 33 (.tmp 22) rfl 0 (by as_aux_lemma => kernel_rfl) (c5 t0 t1 t2 t3 t4) (part_all _) _ Tryd.underlying33 rfl (by as_aux_lemma => kernel_rfl)) (by as_aux_lemma => kernel_rfl)
    · exact D_call 141 (fun β => by as_aux_lemma => kernel_rfl) (fun β => .agg (kArr (byteOf nt))) 122 rfl (fun β => by as_aux_lemma => kernel_rfl) 22 (fun β => #[.agg (c5 t0 t1 t2 t3 t4)]) (fun β w => by as_aux_lemma => kernel_rfl) (fun β w hk => Calls.kept (DKT _)) (by as_aux_lemma => kernel_rfl)
    · exact D_val 141 (fun β => by as_aux_lemma => kernel_rfl) (fun β => .agg (nArr (dg nt))) 123 rfl (fun β => by as_aux_lemma => kernel_rfl) (fun β => R_load 2 rfl 27 (.tmp 23) rfl 0 (by as_aux_lemma => kernel_rfl) (nArr (dg nt)) (part_all _) _ Tryd.underlying27 rfl (by as_aux_lemma => kernel_rfl)) (by as_aux_lemma => kernel_rfl)
    · exact D_call 141 (fun β => by as_aux_lemma => kernel_rfl) (fun β => .agg (kArr (byteOf nt))) 124 rfl (fun β => by as_aux_lemma => kernel_rfl) 23 (fun β => #[.agg (nArr (dg nt))]) (fun β w => by as_aux_lemma => kernel_rfl) (fun β w hk => Calls.kept (RKT _)) (by as_aux_lemma => kernel_rfl)
    · exact D_val 141 (fun β => by as_aux_lemma => kernel_rfl) (fun β => .bool true) 125 rfl (fun β => by as_aux_lemma => kernel_rfl) (fun β w _ => R_same (x := (.tmp 122)) (y := (.tmp 124)) rfl (byteOf nt) (by as_aux_lemma => kernel_rfl) (by as_aux_lemma => kernel_rfl) w) (by as_aux_lemma => kernel_rfl)
    · exact D_val 141 (fun β => by as_aux_lemma => kernel_rfl) (fun β => .bool true) 126 rfl (fun β => by as_aux_lemma => kernel_rfl) (fun β _ _ => by as_aux_lemma => kernel_rfl) (by as_aux_lemma => kernel_rfl)
    · exact D_val 141 (fun β => by as_aux_lemma => kernel_rfl) (fun β => .bool true) 127 rfl (fun β => by as_aux_lemma => kernel_rfl) (fun β _ _ => by as_aux_lemma => kernel_rfl) (by as_aux_lemma => kernel_rfl)
    · exact D_val 141 (fun β => by as_aux_lemma => kernel_rfl) (fun β => .bool be) 128 rfl (fun β => by as_aux_lemma => kernel_rfl) (fun β _ _ => by as_aux_lemma => kernel_rfl) (by as_aux_lemma => kernel_rfl)
    · exact D_val 141 (fun β => by as_aux_lemma => kernel_rfl) (fun β => .agg (nArr (dg nf))) 129 rfl (fun β => by as_aux_lemma => kernel_rfl) (fun β => R_load 12 rfl 27 (.tmp 10) rfl 0 (by as_aux_lemma => kernel_rfl) (nArr (dg nf)) (part_all _) _ Tryd.underlying27 rfl (by as_aux_lemma => kernel_rfl)) (by as_aux_lemma => kernel_rfl)
    · exact D_val 141 (fun β => by as_aux_lemma => kernel_rfl) (fun β => .agg (nArr (dg ng))) 130 rfl (fun β => by as_aux_lemma => kernel_rfl) (fun β => R_load 11 rfl 27 (.tmp 12) rfl 0 (by as_aux_lemma => kernel_rfl) (nArr (dg ng)) (part_all _) _ Tryd.underlying27 rfl (by as_aux_lemma => kernel_rfl)) (by as_aux_lemma => kernel_rfl)
    · exact D_val 141 (fun β => by as_aux_lemma => kernel_rfl) (fun β => .bool be) 131 rfl (fun β => by as_aux_lemma => kernel_rfl) (fun β w _ => R_eqn (x := (.tmp 129)) (y := (.tmp 130)) rfl nf ng be hbe (by as_aux_lemma => kernel_rfl) (by as_aux_lemma => kernel_rfl) lx ly w) (by as_aux_lemma => kernel_rfl)
    · exact D_val 141 (fun β => by as_aux_lemma => kernel_rfl) (fun β => .bool true) 132 rfl (fun β => by as_aux_lemma => kernel_rfl) (fun β w _ => R_eqb (x := (.tmp 128)) (y := (.tmp 131)) rfl (a := be) (b := be) (by as_aux_lemma => kernel_rfl) (by as_aux_lemma => kernel_rfl) Tryd.underlying4 (beq_self_eq_true be) w) (by as_aux_lemma => kernel_rfl)
    · exact D_val 141 (fun β => by as_aux_lemma => kernel_rfl) (fun β => .bool true) 133 rfl (fun β => by as_aux_lemma => kernel_rfl) (fun β _ _ => by as_aux_lemma => kernel_rfl) (by as_aux_lemma => kernel_rfl)
    · exact D_val 141 (fun β => by as_aux_lemma => kernel_rfl) (fun β => .bool true) 134 rfl (fun β => by as_aux_lemma => kernel_rfl) (fun β _ _ => by as_aux_lemma => kernel_rfl) (by as_aux_lemma => kernel_rfl)
    · exact D_val 141 (fun β => by as_aux_lemma => kernel_rfl) (fun β => .agg (c5 j0 j1 j2 j3 j4)) 135 rfl (fun β => by as_aux_lemma => kernel_rfl) (fun β => R_load 1 rfl 33 (.tmp 25) rfl 0 (by as_aux_lemma => kernel_rfl) (c5 j0 j1 j2 j3 j4) (part_all _) _ Tryd.underlying33 rfl (by as_aux_lemma => kernel_rfl)) (by as_aux_lemma => kernel_rfl)
    · exact D_call 141 (fun β => by as_aux_lemma => kernel_rfl) (fun β => .agg (kArr (byteOf nf))) 136 rfl (fun β => by as_aux_lemma => kernel_rfl) 22 (fun β => #[.agg (c5 j0 j1 j2 j3 j4)]) (fun β w => by as_aux_lemma => kernel_rfl) (fun β w hk => Calls.kept (DKH _)) (by as_aux_lemma => kernel_rfl)
    · exact D_val 141 (fun β => by as_aux_lemma => kernel_rfl) (fun β => .agg (nArr (dg nf))) 137 rfl (fun β => by as_aux_lemma => kernel_rfl) (fun β => R_load 0 rfl 27 (.tmp 26) rfl 0 (by as_aux_lemma => kernel_rfl) (nArr (dg nf)) (part_all _) _ Tryd.underlying27 rfl (by as_aux_lemma => kernel_rfl)) (by as_aux_lemma => kernel_rfl)
    · exact D_call 141 (fun β => by as_aux_lemma => kernel_rfl) (fun β => .agg (kArr (byteOf nf))) 138 rfl (fun β => by as_aux_lemma => kernel_rfl) 23 (fun β => #[.agg (nArr (dg nf))]) (fun β w => by as_aux_lemma => kernel_rfl) (fun β w hk => Calls.kept (RKH _)) (by as_aux_lemma => kernel_rfl)
    · exact D_val 141 (fun β => by as_aux_lemma => kernel_rfl) (fun β => .bool true) 139 rfl (fun β => by as_aux_lemma => kernel_rfl) (fun β w _ => R_same (x := (.tmp 136)) (y := (.tmp 138)) rfl (byteOf nf) (by as_aux_lemma => kernel_rfl) (by as_aux_lemma => kernel_rfl) w) (by as_aux_lemma => kernel_rfl)
    · exact D_val 141 (fun β => by as_aux_lemma => kernel_rfl) (fun β => .bool true) 140 rfl (fun β => by as_aux_lemma => kernel_rfl) (fun β _ _ => by as_aux_lemma => kernel_rfl) (by as_aux_lemma => kernel_rfl)
    · exact D_val 141 (fun β => by as_aux_lemma => kernel_rfl) (fun β => .bool true) 8 rfl (fun β => by as_aux_lemma => kernel_rfl) (fun β _ _ => by as_aux_lemma => kernel_rfl) (by as_aux_lemma => kernel_rfl)
    clear F H; intro β a v F H
    replace H : Hp [] w [⟨true, b16, .cells (nArr (dg nf)) 27 (0, 0)⟩, ⟨true, b15, .cells (c5 j0 j1 j2 j3 j4) 33 (0, 0)⟩, ⟨true, b14, .cells (nArr (dg nt)) 27 (0, 0)⟩, ⟨true, b13, .cells (c5 t0 t1 t2 t3 t4) 33 (0, 0)⟩, ⟨true, b12, .cells (c5 m0 m1 m2 m3 m4) 33 (0, 0)⟩, ⟨true, b11, .cells (c5 d0 d1 d2 d3 d4) 33 (0, 0)⟩, ⟨true, b10, .cells (c5 s0 s1 s2 s3 s4) 33 (0, 0)⟩, ⟨true, b9, .cells (c5 z0 z1 z2 z3 z4) 33 (0, 0)⟩, ⟨true, b8, .cells (c5 y0 y1 y2 y3 y4) 33 (0, 0)⟩, ⟨true, b7, .cells (c5 x0 x1 x2 x3 x4) 33 (0, 0)⟩, ⟨true, b6, .cells (nArr (dg nh)) 27 (0, 0)⟩, ⟨true, b5, .cells (nArr (dg ng)) 27 (0, 0)⟩, ⟨true, b4, .cells (nArr (dg nf)) 27 (0, 0)⟩, ⟨true, b3, .cells (kArr h) 23 (0, 0)⟩, ⟨true, b2, .cells (kArr g) 23 (0, 0)⟩, ⟨true, b1, .cells (kArr f) 23 (0, 0)⟩] v := H
    replace F : Fm 141 [] [(8, .bool true), (140, .bool true), (139, .bool true), (138, .agg (kArr (byteOf nf))), (137, .agg (nArr (dg nf))), (136, .agg (kArr (byteOf nf))), (135, .agg (c5 j0 j1 j2 j3 j4)), (134, .bool true), (133, .bool true), (132, .bool true), (131, .bool be), (130, .agg (nArr (dg ng))), (129, .agg (nArr (dg nf))), (128, .bool be), (127, .bool true), (126, .bool true), (125, .bool true), (124, .agg (kArr (byteOf nt))), (123, .agg (nArr (dg nt))), (122, .agg (kArr (byteOf nt))), (121, .agg (c5 t0 t1 t2 t3 t4)), (120, .bool true), (119, .bool true), (118, .bool true), (117, .agg (kArr (byteOf nm))), (116, .agg (nArr (dg nm))), (115, .agg (nArr (dg ng))), (114, .agg (nArr (dg nf))), (113, .agg (kArr (byteOf nm))), (112, .agg (c5 m0 m1 m2 m3 m4)), (111, .bool true), (110, .bool true), (109, .bool true), (108, .agg (kArr (byteOf nd))), (107, .agg (nArr (dg nd))), (106, .agg (nArr (dg ng))), (105, .agg (nArr (dg nf))), (104, .agg (kArr (byteOf nd))), (103, .agg (c5 d0 d1 d2 d3 d4)), (102, .bool true), (101, .bool true), (100, .bool true), (99, .agg (kArr (byteOf ns))), (98, .agg (nArr (dg ns))), (97, .agg (nArr (dg ng))), (96, .agg (nArr (dg nf))), (95, .agg (kArr (byteOf ns))), (94, .agg (c5 s0 s1 s2 s3 s4)), (93, .bool true), (92, .bool true), (91, .agg (nArr (dg nf))), (90, .bool true), (3, .bool true), (9, .bool true), (10, .pointer (some ⟨b4, 0, none⟩)), (12, .pointer (some ⟨b5, 0, none⟩)), (16, .pointer (some ⟨b7, 0, none⟩)), (17, .pointer (some ⟨b8, 0, none⟩)), (19, .pointer (some ⟨b10, 0, none⟩)), (20, .pointer (some ⟨b11, 0, none⟩)), (21, .pointer (some ⟨b12, 0, none⟩)), (22, .pointer (some ⟨b13, 0, none⟩)), (23, .pointer (some ⟨b14, 0, none⟩)), (24, .bool be), (25, .pointer (some ⟨b15, 0, none⟩)), (26, .pointer (some ⟨b16, 0, none⟩))] a := F.weak _ (⟨rfl, ⟨rfl, ⟨rfl, ⟨rfl, ⟨rfl, ⟨rfl, ⟨rfl, ⟨rfl, ⟨rfl, ⟨rfl, ⟨rfl, ⟨rfl, ⟨rfl, ⟨rfl, ⟨rfl, ⟨rfl, ⟨rfl, ⟨rfl, ⟨rfl, ⟨rfl, ⟨rfl, ⟨rfl, ⟨rfl, ⟨rfl, ⟨rfl, ⟨rfl, ⟨rfl, ⟨rfl, ⟨rfl, ⟨rfl, ⟨rfl, ⟨rfl, ⟨rfl, ⟨rfl, ⟨rfl, ⟨rfl, ⟨rfl, ⟨rfl, ⟨rfl, ⟨rfl, ⟨rfl, ⟨rfl, ⟨rfl, ⟨rfl, ⟨rfl, ⟨rfl, ⟨rfl, ⟨rfl, ⟨rfl, ⟨rfl, ⟨rfl, ⟨rfl, ⟨rfl, ⟨rfl, ⟨rfl, ⟨rfl, ⟨rfl, ⟨rfl, ⟨rfl, ⟨rfl, ⟨rfl, ⟨rfl, ⟨rfl, ⟨rfl, ⟨rfl, ⟨rfl, trivial⟩⟩⟩⟩⟩⟩⟩⟩⟩⟩⟩⟩⟩⟩⟩⟩⟩⟩⟩⟩⟩⟩⟩⟩⟩⟩⟩⟩⟩⟩⟩⟩⟩⟩⟩⟩⟩⟩⟩⟩⟩⟩⟩⟩⟩⟩⟩⟩⟩⟩⟩⟩⟩⟩⟩⟩⟩⟩⟩⟩⟩⟩⟩⟩⟩⟩)
    refine hK _ _ ?_
    clear hK K
    refine wp_ret ?_
    exact C_ret F H (rs := [.tmp 8]) rfl (vs := [.bool true]) (.tmp rfl .nil) (.bool true) rfl ⟨rfl, H.kept.below⟩

end Go.Proofs.YtdmioipdmdmkhaaDoor
