/- The chapter's examples (law17): another core, another number lead to another key. -/
import Derived.Test.YtdejhenkdbjakaaDoorE6
set_option linter.unusedVariables false
set_option linter.unusedSimpArgs false
namespace Go.Proofs.YtdejhenkdbjakaaDoor
def AndsQ (P : Nat → Prop) : Nat → Nat → Prop
  | _, 0 => True
  | i, n + 1 => P i ∧ AndsQ P (i + 1) n
theorem ands_at {P : Nat → Prop} : ∀ (n i : Nat), AndsQ P i n → ∀ k, i ≤ k → k < i + n → P k
  | 0, i, _, k, h1, h2 => absurd h1 (by omega)
  | n + 1, i, h, k, h1, h2 => by
    rcases Nat.lt_or_ge i k with h3 | h3
    · exact ands_at n (i + 1) h.2 k h3 (by omega)
    · rw [show k = i by omega]; exact h.1
def lstE (T l : List Nat) : List Nat := T ++ (l.map fun V => highL V 32).flatten
theorem cgP : Nat.beq (shaE (lstE t3L pN)) 0xc7dcf8a2201ea8528e8068d044b70a41f4555f231b0f4208f5ac1fecfa1498a6 = true := by decide +kernel
theorem cgV : Nat.beq (shaE (lstE t3L vN)) 0xc097fdca792f271e7190f9ca5cc05d43caeff939093fda9933c31e8763dd8c12 = true := by decide +kernel
theorem cgQ : Nat.beq (shaE (lstE t4L qN)) 0xe8c9a0292609ce24d2d85ec3dc4124efbdd59dd5560e29d793e87e5db9ce749a = true := by decide +kernel
theorem endK_lst {tag : Nat → Nat} {T : List Nat} (hT : kl tag = T) (K : Nat → Nat → Nat) (l : List Nat) (n : Nat) (hl : l.length = n) (h : ∀ k, k < n → kl (K k) = highL (l.getD k 0) 32) : endK tag K n = lstE T l := by
  rw [endK_eq, endsL, hT, lstE]
  congr 2
  rw [List.map_map]
  refine List.ext_getElem? fun i => ?_
  rcases Nat.lt_or_ge i n with hi | hi
  · rw [List.getElem?_map, List.getElem?_range hi, List.getElem?_map, List.getElem?_eq_getElem (by omega)]
    have := h i hi
    rw [List.getD_eq_getElem?_getD, List.getElem?_eq_getElem (by omega), Option.getD_some] at this
    exact congrArg some this
  · rw [List.getElem?_eq_none (by simp; omega), List.getElem?_eq_none (by simp; omega)]
theorem s_all : ∀ k, k < 67 → sOk k = true := fun k hk => ands_at (P := fun k => sOk k = true) 67 0 ⟨es0, es1, es2, es3, es4, es5, es6, es7, es8, es9, es10, es11, es12, es13, es14, es15, es16, es17, es18, es19, es20, es21, es22, es23, es24, es25, es26, es27, es28, es29, es30, es31, es32, es33, es34, es35, es36, es37, es38, es39, es40, es41, es42, es43, es44, es45, es46, es47, es48, es49, es50, es51, es52, es53, es54, es55, es56, es57, es58, es59, es60, es61, es62, es63, es64, es65, es66, trivial⟩ k (Nat.zero_le k) (by omega)
theorem ep_all : ∀ k, k < 67 → rOk t3L dA pN k = true := fun k hk => ands_at (P := fun k => rOk t3L dA pN k = true) 67 0 ⟨ep0, ep1, ep2, ep3, ep4, ep5, ep6, ep7, ep8, ep9, ep10, ep11, ep12, ep13, ep14, ep15, ep16, ep17, ep18, ep19, ep20, ep21, ep22, ep23, ep24, ep25, ep26, ep27, ep28, ep29, ep30, ep31, ep32, ep33, ep34, ep35, ep36, ep37, ep38, ep39, ep40, ep41, ep42, ep43, ep44, ep45, ep46, ep47, ep48, ep49, ep50, ep51, ep52, ep53, ep54, ep55, ep56, ep57, ep58, ep59, ep60, ep61, ep62, ep63, ep64, ep65, ep66, trivial⟩ k (Nat.zero_le k) (by omega)
theorem ev_all : ∀ k, k < 67 → rOk t3L dB vN k = true := fun k hk => ands_at (P := fun k => rOk t3L dB vN k = true) 67 0 ⟨ev0, ev1, ev2, ev3, ev4, ev5, ev6, ev7, ev8, ev9, ev10, ev11, ev12, ev13, ev14, ev15, ev16, ev17, ev18, ev19, ev20, ev21, ev22, ev23, ev24, ev25, ev26, ev27, ev28, ev29, ev30, ev31, ev32, ev33, ev34, ev35, ev36, ev37, ev38, ev39, ev40, ev41, ev42, ev43, ev44, ev45, ev46, ev47, ev48, ev49, ev50, ev51, ev52, ev53, ev54, ev55, ev56, ev57, ev58, ev59, ev60, ev61, ev62, ev63, ev64, ev65, ev66, trivial⟩ k (Nat.zero_le k) (by omega)
theorem eq_all : ∀ k, k < 67 → rOk t4L dA qN k = true := fun k hk => ands_at (P := fun k => rOk t4L dA qN k = true) 67 0 ⟨eq0, eq1, eq2, eq3, eq4, eq5, eq6, eq7, eq8, eq9, eq10, eq11, eq12, eq13, eq14, eq15, eq16, eq17, eq18, eq19, eq20, eq21, eq22, eq23, eq24, eq25, eq26, eq27, eq28, eq29, eq30, eq31, eq32, eq33, eq34, eq35, eq36, eq37, eq38, eq39, eq40, eq41, eq42, eq43, eq44, eq45, eq46, eq47, eq48, eq49, eq50, eq51, eq52, eq53, eq54, eq55, eq56, eq57, eq58, eq59, eq60, eq61, eq62, eq63, eq64, eq65, eq66, trivial⟩ k (Nat.zero_le k) (by omega)
theorem dgl_lt (d : List Nat) (hd : (d.all fun x => Nat.blt x 16) = true) (k : Nat) : d.getD k 0 < 16 := by
  rw [List.getD_eq_getElem?_getD]
  cases e : d[k]? with
  | none => rw [Option.getD_none]; omega
  | some x =>
    rw [Option.getD_some]
    have := List.all_eq_true.1 hd x (List.mem_of_getElem? e)
    exact Nat.le_of_ble_eq_true this
theorem sN_spec (k : Nat) (hk : k < 67) : highL (sN.getD k 0) 32 = kl (sigN (oneF 1) 3 [97] k) := by
  have e := Nat.eq_of_beq_eq_true (s_all k hk)
  rw [← e]
  have e2 : sE k = alE (t3L ++ highL k 2) (dA.getD k 0) 0 (bgQ k) := (frc_eq _ _).trans (frc_eq _ _)
  have hlt := dgl_lt dA (by decide +kernel) k
  rw [e2, ← t3_eq]
  unfold sigN sgK
  rw [dA_dig]
  exact alE_spec (tgF 3) k (by omega) (dA.getD k 0) 0 _ _ (by omega) (bgQ_spec k (by omega))
theorem rc_spec {tag fd : Nat → Nat} {T d l : List Nat} (hT : kl tag = T) (hd : digL fd = d) (hb : (d.all fun x => Nat.blt x 16) = true) (h : ∀ k, k < 67 → rOk T d l k = true) (k : Nat) (hk : k < 67) : kl (rcK tag fd (sigN (oneF 1) 3 [97]) k) = highL (l.getD k 0) 32 := by
  have e := Nat.eq_of_beq_eq_true (h k hk)
  rw [← e]
  have e2 : rcE T d k = alE (T ++ highL k 2) (15 - d.getD k 0) (d.getD k 0) (sN.getD k 0) := (frc_eq _ _).trans ((frc_eq _ _).trans (frc_eq _ _))
  have hlt := dgl_lt d hb k
  rw [e2, ← hT]
  unfold rcK
  rw [hd]
  exact (alE_spec tag k (by omega) (15 - d.getD k 0) (d.getD k 0) _ _ (by omega) (sN_spec k hk)).symm
theorem end_p : endK (tgF 3) (rcK (tgF 3) (dgF [97]) (sigN (oneF 1) 3 [97])) 67 = lstE t3L pN := endK_lst t3_eq _ pN 67 (by decide) (rc_spec t3_eq dA_dig (by decide +kernel) ep_all)
theorem end_v : endK (tgF 3) (rcK (tgF 3) (dgF [98]) (sigN (oneF 1) 3 [97])) 67 = lstE t3L vN := endK_lst t3_eq _ vN 67 (by decide) (rc_spec t3_eq dB_dig (by decide +kernel) ev_all)
theorem end_q : endK (tgF 4) (rcK (tgF 4) (dgF [97]) (sigN (oneF 1) 3 [97])) 67 = lstE t4L qN := endK_lst t4_eq _ qN 67 (by decide) (rc_spec t4_eq dA_dig (by decide +kernel) eq_all)
theorem vf_sig (seed : Nat → Nat) (n : Nat) (l : List Nat) : vfK n l (sigN seed n l) = pubN seed n := by
  unfold vfK pubN sigN
  rw [rc_sg (sdF seed n) (tgF n) (dgF l) fun i _ => shaK_lt _ i]
theorem kl_inj2 {f g : Nat → Nat} (h : ∀ i, i < 32 → f i = g i) : kl f = kl g := List.map_congr_left fun i hi => h i (List.mem_range.1 hi)
theorem pub_num : kl (pubN (oneF 1) 3) = highL 0xc7dcf8a2201ea8528e8068d044b70a41f4555f231b0f4208f5ac1fecfa1498a6 32 := by
  rw [← vf_sig (oneF 1) 3 [97]]
  unfold vfK
  rw [end_p, ← shaE_bytes, Nat.eq_of_beq_eq_true cgP]
theorem core_ne : ¬ ∀ i, i < 32 → vfK 3 [98] (sigN (oneF 1) 3 [97]) i = pubN (oneF 1) 3 i := fun h => by
  have h1 := kl_inj2 h
  unfold vfK at h1
  rw [end_v, ← shaE_bytes, Nat.eq_of_beq_eq_true cgV, pub_num] at h1
  revert h1
  decide +kernel
theorem num_ne : ¬ ∀ i, i < 32 → vfK 4 [97] (sigN (oneF 1) 3 [97]) i = pubN (oneF 1) 3 i := fun h => by
  have h1 := kl_inj2 h
  unfold vfK at h1
  rw [end_q, ← shaE_bytes, Nat.eq_of_beq_eq_true cgQ, pub_num] at h1
  revert h1
  decide +kernel
end Go.Proofs.YtdejhenkdbjakaaDoor
