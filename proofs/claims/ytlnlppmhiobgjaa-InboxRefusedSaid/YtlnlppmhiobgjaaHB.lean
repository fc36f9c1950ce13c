/- Walks: inbox.Load. -/
import Derived.Test.YtlnlppmhiobgjaaHU
set_option linter.unusedVariables false
set_option linter.unusedSimpArgs false
namespace Go.Proofs.Ytlnlppmhiobgjaa
open Go Go.RowKit
def rz (ks : List Nat) : Nat → Bool
  | 0 => true
  | k + 1 => rz ks k && (decide (k = 0) || decide (ks.getD (k - 1) 0 < ks.getD k 0))
theorem rz_false {ks : List Nat} {k : Nat} (h : rz ks k = false) : rz ks (k + 1) = false := by rw [rz, h]; rfl
theorem rz_zero {ks : List Nat} : rz ks (0 + 1) = true := rfl
theorem rz_next {ks : List Nat} {k : Nat} (h : rz ks k = true) (hk : 0 < k) : rz ks (k + 1) = decide (ks.getD (k - 1) 0 < ks.getD k 0) := by
  rw [rz, h, decide_eq_false (by omega : ¬ k = 0)]; rfl
theorem rz_spec {ks : List Nat} : ∀ {n : Nat}, rz ks n = true → ∀ i j, i < j → j < n → ks.getD i 0 < ks.getD j 0
  | 0, _, i, j, _, h => by omega
  | n + 1, h, i, j, hij, hj => by
    rw [rz, Bool.and_eq_true, Bool.or_eq_true, decide_eq_true_eq, decide_eq_true_eq] at h
    rcases Nat.lt_or_ge j n with h1 | h1
    · exact rz_spec h.1 i j hij h1
    · have : j = n := by omega
      subst this
      rcases h.2 with h2 | h2
      · omega
      · rcases Nat.lt_or_ge i (j - 1) with h3 | h3
        · exact Nat.lt_trans (rz_spec h.1 i (j - 1) h3 (by omega)) h2
        · have : i = j - 1 := by omega
          rw [this]; exact h2
def dS (h : Nat × Sv) : Nat × List Nat := (h.1, h.2.l)
theorem hv_ld {w : World} {g off k : Nat} {hs : List (Nat × Sv)} {h : Nat × Sv} (hr : RdB w g off (hs.flatMap hvC)) (hk : hs[k]? = some h) : ∀ j v, (hvC h).toArray[j]? = some v → w.cell? ⟨g, off + k * 2 + j, none⟩ = some v := fun j v hj => by
  rw [List.getElem?_toArray] at hj
  have hj2 : j < 2 := (List.getElem?_eq_some_iff.1 hj).1
  rw [Nat.add_assoc]
  exact hr _ _ ((flat_at (f := hvC) (n := 2) (fun _ => rfl) hk hj2).trans hj)
theorem lsv_plain (o : Ls) : plainV o.v = true := by unfold Ls.v; split <;> rfl
theorem hv_one (h : Nat × Sv) : (hvC h).toArray.all (·.oneCell') = true := by
  unfold hvC
  simp only [List.all_toArray, List.all_cons, List.all_nil, Bool.and_true]
  rfl
theorem Hv.Rd.kept {w w' : World} {h : Hv} (hr : h.Rd w) (k : Kept [] w w') : h.Rd w' := ⟨hr.le, hr.nil, hr.big, fun hl => let ⟨g, off, h1, h2⟩ := hr.at_ hl; ⟨g, off, h1, h2.kept k List.not_mem_nil⟩, fun x hx => ⟨(hr.each x hx).1, (hr.each x hx).2.1.kept k, (hr.each x hx).2.2⟩⟩
theorem Uv.Rd.kept {w w' : World} {h : Uv} (hr : h.Rd w) (k : Kept [] w w') : h.Rd w' := ⟨hr.le, hr.nil, hr.big, fun hl => let ⟨g, off, h1, h2⟩ := hr.at_ hl; ⟨g, off, h1, h2.kept k List.not_mem_nil⟩, fun x hx => ⟨(hr.each x hx).1.kept k, (hr.each x hx).2⟩⟩
theorem Uv.lv {w : World} {u : Uv} (h : u.Rd w) (hn : u.ss.length < 1000000) : Lv.Rd w ⟨u.ad, u.c, u.ss⟩ := ⟨h.le, hn, fun hl => let ⟨g, off, h1, h2⟩ := h.at_ hl; ⟨g, off, h1, by
  have e : (u.ss.flatMap fun x => [x.v]) = u.ss.map Sv.v := by
    clear h1 h2 hl hn h
    induction u.ss with
    | nil => rfl
    | cons a l ih => rw [List.flatMap_cons, ih]; rfl
  rwa [e] at h2⟩, fun x hx => (h.each x hx).1⟩

set_option maxRecDepth 100000 in
set_option maxHeartbeats 4000000 in
theorem unread_lv (xb uc : Nat) (ua : Option Addr) (ss : List Sv) (hv : Value) (hn : ss.length < 1000000) (w : World) (hx : w.heap[xb]? = some (.cells #[hv, .slice ua ss.length uc] 28 (0, 0))) (hR : Lv.Rd w ⟨ua, uc, ss⟩) : Calls Try.prog 13 #[.pointer (some ⟨xb, 0, none⟩)] w fun e w' => ∃ o : Ls, e = .returned o.v ∧ o.ok ∧ o.ls = ss.map (·.l) ∧ o.cs.length = ss.length ∧ Hp [] w o.blks w' := by
  refine C_enter Try.func13 rfl 22 Try.ntmps13 (Nat.le_of_ble_eq_true rfl) (fun a F => ?_)
  have H := Hp.start1 [] hx
  replace F : Fm 22 [] [(0, pt xb 0)] a := F.weak _ (subL_of kr)
  refine C_seqK (fun K1 hK1 => ?_)
  refine C_region ?_
  refine T_k F H (.slice none 0 0) ?_
  clear F; intro a F
  refine wpList_nil ?_
  refine hK1 _ _ ?_
  clear hK1
  try clear K1
  refine C_seqK (fun K2 hK2 => ?_)
  refine C_region ?_
  refine T_k F H (.slice none 0 0) ?_
  clear F; intro a F
  refine wpList_nil ?_
  refine hK2 _ _ ?_
  clear hK2
  try clear K2
  refine C_seqK (fun K3 hK3 => ?_)
  refine C_seqK (fun K4 hK4 => ?_)
  refine C_region ?_
  refine T_k F H (pt xb 0) ?_
  clear F; intro a F
  refine T_k F H (pt xb 0) ?_
  clear F; intro a F
  refine T_k F H (pt xb 1) ?_
  clear F; intro a F
  refine T_val F H kr (.slice ua ss.length uc) (R_cell  0 rfl 26 (.tmp 8) rfl 1 kr (.slice ua ss.length uc) kr _ Try.underlying26 rfl) ?_
  clear F; intro a F
  refine T_k F H (ni ss.length) ?_
  clear F; intro a F
  refine T_k F H (ni 0) ?_
  clear F; intro a F
  refine wpList_nil ?_
  refine hK4 _ _ ?_
  clear hK4
  try clear K4
  replace F : Fm 22 [] [(11, ni 0), (10, ni ss.length), (9, .slice ua ss.length uc), (3, .slice none 0 0)] a := F.weak _ (subL_of kr)
  replace H : Hp [] w [] w := H.pick [] kr _ rfl
  refine wp_block ?_
  refine C_loop (fun m a v => ∃ (k : Nat) (o : Ls), k + m = ss.length ∧ (o.ok ∧ o.ls = (ss.take k).map (·.l) ∧ o.cs.length = k) ∧ Fm 22 [] [(11, ni k), (10, ni ss.length), (9, .slice ua ss.length uc), (3, (o.v))] a ∧ Hp [] w o.blks v) ss.length ⟨0, ⟨true, 0, 0, [], []⟩, Nat.zero_add _, ⟨⟨fun _ => rfl, (fun e => by cases e), fun c hc => by cases hc⟩, rfl, rfl⟩, F, H⟩ ?_
  clear F H
  intro m a v ⟨k, o, hk, hI, F, H⟩
  obtain ⟨ho, hls, hcn⟩ := hI
  rcases m with _ | m
  rotate_left
  · obtain ⟨sk, hck⟩ : ∃ sk, ss[k]? = some sk := ⟨_, List.getElem?_eq_getElem (show k < ss.length by omega)⟩
    have hckr := hR.each sk (List.mem_of_getElem? hck)
    obtain ⟨gu, offu, e1, hru⟩ := hR.at_ (fun e => by have e' : ss = [] := e; rw [e'] at hck; cases hck)
    replace e1 : ua = some ⟨gu, offu, none⟩ := e1
    replace hru : RdB w gu offu (ss.map Sv.v) := hru
    subst e1
    obtain ⟨sad, sc_, l⟩ := sk
    obtain ⟨onl, og, oc, orest, cs0⟩ := o
    have hck2 : (ss.take (k + 1)).map (·.l) = (ss.take k).map (·.l) ++ [l] := by rw [List.take_add_one, hck, List.map_append]; rfl
    cases onl <;> cases sad
    · skip
      have hOo : Own (cs0.map Cl.v) orest cs0.length oc 1 := ho.own rfl
      replace hcn : cs0.length = k := hcn
      have h1 : l = [] := hckr.empty rfl
      have h2 : sc_ = 0 := hckr.nil rfl
      subst h1 h2
      replace F : Fm 22 [] [(11, ni k), (10, ni ss.length), (9, sc gu offu ss.length uc), (3, sc og 0 cs0.length oc)] a := F
      replace H : Hp [] w ((bk og (sl (cs0.map Cl.v) orest) 30) :: clB cs0) v := H
      refine C_seqK (fun K5 hK5 => ?_)
      refine C_region ?_
      refine T_val F H kr (.bool true) (fun w _ => R_bin (x := (.tmp 11)) (y := (.tmp 10)) rfl (k := .i64) (a := ((k : Nat) : Int)) (b := ((ss.length : Nat) : Int)) kr kr (i_lt (by omega)) w) ?_
      clear F; intro a F
      refine wpList_nil ?_
      refine hK5 _ _ ?_
      clear hK5
      try clear K5
      refine C_seqK (fun K6 hK6 => ?_)
      refine C_if F true rfl rfl ?_
      refine wp_skip ?_
      refine hK6 _ _ ?_
      clear hK6
      try clear K6
      refine C_seqK (fun K7 hK7 => ?_)
      refine wp_block ?_
      refine C_seqK (fun K8 hK8 => ?_)
      refine C_region ?_
      refine T_val F H kr (pt gu (offu + (k) * 1)) (fun w _ => R_indexS (k := .i64) (g := gu) (off := offu) (len := ss.length) (cap := uc) (x := (.tmp 9)) (y := (.tmp 11)) rfl Try.underlying26 kr (k) kr (by omega) (sz := 1) kr w) ?_
      clear F; intro a F
      refine T_valK F H kr (.slice none 0 0) (fun w hk hl => R_ld (y := (.tmp 13)) rfl (g := gu) (off := (offu + (k) * 1)) kr ((hru.kept hk List.not_mem_nil) _ _ (by rw [Nat.mul_one, List.getElem?_map, hck]; rfl)) _ Try.underlying30 rfl) ?_
      clear F; intro a F
      refine T_k F H (.slice none 0 0) ?_
      clear F; intro a F
      refine wpList_nil ?_
      refine hK8 _ _ ?_
      clear hK8
      try clear K8
      refine C_region ?_
      refine T_k F H (sc og 0 cs0.length oc) ?_
      clear F; intro a F
      refine T_k F H (.slice none 0 0) ?_
      clear F; intro a F
      refine T_call F H kr 29 #[.slice none 0 0] (.slice none 0 0) (fun w => kr) (clone_nil _) ?_
      clear F H; intro a v F H
      refine T_new F H kr (fun ad => sc ad 0 1 1) (ce #[.slice none 0 0] 30) (fun w => R_buildS (len := 1) rfl Try.underlying26 (#[.slice none 0 0]) kr w) ?_
      clear F H; intro aq9 a v F H
      refine T_app F H kr 26 30 (.tmp 15) (.tmp 18) rfl 1 24 kr kr 1 rfl hOo kr (1) ([.slice none 0 0]) (fun w hk hl => (RdS.all (hl.at_ (k := 0) rfl) (Nat.le_refl _))) rfl (by intro u hu; simp only [List.mem_cons, List.not_mem_nil, or_false] at hu; first | (subst hu; rfl) | (rcases hu with rfl | rfl | rfl <;> rfl)) (by simp only [maxLen]; omega) (by omega) _ rfl ?_
      clear F H; intro rq10 a v Qrq10 F H
      refine T_k F H (sc rq10.g 0 (cs0.length + 1) rq10.cap) ?_
      clear F; intro a F
      refine wpList_nil ?_
      refine hK7 _ _ ?_
      clear hK7
      try clear K7
      refine C_region ?_
      refine T_val F H kr (ni (k + 1)) (fun w _ => R_bin (x := (.tmp 11)) (y := (.const (.int .i64 1))) rfl (k := .i64) (a := ((k : Nat) : Int)) (b := ((1 : Nat) : Int)) kr kr (i_addn64 (a := k) (b := 1) (by omega)) w) ?_
      clear F; intro a F
      refine T_k F H (ni (k + 1)) ?_
      clear F; intro a F
      refine wpList_nil ?_
      replace H : Hp [] w ((bk rq10.g (sl ((cs0.map Cl.v) ++ ([.slice none 0 0])) rq10.rest) 30) :: clB cs0) v := Hp.pickT (A := [bk rq10.g (sl ((cs0.map Cl.v) ++ ([.slice none 0 0])) rq10.rest) 30, bk aq9 #[.slice none 0 0] 30]) (R := clB cs0) H [0] kr _ rfl
      refine ⟨m, Nat.lt_succ_self m, k + 1, (⟨false, rq10.g, rq10.cap, rq10.rest, cs0 ++ [(⟨true, 0, 0, [], []⟩ : Cl)]⟩ : Ls), by omega, ⟨⟨(fun e => by cases e), (fun _ => by rw [List.map_append, List.length_append]; exact Qrq10), (fun c hc => (List.mem_append.1 hc).elim (ho.each c) (fun hc => by rw [List.mem_singleton.1 hc]; exact ⟨Nat.zero_le _, fun _ => rfl, fun e => by cases e⟩))⟩, ?_, ?_⟩, ?_, ?_⟩
      · rw [hck2, ← hls]; unfold Ls.ls; rw [List.map_append]; rfl
      · show (cs0 ++ [(⟨true, 0, 0, [], []⟩ : Cl)]).length = k + 1
        rw [List.length_append]
        show cs0.length + 1 = k + 1
        omega
      · show Fm 22 [] [(11, ni (k + 1)), (10, ni ss.length), (9, sc gu offu ss.length uc), (3, sc rq10.g 0 (cs0 ++ [(⟨true, 0, 0, [], []⟩ : Cl)]).length rq10.cap)] a
        rw [List.length_append]
        exact F.weak _ (subL_of kr)
      · refine Hp.tailC (A := [bk rq10.g (sl ((cs0 ++ [(⟨true, 0, 0, [], []⟩ : Cl)]).map Cl.v) rq10.rest) 30]) (c := (⟨true, 0, 0, [], []⟩ : Cl)) (cs := cs0) ?_
        rw [List.map_append]
        exact H
    · rename_i bq
      have hOo : Own (cs0.map Cl.v) orest cs0.length oc 1 := ho.own rfl
      replace hcn : cs0.length = k := hcn
      replace F : Fm 22 [] [(11, ni k), (10, ni ss.length), (9, sc gu offu ss.length uc), (3, sc og 0 cs0.length oc)] a := F
      replace H : Hp [] w ((bk og (sl (cs0.map Cl.v) orest) 30) :: clB cs0) v := H
      refine C_seqK (fun K11 hK11 => ?_)
      refine C_region ?_
      refine T_val F H kr (.bool true) (fun w _ => R_bin (x := (.tmp 11)) (y := (.tmp 10)) rfl (k := .i64) (a := ((k : Nat) : Int)) (b := ((ss.length : Nat) : Int)) kr kr (i_lt (by omega)) w) ?_
      clear F; intro a F
      refine wpList_nil ?_
      refine hK11 _ _ ?_
      clear hK11
      try clear K11
      refine C_seqK (fun K12 hK12 => ?_)
      refine C_if F true rfl rfl ?_
      refine wp_skip ?_
      refine hK12 _ _ ?_
      clear hK12
      try clear K12
      refine C_seqK (fun K13 hK13 => ?_)
      refine wp_block ?_
      refine C_seqK (fun K14 hK14 => ?_)
      refine C_region ?_
      refine T_val F H kr (pt gu (offu + (k) * 1)) (fun w _ => R_indexS (k := .i64) (g := gu) (off := offu) (len := ss.length) (cap := uc) (x := (.tmp 9)) (y := (.tmp 11)) rfl Try.underlying26 kr (k) kr (by omega) (sz := 1) kr w) ?_
      clear F; intro a F
      refine T_valK F H kr (.slice (some bq) l.length sc_) (fun w hk hl => R_ld (y := (.tmp 13)) rfl (g := gu) (off := (offu + (k) * 1)) kr ((hru.kept hk List.not_mem_nil) _ _ (by rw [Nat.mul_one, List.getElem?_map, hck]; rfl)) _ Try.underlying30 rfl) ?_
      clear F; intro a F
      refine T_k F H (.slice (some bq) l.length sc_) ?_
      clear F; intro a F
      refine wpList_nil ?_
      refine hK14 _ _ ?_
      clear hK14
      try clear K14
      refine C_region ?_
      refine T_k F H (sc og 0 cs0.length oc) ?_
      clear F; intro a F
      refine T_k F H (.slice (some bq) l.length sc_) ?_
      clear F; intro a F
      refine T_callX (α := SlR) F H kr 29 #[.slice (some bq) l.length sc_] (fun rX => sc rX.g 0 l.length rX.cap) (fun rX => ((bk rX.g (sl (oct (l)) rX.rest) 5) :: (bk og (sl (cs0.map Cl.v) orest) 30) :: clB cs0)) (fun rX => Own (oct (l)) rX.rest (l.length) rX.cap 1) (fun w => kr) (fun w H => callsX_newV H (clone_some bq l.length sc_ l rfl hckr.big _ ((hckr.kept H.kept).rds rfl))) ?_
      clear F H; intro rq15 a v Qrq15 F H
      refine T_new F H kr (fun ad => sc ad 0 1 1) (ce #[sc rq15.g 0 l.length rq15.cap] 30) (fun w => R_buildS (len := 1) rfl Try.underlying26 (#[sc rq15.g 0 l.length rq15.cap]) kr w) ?_
      clear F H; intro aq16 a v F H
      refine T_app F H kr 26 30 (.tmp 15) (.tmp 18) rfl 1 24 kr kr 2 rfl hOo kr (1) ([sc rq15.g 0 l.length rq15.cap]) (fun w hk hl => (RdS.all (hl.at_ (k := 0) rfl) (Nat.le_refl _))) rfl (by intro u hu; simp only [List.mem_cons, List.not_mem_nil, or_false] at hu; first | (subst hu; rfl) | (rcases hu with rfl | rfl | rfl <;> rfl)) (by simp only [maxLen]; omega) (by omega) _ rfl ?_
      clear F H; intro rq17 a v Qrq17 F H
      refine T_k F H (sc rq17.g 0 (cs0.length + 1) rq17.cap) ?_
      clear F; intro a F
      refine wpList_nil ?_
      refine hK13 _ _ ?_
      clear hK13
      try clear K13
      refine C_region ?_
      refine T_val F H kr (ni (k + 1)) (fun w _ => R_bin (x := (.tmp 11)) (y := (.const (.int .i64 1))) rfl (k := .i64) (a := ((k : Nat) : Int)) (b := ((1 : Nat) : Int)) kr kr (i_addn64 (a := k) (b := 1) (by omega)) w) ?_
      clear F; intro a F
      refine T_k F H (ni (k + 1)) ?_
      clear F; intro a F
      refine wpList_nil ?_
      replace H : Hp [] w ((bk rq17.g (sl ((cs0.map Cl.v) ++ ([sc rq15.g 0 l.length rq15.cap])) rq17.rest) 30) :: (bk rq15.g (sl (oct (l)) rq15.rest) 5) :: clB cs0) v := Hp.pickT (A := [bk rq17.g (sl ((cs0.map Cl.v) ++ ([sc rq15.g 0 l.length rq15.cap])) rq17.rest) 30, bk aq16 #[sc rq15.g 0 l.length rq15.cap] 30, bk rq15.g (sl (oct (l)) rq15.rest) 5]) (R := clB cs0) H [0, 2] kr _ rfl
      refine ⟨m, Nat.lt_succ_self m, k + 1, (⟨false, rq17.g, rq17.cap, rq17.rest, cs0 ++ [(⟨false, rq15.g, rq15.cap, rq15.rest, l⟩ : Cl)]⟩ : Ls), by omega, ⟨⟨(fun e => by cases e), (fun _ => by rw [List.map_append, List.length_append]; exact Qrq17), (fun c hc => (List.mem_append.1 hc).elim (ho.each c) (fun hc => by rw [List.mem_singleton.1 hc]; exact ⟨hckr.big, (fun e => by cases e), fun _ => Qrq15⟩))⟩, ?_, ?_⟩, ?_, ?_⟩
      · rw [hck2, ← hls]; unfold Ls.ls; rw [List.map_append]; rfl
      · show (cs0 ++ [(⟨false, rq15.g, rq15.cap, rq15.rest, l⟩ : Cl)]).length = k + 1
        rw [List.length_append]
        show cs0.length + 1 = k + 1
        omega
      · show Fm 22 [] [(11, ni (k + 1)), (10, ni ss.length), (9, sc gu offu ss.length uc), (3, sc rq17.g 0 (cs0 ++ [(⟨false, rq15.g, rq15.cap, rq15.rest, l⟩ : Cl)]).length rq17.cap)] a
        rw [List.length_append]
        exact F.weak _ (subL_of kr)
      · refine Hp.tailC (A := [bk rq17.g (sl ((cs0 ++ [(⟨false, rq15.g, rq15.cap, rq15.rest, l⟩ : Cl)]).map Cl.v) rq17.rest) 30]) (c := (⟨false, rq15.g, rq15.cap, rq15.rest, l⟩ : Cl)) (cs := cs0) ?_
        rw [List.map_append]
        exact H
    · skip
      have h0 : cs0 = [] := ho.nil rfl
      subst h0
      have h1 : l = [] := hckr.empty rfl
      have h2 : sc_ = 0 := hckr.nil rfl
      subst h1 h2
      replace F : Fm 22 [] [(11, ni k), (10, ni ss.length), (9, sc gu offu ss.length uc), (3, .slice none 0 0)] a := F
      replace H : Hp [] w [] v := H
      refine C_seqK (fun K18 hK18 => ?_)
      refine C_region ?_
      refine T_val F H kr (.bool true) (fun w _ => R_bin (x := (.tmp 11)) (y := (.tmp 10)) rfl (k := .i64) (a := ((k : Nat) : Int)) (b := ((ss.length : Nat) : Int)) kr kr (i_lt (by omega)) w) ?_
      clear F; intro a F
      refine wpList_nil ?_
      refine hK18 _ _ ?_
      clear hK18
      try clear K18
      refine C_seqK (fun K19 hK19 => ?_)
      refine C_if F true rfl rfl ?_
      refine wp_skip ?_
      refine hK19 _ _ ?_
      clear hK19
      try clear K19
      refine C_seqK (fun K20 hK20 => ?_)
      refine wp_block ?_
      refine C_seqK (fun K21 hK21 => ?_)
      refine C_region ?_
      refine T_val F H kr (pt gu (offu + (k) * 1)) (fun w _ => R_indexS (k := .i64) (g := gu) (off := offu) (len := ss.length) (cap := uc) (x := (.tmp 9)) (y := (.tmp 11)) rfl Try.underlying26 kr (k) kr (by omega) (sz := 1) kr w) ?_
      clear F; intro a F
      refine T_valK F H kr (.slice none 0 0) (fun w hk hl => R_ld (y := (.tmp 13)) rfl (g := gu) (off := (offu + (k) * 1)) kr ((hru.kept hk List.not_mem_nil) _ _ (by rw [Nat.mul_one, List.getElem?_map, hck]; rfl)) _ Try.underlying30 rfl) ?_
      clear F; intro a F
      refine T_k F H (.slice none 0 0) ?_
      clear F; intro a F
      refine wpList_nil ?_
      refine hK21 _ _ ?_
      clear hK21
      try clear K21
      refine C_region ?_
      refine T_k F H (.slice none 0 0) ?_
      clear F; intro a F
      refine T_k F H (.slice none 0 0) ?_
      clear F; intro a F
      refine T_call F H kr 29 #[.slice none 0 0] (.slice none 0 0) (fun w => kr) (clone_nil _) ?_
      clear F H; intro a v F H
      refine T_new F H kr (fun ad => sc ad 0 1 1) (ce #[.slice none 0 0] 30) (fun w => R_buildS (len := 1) rfl Try.underlying26 (#[.slice none 0 0]) kr w) ?_
      clear F H; intro aq22 a v F H
      refine T_appN F H kr 26 30 (.tmp 15) (.tmp 18) rfl 1 24 kr kr kr (1) ([.slice none 0 0]) (fun w hk hl => (RdS.all (hl.at_ (k := 0) rfl) (Nat.le_refl _))) rfl (by decide) (by simp only [maxLen]; decide) (by decide) ?_
      clear F H; intro rq23 a v Qrq23 F H
      refine T_k F H (sc rq23.g 0 1 rq23.cap) ?_
      clear F; intro a F
      refine wpList_nil ?_
      refine hK20 _ _ ?_
      clear hK20
      try clear K20
      refine C_region ?_
      refine T_val F H kr (ni (k + 1)) (fun w _ => R_bin (x := (.tmp 11)) (y := (.const (.int .i64 1))) rfl (k := .i64) (a := ((k : Nat) : Int)) (b := ((1 : Nat) : Int)) kr kr (i_addn64 (a := k) (b := 1) (by omega)) w) ?_
      clear F; intro a F
      refine T_k F H (ni (k + 1)) ?_
      clear F; intro a F
      refine wpList_nil ?_
      replace H : Hp [] w [bk rq23.g (sl ([.slice none 0 0]) rq23.rest) 30] v := H.pick [0] kr _ rfl
      refine ⟨m, Nat.lt_succ_self m, k + 1, (⟨false, rq23.g, rq23.cap, rq23.rest, [] ++ [(⟨true, 0, 0, [], []⟩ : Cl)]⟩ : Ls), by omega, ⟨⟨(fun e => by cases e), (fun _ => by rw [List.nil_append]; exact Qrq23), (fun c hc => by rw [List.mem_singleton.1 hc]; exact ⟨Nat.zero_le _, fun _ => rfl, fun e => by cases e⟩)⟩, ?_, ?_⟩, ?_, ?_⟩
      · rw [hck2, ← hls]; unfold Ls.ls; rw [List.map_append]; rfl
      · show ([] ++ [(⟨true, 0, 0, [], []⟩ : Cl)]).length = k + 1
        rw [List.length_append]
        show 0 + 1 = k + 1
        rw [← hcn]; rfl
      · show Fm 22 [] [(11, ni (k + 1)), (10, ni ss.length), (9, sc gu offu ss.length uc), (3, sc rq23.g 0 ([] ++ [(⟨true, 0, 0, [], []⟩ : Cl)]).length rq23.cap)] a
        exact F.weak _ (subL_of kr)
      · exact Hp.tailC (A := [bk rq23.g (sl (([] ++ [(⟨true, 0, 0, [], []⟩ : Cl)]).map Cl.v) rq23.rest) 30]) (c := (⟨true, 0, 0, [], []⟩ : Cl)) (cs := []) H
    · rename_i bq
      have h0 : cs0 = [] := ho.nil rfl
      subst h0
      replace F : Fm 22 [] [(11, ni k), (10, ni ss.length), (9, sc gu offu ss.length uc), (3, .slice none 0 0)] a := F
      replace H : Hp [] w [] v := H
      refine C_seqK (fun K24 hK24 => ?_)
      refine C_region ?_
      refine T_val F H kr (.bool true) (fun w _ => R_bin (x := (.tmp 11)) (y := (.tmp 10)) rfl (k := .i64) (a := ((k : Nat) : Int)) (b := ((ss.length : Nat) : Int)) kr kr (i_lt (by omega)) w) ?_
      clear F; intro a F
      refine wpList_nil ?_
      refine hK24 _ _ ?_
      clear hK24
      try clear K24
      refine C_seqK (fun K25 hK25 => ?_)
      refine C_if F true rfl rfl ?_
      refine wp_skip ?_
      refine hK25 _ _ ?_
      clear hK25
      try clear K25
      refine C_seqK (fun K26 hK26 => ?_)
      refine wp_block ?_
      refine C_seqK (fun K27 hK27 => ?_)
      refine C_region ?_
      refine T_val F H kr (pt gu (offu + (k) * 1)) (fun w _ => R_indexS (k := .i64) (g := gu) (off := offu) (len := ss.length) (cap := uc) (x := (.tmp 9)) (y := (.tmp 11)) rfl Try.underlying26 kr (k) kr (by omega) (sz := 1) kr w) ?_
      clear F; intro a F
      refine T_valK F H kr (.slice (some bq) l.length sc_) (fun w hk hl => R_ld (y := (.tmp 13)) rfl (g := gu) (off := (offu + (k) * 1)) kr ((hru.kept hk List.not_mem_nil) _ _ (by rw [Nat.mul_one, List.getElem?_map, hck]; rfl)) _ Try.underlying30 rfl) ?_
      clear F; intro a F
      refine T_k F H (.slice (some bq) l.length sc_) ?_
      clear F; intro a F
      refine wpList_nil ?_
      refine hK27 _ _ ?_
      clear hK27
      try clear K27
      refine C_region ?_
      refine T_k F H (.slice none 0 0) ?_
      clear F; intro a F
      refine T_k F H (.slice (some bq) l.length sc_) ?_
      clear F; intro a F
      refine T_callX (α := SlR) F H kr 29 #[.slice (some bq) l.length sc_] (fun rX => sc rX.g 0 l.length rX.cap) (fun rX => [bk rX.g (sl (oct (l)) rX.rest) 5]) (fun rX => Own (oct (l)) rX.rest (l.length) rX.cap 1) (fun w => kr) (fun w H => callsX_newV H (clone_some bq l.length sc_ l rfl hckr.big _ ((hckr.kept H.kept).rds rfl))) ?_
      clear F H; intro rq28 a v Qrq28 F H
      refine T_new F H kr (fun ad => sc ad 0 1 1) (ce #[sc rq28.g 0 l.length rq28.cap] 30) (fun w => R_buildS (len := 1) rfl Try.underlying26 (#[sc rq28.g 0 l.length rq28.cap]) kr w) ?_
      clear F H; intro aq29 a v F H
      refine T_appN F H kr 26 30 (.tmp 15) (.tmp 18) rfl 1 24 kr kr kr (1) ([sc rq28.g 0 l.length rq28.cap]) (fun w hk hl => (RdS.all (hl.at_ (k := 0) rfl) (Nat.le_refl _))) rfl (by decide) (by simp only [maxLen]; decide) (by decide) ?_
      clear F H; intro rq30 a v Qrq30 F H
      refine T_k F H (sc rq30.g 0 1 rq30.cap) ?_
      clear F; intro a F
      refine wpList_nil ?_
      refine hK26 _ _ ?_
      clear hK26
      try clear K26
      refine C_region ?_
      refine T_val F H kr (ni (k + 1)) (fun w _ => R_bin (x := (.tmp 11)) (y := (.const (.int .i64 1))) rfl (k := .i64) (a := ((k : Nat) : Int)) (b := ((1 : Nat) : Int)) kr kr (i_addn64 (a := k) (b := 1) (by omega)) w) ?_
      clear F; intro a F
      refine T_k F H (ni (k + 1)) ?_
      clear F; intro a F
      refine wpList_nil ?_
      replace H : Hp [] w [bk rq30.g (sl ([sc rq28.g 0 l.length rq28.cap]) rq30.rest) 30, bk rq28.g (sl (oct (l)) rq28.rest) 5] v := H.pick [0, 2] kr _ rfl
      refine ⟨m, Nat.lt_succ_self m, k + 1, (⟨false, rq30.g, rq30.cap, rq30.rest, [] ++ [(⟨false, rq28.g, rq28.cap, rq28.rest, l⟩ : Cl)]⟩ : Ls), by omega, ⟨⟨(fun e => by cases e), (fun _ => by rw [List.nil_append]; exact Qrq30), (fun c hc => by rw [List.mem_singleton.1 hc]; exact ⟨hckr.big, (fun e => by cases e), fun _ => Qrq28⟩)⟩, ?_, ?_⟩, ?_, ?_⟩
      · rw [hck2, ← hls]; unfold Ls.ls; rw [List.map_append]; rfl
      · show ([] ++ [(⟨false, rq28.g, rq28.cap, rq28.rest, l⟩ : Cl)]).length = k + 1
        rw [List.length_append]
        show 0 + 1 = k + 1
        rw [← hcn]; rfl
      · show Fm 22 [] [(11, ni (k + 1)), (10, ni ss.length), (9, sc gu offu ss.length uc), (3, sc rq30.g 0 ([] ++ [(⟨false, rq28.g, rq28.cap, rq28.rest, l⟩ : Cl)]).length rq30.cap)] a
        exact F.weak _ (subL_of kr)
      · exact Hp.tailC (A := [bk rq30.g (sl (([] ++ [(⟨false, rq28.g, rq28.cap, rq28.rest, l⟩ : Cl)]).map Cl.v) rq30.rest) 30]) (c := (⟨false, rq28.g, rq28.cap, rq28.rest, l⟩ : Cl)) (cs := []) H
  have hkt : k = ss.length := by omega
  rw [hkt, List.take_length] at hls
  refine C_seqK (fun K31 hK31 => ?_)
  refine C_region ?_
  refine T_val F H kr (.bool false) (fun w _ => R_bin (x := (.tmp 11)) (y := (.tmp 10)) rfl (k := .i64) (a := ((k : Nat) : Int)) (b := ((ss.length : Nat) : Int)) kr kr (i_nlt (by omega)) w) ?_
  clear F; intro a F
  refine wpList_nil ?_
  refine hK31 _ _ ?_
  clear hK31
  try clear K31
  refine C_seqK (fun K32 hK32 => ?_)
  refine C_if F false rfl rfl ?_
  refine wp_exit ?_
  refine hK3 _ _ ?_
  clear hK3
  try clear K3
  refine C_seqK (fun K33 hK33 => ?_)
  refine C_region ?_
  refine T_k F H ((o.v)) ?_
  clear F; intro a F
  refine T_k F H ((o.v)) ?_
  clear F; intro a F
  refine wpList_nil ?_
  refine hK33 _ _ ?_
  clear hK33
  try clear K33
  refine wp_ret ?_
  exact C_ret F H (rs := [.tmp 2]) rfl (vs := [(o.v)]) (.tmp rfl .nil) ((o.v)) rfl ⟨o, rfl, ho, hls, by omega, H⟩

theorem MOK.snoc {M : List MEn} {k ix : Nat} {c : Cl} (h : MOK M k) (hc : c.ok) (hn : ∀ m ∈ M, m.k ≠ ix) : MOK (M ++ [⟨ix, c, k⟩]) (k + 1) := by
  refine ⟨?_, ?_, (fun m hm => (List.mem_append.1 hm).elim (fun q => Nat.lt_succ_of_lt (h.old m q)) fun q => by rw [List.mem_singleton.1 q]; exact Nat.lt_succ_self _), (fun m hm => (List.mem_append.1 hm).elim (h.each m) fun q => by rw [List.mem_singleton.1 q]; exact hc)⟩
  · rw [List.map_append, List.nodup_append]
    refine ⟨h.keys, by simp, fun a ha b hb => ?_⟩
    obtain ⟨m, hm, rfl⟩ := List.mem_map.1 ha
    rw [show b = ix by simpa using hb]
    exact hn m hm
  · rw [List.map_append, List.nodup_append]
    refine ⟨h.births, by simp, fun a ha b hb => ?_⟩
    obtain ⟨m, hm, rfl⟩ := List.mem_map.1 ha
    rw [show b = k by simpa using hb]
    exact Nat.ne_of_lt (h.old m hm)
theorem load_lt {hs : List (Nat × Sv)} {M : List MEn} {k : Nat} {h0 : Nat × Sv} (hz : rz (hs.map (·.1)) hs.length = true) (hMD : M.map (fun m => (m.k, m.c.l)) = (hs.take k).map dS) (hh0 : hs[k]? = some h0) : ∀ m ∈ M, m.k < h0.1 := fun m hm => by
  have h1 : (m.k, m.c.l) ∈ (hs.take k).map dS := by rw [← hMD]; exact List.mem_map.2 ⟨m, hm, rfl⟩
  obtain ⟨x, hx, e⟩ := List.mem_map.1 h1
  obtain ⟨i, hi, e2⟩ := List.mem_iff_getElem.1 hx
  have hkl := (List.getElem?_eq_some_iff.1 hh0).1
  rw [List.length_take] at hi
  have := rz_spec hz i k (by omega) hkl
  rw [List.getD_eq_getElem?_getD, List.getD_eq_getElem?_getD, List.getElem?_map, List.getElem?_map, hh0, List.getElem?_eq_getElem (by omega)] at this
  rw [List.getElem_take] at e2
  rw [e2] at this
  have e3 : x.1 = m.k := congrArg Prod.fst e
  rw [← e3]; exact this

set_option maxRecDepth 100000 in
set_option maxHeartbeats 4000000 in
theorem load_dis (xb : Nat) (h : Hv) (u : Uv) (hv uv : Value) (hz : rz (h.hs.map (·.1)) h.hs.length = false) (w : World) (hx : w.heap[xb]? = some (.cells #[hv, uv] 28 (0, 0))) (hR : ∀ w', Kept [] w w' → h.Rd w') (hu : ∀ w', Kept [] w w' → u.Rd w') : Calls Try.prog 27 #[.pointer (some ⟨xb, 0, none⟩), h.v, u.v] w fun e w' => e = .returned (.int .i64 1) ∧ Kept [] w w' := by
  refine C_enter Try.func27 rfl 75 Try.ntmps27 (Nat.le_of_ble_eq_true rfl) (fun a F => ?_)
  have H := Hp.start1 [] hx
  replace F : Fm 75 [] [(0, pt xb 0), (1, .slice h.ad h.hs.length h.c), (2, .slice u.ad u.ss.length u.c)] a := F.weak _ (subL_of kr)
  have hat : h.hs ≠ [] → ∃ g off, h.ad = some ⟨g, off, none⟩ ∧ ∀ w', Kept [] w w' → RdB w' g off (h.hs.flatMap hvC) := fun hne => by
    obtain ⟨g, off, e1, _⟩ := (hR w (Kept.refl _ _)).at_ hne
    refine ⟨g, off, e1, fun w' k => ?_⟩
    obtain ⟨g', off', e2, h2⟩ := (hR w' k).at_ hne
    rw [e1] at e2
    injection e2 with e2
    injection e2 with e3 e4
    subst e3 e4
    exact h2
  have heach : ∀ x ∈ h.hs, ∀ w', Kept [] w w' → x.2.Rd w' := fun x hx w' k => ((hR w' k).each x hx).2.1
  have hbig := (hR w (Kept.refl _ _)).big
  have hle := (hR w (Kept.refl _ _)).le
  generalize h.ad = ha at F hat
  refine C_seqK (fun K1 hK1 => ?_)
  refine C_region ?_
  refine T_k F H (ni 0) ?_
  clear F; intro a F
  refine wpList_nil ?_
  refine hK1 _ _ ?_
  clear hK1
  try clear K1
  refine C_seqK (fun K2 hK2 => ?_)
  refine C_region ?_
  refine T_k F H (.bool true) ?_
  clear F; intro a F
  refine wpList_nil ?_
  refine hK2 _ _ ?_
  clear hK2
  try clear K2
  refine C_seqK (fun K3 hK3 => ?_)
  refine C_seqK (fun K4 hK4 => ?_)
  refine C_region ?_
  refine T_k F H (.slice ha h.hs.length h.c) ?_
  clear F; intro a F
  refine T_k F H (ni h.hs.length) ?_
  clear F; intro a F
  refine T_k F H (ni 0) ?_
  clear F; intro a F
  refine wpList_nil ?_
  refine hK4 _ _ ?_
  clear hK4
  try clear K4
  replace F : Fm 75 [] [(14, ni 0), (13, ni h.hs.length), (12, .slice ha h.hs.length h.c), (7, .bool true), (1, .slice ha h.hs.length h.c), (2, .slice u.ad u.ss.length u.c), (0, pt xb 0), (6, ni 0)] a := F.weak _ (subL_of kr)
  refine wp_block ?_
  refine C_loop (fun m a v => ∃ k : Nat, k + m = h.hs.length ∧ Fm 75 [] [(14, ni k), (13, ni h.hs.length), (12, .slice ha h.hs.length h.c), (7, .bool (rz (h.hs.map (·.1)) k)), (1, .slice ha h.hs.length h.c), (2, .slice u.ad u.ss.length u.c), (0, pt xb 0), (6, .int .i64 0)] a ∧ Hp [] w [br xb #[hv, uv] 28] v) h.hs.length ⟨0, Nat.zero_add _, F, H⟩ ?_
  clear F H
  intro m a v ⟨k, hk, F, H⟩
  rcases m with _ | m
  rotate_left
  · obtain ⟨h0, hh0⟩ : ∃ h0, h.hs[k]? = some h0 := ⟨_, List.getElem?_eq_getElem (show k < h.hs.length by omega)⟩
    obtain ⟨gv, oh, e1, hr0⟩ := hat (fun e => by rw [e] at hh0; cases hh0)
    subst e1
    have hr := hr0 w (Kept.refl _ _)
    have hk0 : (h.hs.map (·.1)).getD k 0 = h0.1 := by rw [List.getD_eq_getElem?_getD, List.getElem?_map, hh0]; rfl
    rcases hrz : rz (h.hs.map (·.1)) k with _ | _
    · skip
      rw [hrz] at F
      replace F : Fm 75 [] [(14, ni k), (13, ni h.hs.length), (12, sc gv oh h.hs.length h.c), (7, .bool false), (1, sc gv oh h.hs.length h.c), (2, .slice u.ad u.ss.length u.c), (0, pt xb 0), (6, .int .i64 0)] a := F
      refine C_seqK (fun K5 hK5 => ?_)
      refine C_region ?_
      refine T_val F H kr (.bool true) (fun w _ => R_bin (x := (.tmp 14)) (y := (.tmp 13)) rfl (k := .i64) (a := ((k : Nat) : Int)) (b := ((h.hs.length : Nat) : Int)) kr kr (i_lt (by omega)) w) ?_
      clear F; intro a F
      refine wpList_nil ?_
      refine hK5 _ _ ?_
      clear hK5
      try clear K5
      refine C_seqK (fun K6 hK6 => ?_)
      refine C_if F true rfl rfl ?_
      refine wp_skip ?_
      refine hK6 _ _ ?_
      clear hK6
      try clear K6
      refine C_seqK (fun K7 hK7 => ?_)
      refine wp_block ?_
      refine C_seqK (fun K8 hK8 => ?_)
      refine C_region ?_
      refine T_k F H (ni k) ?_
      clear F; intro a F
      refine T_val F H kr (pt gv (oh + (k) * 2)) (fun w _ => R_indexS (k := .i64) (g := gv) (off := oh) (len := h.hs.length) (cap := h.c) (x := (.tmp 12)) (y := (.tmp 14)) rfl Try.underlying31 kr (k) kr (by omega) (sz := 2) kr w) ?_
      clear F; intro a F
      refine T_valK F H kr (.agg (hvC h0).toArray) (fun w hk hl => R_ldA (y := (.tmp 17)) rfl (g := gv) (off := oh + k * 2) kr (hvC h0).toArray (hv_ld (hr.kept hk List.not_mem_nil) hh0) _ Try.underlying60 rfl kr) ?_
      clear F; intro a F
      refine T_new F H kr (fun ad => pt ad 0) (ce #[.int .u32 0, .slice none 0 0] 60) (fun w => kr) ?_
      clear F H; intro aq9 a v F H
      refine T_k F H (ni k) ?_
      clear F; intro a F
      refine T_set F H kr rfl 0 rfl (hvC h0).toArray (S_row 0 rfl 60 (.tmp 9) (.tmp 18) rfl kr (hvC h0).toArray kr kr kr (hv_one h0)) [⟨true, aq9, .cells (hvC h0).toArray 60 (0, 0)⟩, br xb #[hv, uv] 28] rfl ?_
      clear F H; intro a v F H
      refine wpList_nil ?_
      refine hK8 _ _ ?_
      clear hK8
      try clear K8
      refine E_region F H (fun β => [(19, .bool false), (20, .bool false), (21, undef), (22, undef), (23, undef), (24, undef), (25, undef), (26, undef), (27, undef), (28, undef), (29, undef), (30, undef), (31, undef), (32, undef), (33, undef), (34, .bool false), (7, .bool false)]) [19, 20, 21, 22, 23, 24, 25, 26, 27, 28, 29, 30, 31, 32, 33, 34, 7] [] [⟨true, aq9, .cells (hvC h0).toArray 60 (0, 0)⟩, br xb #[hv, uv] 28] [0, 1] 2 [(0, [7])] kr kr kr (fun β => rfl) trivial ⟨?_, ?_, ?_, ?_, ?_, ?_, ?_, ?_, ?_, ?_, ?_, ?_, ?_, ?_, ?_, ?_, ?_, trivial⟩ ?_
      · exact E_k 75 (fun β => .bool false) 19 2
      · exact E_k 75 (fun β => .bool false) 20 2
      · exact E_skip kq 21 rfl kq kr
      · exact E_skip kq 22 rfl kq kr
      · exact E_skip kq 23 rfl kq kr
      · exact E_skip kq 24 rfl kq kr
      · exact E_skip kq 25 rfl kq kr
      · exact E_skip kq 26 rfl kq kr
      · exact E_skip kq 27 rfl kq kr
      · exact E_skip kq 28 rfl kq kr
      · exact E_skip kq 29 rfl kq kr
      · exact E_skip kq 30 rfl kq kr
      · exact E_skip kq 31 rfl kq kr
      · exact E_skip kq 32 rfl kq kr
      · exact E_skip kq 33 rfl kq kr
      · exact E_k 75 (fun β => .bool false) 34 2
      · exact E_k 75 (fun β => .bool false) 7 2
      clear F H; intro β a v Q F H
      replace H : Hp [] w [⟨true, aq9, .cells (hvC h0).toArray 60 (0, 0)⟩, br xb #[hv, uv] 28] v := H
      replace F : Fm 75 [] [(7, .bool false), (34, .bool false), (33, undef), (32, undef), (31, undef), (30, undef), (29, undef), (28, undef), (27, undef), (26, undef), (25, undef), (24, undef), (23, undef), (22, undef), (21, undef), (20, .bool false), (19, .bool false), (8, ni k), (9, pt aq9 0), (18, .agg (hvC h0).toArray), (17, pt gv (oh + (k) * 2)), (16, ni k), (15, .bool true), (14, ni k), (13, ni h.hs.length), (12, sc gv oh h.hs.length h.c), (1, sc gv oh h.hs.length h.c), (2, .slice u.ad u.ss.length u.c), (0, pt xb 0), (6, .int .i64 0)] a := F.weak _ (subL_of kr)
      clear Q
      refine ?_
      refine hK7 _ _ ?_
      clear hK7
      try clear K7
      refine C_region ?_
      refine T_val F H kr (ni (k + 1)) (fun w _ => R_bin (x := (.tmp 14)) (y := (.const (.int .i64 1))) rfl (k := .i64) (a := ((k : Nat) : Int)) (b := ((1 : Nat) : Int)) kr kr (i_addn64 (a := k) (b := 1) (by omega)) w) ?_
      clear F; intro a F
      refine T_k F H (ni (k + 1)) ?_
      clear F; intro a F
      refine wpList_nil ?_
      replace H : Hp [] w [br xb #[hv, uv] 28] v := H.pick [1] kr _ rfl
      exact ⟨m, Nat.lt_succ_self m, k + 1, by omega, by rw [rz_false hrz]; exact F.weak _ (subL_of kr), H⟩
    · rcases Nat.eq_zero_or_pos k with h00 | hpos
      · skip
        rw [hrz] at F
        replace F : Fm 75 [] [(14, ni k), (13, ni h.hs.length), (12, sc gv oh h.hs.length h.c), (7, .bool true), (1, sc gv oh h.hs.length h.c), (2, .slice u.ad u.ss.length u.c), (0, pt xb 0), (6, .int .i64 0)] a := F
        refine C_seqK (fun K10 hK10 => ?_)
        refine C_region ?_
        refine T_val F H kr (.bool true) (fun w _ => R_bin (x := (.tmp 14)) (y := (.tmp 13)) rfl (k := .i64) (a := ((k : Nat) : Int)) (b := ((h.hs.length : Nat) : Int)) kr kr (i_lt (by omega)) w) ?_
        clear F; intro a F
        refine wpList_nil ?_
        refine hK10 _ _ ?_
        clear hK10
        try clear K10
        refine C_seqK (fun K11 hK11 => ?_)
        refine C_if F true rfl rfl ?_
        refine wp_skip ?_
        refine hK11 _ _ ?_
        clear hK11
        try clear K11
        refine C_seqK (fun K12 hK12 => ?_)
        refine wp_block ?_
        refine C_seqK (fun K13 hK13 => ?_)
        refine C_region ?_
        refine T_k F H (ni k) ?_
        clear F; intro a F
        refine T_val F H kr (pt gv (oh + (k) * 2)) (fun w _ => R_indexS (k := .i64) (g := gv) (off := oh) (len := h.hs.length) (cap := h.c) (x := (.tmp 12)) (y := (.tmp 14)) rfl Try.underlying31 kr (k) kr (by omega) (sz := 2) kr w) ?_
        clear F; intro a F
        refine T_valK F H kr (.agg (hvC h0).toArray) (fun w hk hl => R_ldA (y := (.tmp 17)) rfl (g := gv) (off := oh + k * 2) kr (hvC h0).toArray (hv_ld (hr.kept hk List.not_mem_nil) hh0) _ Try.underlying60 rfl kr) ?_
        clear F; intro a F
        refine T_new F H kr (fun ad => pt ad 0) (ce #[.int .u32 0, .slice none 0 0] 60) (fun w => kr) ?_
        clear F H; intro aq14 a v F H
        refine T_k F H (ni k) ?_
        clear F; intro a F
        refine T_set F H kr rfl 0 rfl (hvC h0).toArray (S_row 0 rfl 60 (.tmp 9) (.tmp 18) rfl kr (hvC h0).toArray kr kr kr (hv_one h0)) [⟨true, aq14, .cells (hvC h0).toArray 60 (0, 0)⟩, br xb #[hv, uv] 28] rfl ?_
        clear F H; intro a v F H
        refine wpList_nil ?_
        refine hK13 _ _ ?_
        clear hK13
        try clear K13
        refine E_region F H (fun β => [(19, .bool true), (20, .bool true), (21, ni k), (22, .bool true), (23, .bool true), (24, undef), (25, undef), (26, undef), (27, undef), (28, undef), (29, undef), (30, undef), (31, undef), (32, undef), (33, .bool true), (34, .bool true), (7, .bool true)]) [19, 20, 21, 22, 23, 24, 25, 26, 27, 28, 29, 30, 31, 32, 33, 34, 7] [] [⟨true, aq14, .cells (hvC h0).toArray 60 (0, 0)⟩, br xb #[hv, uv] 28] [0, 1] 2 [(0, [7])] kr kr kr (fun β => rfl) trivial ⟨?_, ?_, ?_, ?_, ?_, ?_, ?_, ?_, ?_, ?_, ?_, ?_, ?_, ?_, ?_, ?_, ?_, trivial⟩ ?_
        · exact E_k 75 (fun β => .bool true) 19 2
        · exact E_k 75 (fun β => .bool true) 20 2
        · exact E_k 75 (fun β => ni k) 21 2
        · exact E_v 75 (fun β => .bool true) 22 2 [] (fun β w hk hl hq => R_bin (x := (.tmp 21)) (y := (.const (.int .i64 0))) rfl (k := .i64) (a := ((k : Nat) : Int)) (b := ((0 : Nat) : Int)) kr kr (i_eqd.trans (by rw [decide_eq_true (by omega)])) w)
        · exact E_k 75 (fun β => .bool true) 23 2
        · exact E_skip kq 24 rfl kq kr
        · exact E_skip kq 25 rfl kq kr
        · exact E_skip kq 26 rfl kq kr
        · exact E_skip kq 27 rfl kq kr
        · exact E_skip kq 28 rfl kq kr
        · exact E_skip kq 29 rfl kq kr
        · exact E_skip kq 30 rfl kq kr
        · exact E_skip kq 31 rfl kq kr
        · exact E_skip kq 32 rfl kq kr
        · exact E_k 75 (fun β => .bool true) 33 2
        · exact E_k 75 (fun β => .bool true) 34 2
        · exact E_k 75 (fun β => .bool true) 7 2
        clear F H; intro β a v Q F H
        replace H : Hp [] w [⟨true, aq14, .cells (hvC h0).toArray 60 (0, 0)⟩, br xb #[hv, uv] 28] v := H
        replace F : Fm 75 [] [(7, .bool true), (34, .bool true), (33, .bool true), (32, undef), (31, undef), (30, undef), (29, undef), (28, undef), (27, undef), (26, undef), (25, undef), (24, undef), (23, .bool true), (22, .bool true), (21, ni k), (20, .bool true), (19, .bool true), (8, ni k), (9, pt aq14 0), (18, .agg (hvC h0).toArray), (17, pt gv (oh + (k) * 2)), (16, ni k), (15, .bool true), (14, ni k), (13, ni h.hs.length), (12, sc gv oh h.hs.length h.c), (1, sc gv oh h.hs.length h.c), (2, .slice u.ad u.ss.length u.c), (0, pt xb 0), (6, .int .i64 0)] a := F.weak _ (subL_of kr)
        clear Q
        refine ?_
        refine hK12 _ _ ?_
        clear hK12
        try clear K12
        refine C_region ?_
        refine T_val F H kr (ni (k + 1)) (fun w _ => R_bin (x := (.tmp 14)) (y := (.const (.int .i64 1))) rfl (k := .i64) (a := ((k : Nat) : Int)) (b := ((1 : Nat) : Int)) kr kr (i_addn64 (a := k) (b := 1) (by omega)) w) ?_
        clear F; intro a F
        refine T_k F H (ni (k + 1)) ?_
        clear F; intro a F
        refine wpList_nil ?_
        replace H : Hp [] w [br xb #[hv, uv] 28] v := H.pick [1] kr _ rfl
        exact ⟨m, Nat.lt_succ_self m, k + 1, by omega, by rw [show rz (h.hs.map (·.1)) (k + 1) = true by rw [h00]; rfl]; exact F.weak _ (subL_of kr), H⟩
      · obtain ⟨hm1, hh1⟩ : ∃ hm1, h.hs[k - 1]? = some hm1 := ⟨_, List.getElem?_eq_getElem (show k - 1 < h.hs.length by omega)⟩
        have hk1 : (h.hs.map (·.1)).getD (k - 1) 0 = hm1.1 := by rw [List.getD_eq_getElem?_getD, List.getElem?_map, hh1]; rfl
        rw [hrz] at F
        replace F : Fm 75 [] [(14, ni k), (13, ni h.hs.length), (12, sc gv oh h.hs.length h.c), (7, .bool true), (1, sc gv oh h.hs.length h.c), (2, .slice u.ad u.ss.length u.c), (0, pt xb 0), (6, .int .i64 0)] a := F
        refine C_seqK (fun K15 hK15 => ?_)
        refine C_region ?_
        refine T_val F H kr (.bool true) (fun w _ => R_bin (x := (.tmp 14)) (y := (.tmp 13)) rfl (k := .i64) (a := ((k : Nat) : Int)) (b := ((h.hs.length : Nat) : Int)) kr kr (i_lt (by omega)) w) ?_
        clear F; intro a F
        refine wpList_nil ?_
        refine hK15 _ _ ?_
        clear hK15
        try clear K15
        refine C_seqK (fun K16 hK16 => ?_)
        refine C_if F true rfl rfl ?_
        refine wp_skip ?_
        refine hK16 _ _ ?_
        clear hK16
        try clear K16
        refine C_seqK (fun K17 hK17 => ?_)
        refine wp_block ?_
        refine C_seqK (fun K18 hK18 => ?_)
        refine C_region ?_
        refine T_k F H (ni k) ?_
        clear F; intro a F
        refine T_val F H kr (pt gv (oh + (k) * 2)) (fun w _ => R_indexS (k := .i64) (g := gv) (off := oh) (len := h.hs.length) (cap := h.c) (x := (.tmp 12)) (y := (.tmp 14)) rfl Try.underlying31 kr (k) kr (by omega) (sz := 2) kr w) ?_
        clear F; intro a F
        refine T_valK F H kr (.agg (hvC h0).toArray) (fun w hk hl => R_ldA (y := (.tmp 17)) rfl (g := gv) (off := oh + k * 2) kr (hvC h0).toArray (hv_ld (hr.kept hk List.not_mem_nil) hh0) _ Try.underlying60 rfl kr) ?_
        clear F; intro a F
        refine T_new F H kr (fun ad => pt ad 0) (ce #[.int .u32 0, .slice none 0 0] 60) (fun w => kr) ?_
        clear F H; intro aq19 a v F H
        refine T_k F H (ni k) ?_
        clear F; intro a F
        refine T_set F H kr rfl 0 rfl (hvC h0).toArray (S_row 0 rfl 60 (.tmp 9) (.tmp 18) rfl kr (hvC h0).toArray kr kr kr (hv_one h0)) [⟨true, aq19, .cells (hvC h0).toArray 60 (0, 0)⟩, br xb #[hv, uv] 28] rfl ?_
        clear F H; intro a v F H
        refine wpList_nil ?_
        refine hK18 _ _ ?_
        clear hK18
        try clear K18
        refine E_region F H (fun β => [(19, .bool true), (20, .bool true), (21, ni k), (22, .bool false), (23, .bool false), (24, sc gv oh h.hs.length h.c), (25, ni k), (26, ni (k - 1)), (27, pt gv (oh + ((k - 1)) * 2)), (28, pt gv ((oh + ((k - 1)) * 2) + 0)), (29, nw hm1.1), (30, pt aq19 0), (31, nw h0.1), (32, .bool (decide (hm1.1 < h0.1))), (33, .bool (decide (hm1.1 < h0.1))), (34, .bool (decide (hm1.1 < h0.1))), (7, .bool (decide (hm1.1 < h0.1)))]) [19, 20, 21, 22, 23, 24, 25, 26, 27, 28, 29, 30, 31, 32, 33, 34, 7] [] [⟨true, aq19, .cells (hvC h0).toArray 60 (0, 0)⟩, br xb #[hv, uv] 28] [0, 1] 2 [(0, [7])] kr kr kr (fun β => rfl) trivial ⟨?_, ?_, ?_, ?_, ?_, ?_, ?_, ?_, ?_, ?_, ?_, ?_, ?_, ?_, ?_, ?_, ?_, trivial⟩ ?_
        · exact E_k 75 (fun β => .bool true) 19 2
        · exact E_k 75 (fun β => .bool true) 20 2
        · exact E_k 75 (fun β => ni k) 21 2
        · exact E_v 75 (fun β => .bool false) 22 2 [] (fun β w hk hl hq => R_bin (x := (.tmp 21)) (y := (.const (.int .i64 0))) rfl (k := .i64) (a := ((k : Nat) : Int)) (b := ((0 : Nat) : Int)) kr kr (i_eqd.trans (by rw [decide_eq_false (by omega)])) w)
        · exact E_k 75 (fun β => .bool false) 23 2
        · exact E_k 75 (fun β => sc gv oh h.hs.length h.c) 24 2
        · exact E_k 75 (fun β => ni k) 25 2
        · exact E_v 75 (fun β => ni (k - 1)) 26 2 [] (fun β w hk hl hq => R_bin (x := (.tmp 25)) (y := (.const (.int .i64 1))) rfl (k := .i64) (a := ((k : Nat) : Int)) (b := ((1 : Nat) : Int)) kr kr (i_subn64 (a := k) (b := 1) (by omega) (by omega)) w)
        · exact E_v 75 (fun β => pt gv (oh + ((k - 1)) * 2)) 27 2 [] (fun β w hk hl hq => R_indexS (k := .i64) (g := gv) (off := oh) (len := h.hs.length) (cap := h.c) (x := (.tmp 24)) (y := (.tmp 26)) rfl Try.underlying31 kr ((k - 1)) kr (by omega) (sz := 2) kr w)
        · exact E_k 75 (fun β => pt gv ((oh + ((k - 1)) * 2) + 0)) 28 2
        · exact E_v 75 (fun β => nw hm1.1) 29 2 [] (fun β w hk hl hq => R_ld (y := (.tmp 28)) rfl (g := gv) (off := ((oh + ((k - 1)) * 2) + 0)) kr (hv_ld (hr.kept hk List.not_mem_nil) hh1 0 _ rfl) _ Try.underlying29 rfl)
        · exact E_k 75 (fun β => pt aq19 0) 30 2
        · exact E_v 75 (fun β => nw h0.1) 31 2 [] (fun β w hk hl hq => R_cellH hl (own := true) (g := aq19) (all := (hvC h0).toArray) (t := 60) (fr := (0, 0)) 0 kr 29 (.tmp 30) rfl 0 kr (nw h0.1) kr _ Try.underlying29 rfl)
        · exact E_v 75 (fun β => .bool (decide (hm1.1 < h0.1))) 32 2 [] (fun β w hk hl hq => R_bin (x := (.tmp 29)) (y := (.tmp 31)) rfl (k := .u32) (a := ((hm1.1 : Nat) : Int)) (b := ((h0.1 : Nat) : Int)) kr kr i_lssd w)
        · exact E_k 75 (fun β => .bool (decide (hm1.1 < h0.1))) 33 2
        · exact E_k 75 (fun β => .bool (decide (hm1.1 < h0.1))) 34 2
        · exact E_k 75 (fun β => .bool (decide (hm1.1 < h0.1))) 7 2
        clear F H; intro β a v Q F H
        replace H : Hp [] w [⟨true, aq19, .cells (hvC h0).toArray 60 (0, 0)⟩, br xb #[hv, uv] 28] v := H
        replace F : Fm 75 [] [(7, .bool (decide (hm1.1 < h0.1))), (34, .bool (decide (hm1.1 < h0.1))), (33, .bool (decide (hm1.1 < h0.1))), (32, .bool (decide (hm1.1 < h0.1))), (31, nw h0.1), (30, pt aq19 0), (29, nw hm1.1), (28, pt gv ((oh + ((k - 1)) * 2) + 0)), (27, pt gv (oh + ((k - 1)) * 2)), (26, ni (k - 1)), (25, ni k), (24, sc gv oh h.hs.length h.c), (23, .bool false), (22, .bool false), (21, ni k), (20, .bool true), (19, .bool true), (8, ni k), (9, pt aq19 0), (18, .agg (hvC h0).toArray), (17, pt gv (oh + (k) * 2)), (16, ni k), (15, .bool true), (14, ni k), (13, ni h.hs.length), (12, sc gv oh h.hs.length h.c), (1, sc gv oh h.hs.length h.c), (2, .slice u.ad u.ss.length u.c), (0, pt xb 0), (6, .int .i64 0)] a := F.weak _ (subL_of kr)
        clear Q
        refine ?_
        refine hK17 _ _ ?_
        clear hK17
        try clear K17
        refine C_region ?_
        refine T_val F H kr (ni (k + 1)) (fun w _ => R_bin (x := (.tmp 14)) (y := (.const (.int .i64 1))) rfl (k := .i64) (a := ((k : Nat) : Int)) (b := ((1 : Nat) : Int)) kr kr (i_addn64 (a := k) (b := 1) (by omega)) w) ?_
        clear F; intro a F
        refine T_k F H (ni (k + 1)) ?_
        clear F; intro a F
        refine wpList_nil ?_
        replace H : Hp [] w [br xb #[hv, uv] 28] v := H.pick [1] kr _ rfl
        exact ⟨m, Nat.lt_succ_self m, k + 1, by omega, by rw [rz_next hrz hpos, hk0, hk1]; exact F.weak _ (subL_of kr), H⟩
  have hkt : k = h.hs.length := by omega
  rw [hkt, hz] at F
  replace F : Fm 75 [] [(14, ni h.hs.length), (13, ni h.hs.length), (12, .slice ha h.hs.length h.c), (7, .bool false), (1, .slice ha h.hs.length h.c), (2, .slice u.ad u.ss.length u.c), (0, pt xb 0), (6, .int .i64 0)] a := F
  refine C_seqK (fun K20 hK20 => ?_)
  refine C_region ?_
  refine T_val F H kr (.bool false) (fun w _ => R_bin (x := (.tmp 14)) (y := (.tmp 13)) rfl (k := .i64) (a := ((h.hs.length : Nat) : Int)) (b := ((h.hs.length : Nat) : Int)) kr kr (i_nlt (by omega)) w) ?_
  clear F; intro a F
  refine wpList_nil ?_
  refine hK20 _ _ ?_
  clear hK20
  try clear K20
  refine C_seqK (fun K21 hK21 => ?_)
  refine C_if F false rfl rfl ?_
  refine wp_exit ?_
  refine hK3 _ _ ?_
  clear hK3
  try clear K3
  refine C_seqK (fun K22 hK22 => ?_)
  refine wp_block ?_
  refine C_seqK (fun K23 hK23 => ?_)
  refine C_region ?_
  refine T_k F H (.bool false) ?_
  clear F; intro a F
  refine T_k F H (.bool true) ?_
  clear F; intro a F
  refine T_k F H (.bool true) ?_
  clear F; intro a F
  refine T_skip F kr kr ?_
  clear F; intro a F
  refine T_skip F kr kr ?_
  clear F; intro a F
  refine T_skip F kr kr ?_
  clear F; intro a F
  refine T_k F H (.bool true) ?_
  clear F; intro a F
  refine T_k F H (.bool true) ?_
  clear F; intro a F
  refine wpList_nil ?_
  refine hK23 _ _ ?_
  clear hK23
  try clear K23
  refine C_if F true rfl rfl ?_
  refine C_seqK (fun K24 hK24 => ?_)
  refine C_region ?_
  refine T_k F H (ni 1) ?_
  clear F; intro a F
  refine wpList_nil ?_
  refine hK24 _ _ ?_
  clear hK24
  try clear K24
  refine wp_ret ?_
  repeat (first | with_reducible refine then_ret ?_ | with_reducible refine inB_ret ?_)
  exact C_ret F H (rs := [.tmp 6]) rfl (vs := [ni 1]) (.tmp rfl .nil) (ni 1) rfl ⟨rfl, H.kept⟩

set_option maxRecDepth 100000 in
set_option maxHeartbeats 4000000 in
theorem load_long (xb : Nat) (h : Hv) (u : Uv) (hv uv : Value) (hz : rz (h.hs.map (·.1)) h.hs.length = true) (h4 : 4 ≤ h.hs.length) (w : World) (hx : w.heap[xb]? = some (.cells #[hv, uv] 28 (0, 0))) (hR : ∀ w', Kept [] w w' → h.Rd w') (hu : ∀ w', Kept [] w w' → u.Rd w') : Calls Try.prog 27 #[.pointer (some ⟨xb, 0, none⟩), h.v, u.v] w fun e w' => e = .returned (.int .i64 1) ∧ Kept [] w w' := by
  refine C_enter Try.func27 rfl 75 Try.ntmps27 (Nat.le_of_ble_eq_true rfl) (fun a F => ?_)
  have H := Hp.start1 [] hx
  replace F : Fm 75 [] [(0, pt xb 0), (1, .slice h.ad h.hs.length h.c), (2, .slice u.ad u.ss.length u.c)] a := F.weak _ (subL_of kr)
  have hat : h.hs ≠ [] → ∃ g off, h.ad = some ⟨g, off, none⟩ ∧ ∀ w', Kept [] w w' → RdB w' g off (h.hs.flatMap hvC) := fun hne => by
    obtain ⟨g, off, e1, _⟩ := (hR w (Kept.refl _ _)).at_ hne
    refine ⟨g, off, e1, fun w' k => ?_⟩
    obtain ⟨g', off', e2, h2⟩ := (hR w' k).at_ hne
    rw [e1] at e2
    injection e2 with e2
    injection e2 with e3 e4
    subst e3 e4
    exact h2
  have heach : ∀ x ∈ h.hs, ∀ w', Kept [] w w' → x.2.Rd w' := fun x hx w' k => ((hR w' k).each x hx).2.1
  have hbig := (hR w (Kept.refl _ _)).big
  have hle := (hR w (Kept.refl _ _)).le
  generalize h.ad = ha at F hat
  refine C_seqK (fun K1 hK1 => ?_)
  refine C_region ?_
  refine T_k F H (ni 0) ?_
  clear F; intro a F
  refine wpList_nil ?_
  refine hK1 _ _ ?_
  clear hK1
  try clear K1
  refine C_seqK (fun K2 hK2 => ?_)
  refine C_region ?_
  refine T_k F H (.bool true) ?_
  clear F; intro a F
  refine wpList_nil ?_
  refine hK2 _ _ ?_
  clear hK2
  try clear K2
  refine C_seqK (fun K3 hK3 => ?_)
  refine C_seqK (fun K4 hK4 => ?_)
  refine C_region ?_
  refine T_k F H (.slice ha h.hs.length h.c) ?_
  clear F; intro a F
  refine T_k F H (ni h.hs.length) ?_
  clear F; intro a F
  refine T_k F H (ni 0) ?_
  clear F; intro a F
  refine wpList_nil ?_
  refine hK4 _ _ ?_
  clear hK4
  try clear K4
  replace F : Fm 75 [] [(14, ni 0), (13, ni h.hs.length), (12, .slice ha h.hs.length h.c), (7, .bool true), (1, .slice ha h.hs.length h.c), (2, .slice u.ad u.ss.length u.c), (0, pt xb 0), (6, ni 0)] a := F.weak _ (subL_of kr)
  refine wp_block ?_
  refine C_loop (fun m a v => ∃ k : Nat, k + m = h.hs.length ∧ Fm 75 [] [(14, ni k), (13, ni h.hs.length), (12, .slice ha h.hs.length h.c), (7, .bool (rz (h.hs.map (·.1)) k)), (1, .slice ha h.hs.length h.c), (2, .slice u.ad u.ss.length u.c), (0, pt xb 0), (6, .int .i64 0)] a ∧ Hp [] w [br xb #[hv, uv] 28] v) h.hs.length ⟨0, Nat.zero_add _, F, H⟩ ?_
  clear F H
  intro m a v ⟨k, hk, F, H⟩
  rcases m with _ | m
  rotate_left
  · obtain ⟨h0, hh0⟩ : ∃ h0, h.hs[k]? = some h0 := ⟨_, List.getElem?_eq_getElem (show k < h.hs.length by omega)⟩
    obtain ⟨gv, oh, e1, hr0⟩ := hat (fun e => by rw [e] at hh0; cases hh0)
    subst e1
    have hr := hr0 w (Kept.refl _ _)
    have hk0 : (h.hs.map (·.1)).getD k 0 = h0.1 := by rw [List.getD_eq_getElem?_getD, List.getElem?_map, hh0]; rfl
    rcases hrz : rz (h.hs.map (·.1)) k with _ | _
    · skip
      rw [hrz] at F
      replace F : Fm 75 [] [(14, ni k), (13, ni h.hs.length), (12, sc gv oh h.hs.length h.c), (7, .bool false), (1, sc gv oh h.hs.length h.c), (2, .slice u.ad u.ss.length u.c), (0, pt xb 0), (6, .int .i64 0)] a := F
      refine C_seqK (fun K5 hK5 => ?_)
      refine C_region ?_
      refine T_val F H kr (.bool true) (fun w _ => R_bin (x := (.tmp 14)) (y := (.tmp 13)) rfl (k := .i64) (a := ((k : Nat) : Int)) (b := ((h.hs.length : Nat) : Int)) kr kr (i_lt (by omega)) w) ?_
      clear F; intro a F
      refine wpList_nil ?_
      refine hK5 _ _ ?_
      clear hK5
      try clear K5
      refine C_seqK (fun K6 hK6 => ?_)
      refine C_if F true rfl rfl ?_
      refine wp_skip ?_
      refine hK6 _ _ ?_
      clear hK6
      try clear K6
      refine C_seqK (fun K7 hK7 => ?_)
      refine wp_block ?_
      refine C_seqK (fun K8 hK8 => ?_)
      refine C_region ?_
      refine T_k F H (ni k) ?_
      clear F; intro a F
      refine T_val F H kr (pt gv (oh + (k) * 2)) (fun w _ => R_indexS (k := .i64) (g := gv) (off := oh) (len := h.hs.length) (cap := h.c) (x := (.tmp 12)) (y := (.tmp 14)) rfl Try.underlying31 kr (k) kr (by omega) (sz := 2) kr w) ?_
      clear F; intro a F
      refine T_valK F H kr (.agg (hvC h0).toArray) (fun w hk hl => R_ldA (y := (.tmp 17)) rfl (g := gv) (off := oh + k * 2) kr (hvC h0).toArray (hv_ld (hr.kept hk List.not_mem_nil) hh0) _ Try.underlying60 rfl kr) ?_
      clear F; intro a F
      refine T_new F H kr (fun ad => pt ad 0) (ce #[.int .u32 0, .slice none 0 0] 60) (fun w => kr) ?_
      clear F H; intro aq9 a v F H
      refine T_k F H (ni k) ?_
      clear F; intro a F
      refine T_set F H kr rfl 0 rfl (hvC h0).toArray (S_row 0 rfl 60 (.tmp 9) (.tmp 18) rfl kr (hvC h0).toArray kr kr kr (hv_one h0)) [⟨true, aq9, .cells (hvC h0).toArray 60 (0, 0)⟩, br xb #[hv, uv] 28] rfl ?_
      clear F H; intro a v F H
      refine wpList_nil ?_
      refine hK8 _ _ ?_
      clear hK8
      try clear K8
      refine E_region F H (fun β => [(19, .bool false), (20, .bool false), (21, undef), (22, undef), (23, undef), (24, undef), (25, undef), (26, undef), (27, undef), (28, undef), (29, undef), (30, undef), (31, undef), (32, undef), (33, undef), (34, .bool false), (7, .bool false)]) [19, 20, 21, 22, 23, 24, 25, 26, 27, 28, 29, 30, 31, 32, 33, 34, 7] [] [⟨true, aq9, .cells (hvC h0).toArray 60 (0, 0)⟩, br xb #[hv, uv] 28] [0, 1] 2 [(0, [7])] kr kr kr (fun β => rfl) trivial ⟨?_, ?_, ?_, ?_, ?_, ?_, ?_, ?_, ?_, ?_, ?_, ?_, ?_, ?_, ?_, ?_, ?_, trivial⟩ ?_
      · exact E_k 75 (fun β => .bool false) 19 2
      · exact E_k 75 (fun β => .bool false) 20 2
      · exact E_skip kq 21 rfl kq kr
      · exact E_skip kq 22 rfl kq kr
      · exact E_skip kq 23 rfl kq kr
      · exact E_skip kq 24 rfl kq kr
      · exact E_skip kq 25 rfl kq kr
      · exact E_skip kq 26 rfl kq kr
      · exact E_skip kq 27 rfl kq kr
      · exact E_skip kq 28 rfl kq kr
      · exact E_skip kq 29 rfl kq kr
      · exact E_skip kq 30 rfl kq kr
      · exact E_skip kq 31 rfl kq kr
      · exact E_skip kq 32 rfl kq kr
      · exact E_skip kq 33 rfl kq kr
      · exact E_k 75 (fun β => .bool false) 34 2
      · exact E_k 75 (fun β => .bool false) 7 2
      clear F H; intro β a v Q F H
      replace H : Hp [] w [⟨true, aq9, .cells (hvC h0).toArray 60 (0, 0)⟩, br xb #[hv, uv] 28] v := H
      replace F : Fm 75 [] [(7, .bool false), (34, .bool false), (33, undef), (32, undef), (31, undef), (30, undef), (29, undef), (28, undef), (27, undef), (26, undef), (25, undef), (24, undef), (23, undef), (22, undef), (21, undef), (20, .bool false), (19, .bool false), (8, ni k), (9, pt aq9 0), (18, .agg (hvC h0).toArray), (17, pt gv (oh + (k) * 2)), (16, ni k), (15, .bool true), (14, ni k), (13, ni h.hs.length), (12, sc gv oh h.hs.length h.c), (1, sc gv oh h.hs.length h.c), (2, .slice u.ad u.ss.length u.c), (0, pt xb 0), (6, .int .i64 0)] a := F.weak _ (subL_of kr)
      clear Q
      refine ?_
      refine hK7 _ _ ?_
      clear hK7
      try clear K7
      refine C_region ?_
      refine T_val F H kr (ni (k + 1)) (fun w _ => R_bin (x := (.tmp 14)) (y := (.const (.int .i64 1))) rfl (k := .i64) (a := ((k : Nat) : Int)) (b := ((1 : Nat) : Int)) kr kr (i_addn64 (a := k) (b := 1) (by omega)) w) ?_
      clear F; intro a F
      refine T_k F H (ni (k + 1)) ?_
      clear F; intro a F
      refine wpList_nil ?_
      replace H : Hp [] w [br xb #[hv, uv] 28] v := H.pick [1] kr _ rfl
      exact ⟨m, Nat.lt_succ_self m, k + 1, by omega, by rw [rz_false hrz]; exact F.weak _ (subL_of kr), H⟩
    · rcases Nat.eq_zero_or_pos k with h00 | hpos
      · skip
        rw [hrz] at F
        replace F : Fm 75 [] [(14, ni k), (13, ni h.hs.length), (12, sc gv oh h.hs.length h.c), (7, .bool true), (1, sc gv oh h.hs.length h.c), (2, .slice u.ad u.ss.length u.c), (0, pt xb 0), (6, .int .i64 0)] a := F
        refine C_seqK (fun K10 hK10 => ?_)
        refine C_region ?_
        refine T_val F H kr (.bool true) (fun w _ => R_bin (x := (.tmp 14)) (y := (.tmp 13)) rfl (k := .i64) (a := ((k : Nat) : Int)) (b := ((h.hs.length : Nat) : Int)) kr kr (i_lt (by omega)) w) ?_
        clear F; intro a F
        refine wpList_nil ?_
        refine hK10 _ _ ?_
        clear hK10
        try clear K10
        refine C_seqK (fun K11 hK11 => ?_)
        refine C_if F true rfl rfl ?_
        refine wp_skip ?_
        refine hK11 _ _ ?_
        clear hK11
        try clear K11
        refine C_seqK (fun K12 hK12 => ?_)
        refine wp_block ?_
        refine C_seqK (fun K13 hK13 => ?_)
        refine C_region ?_
        refine T_k F H (ni k) ?_
        clear F; intro a F
        refine T_val F H kr (pt gv (oh + (k) * 2)) (fun w _ => R_indexS (k := .i64) (g := gv) (off := oh) (len := h.hs.length) (cap := h.c) (x := (.tmp 12)) (y := (.tmp 14)) rfl Try.underlying31 kr (k) kr (by omega) (sz := 2) kr w) ?_
        clear F; intro a F
        refine T_valK F H kr (.agg (hvC h0).toArray) (fun w hk hl => R_ldA (y := (.tmp 17)) rfl (g := gv) (off := oh + k * 2) kr (hvC h0).toArray (hv_ld (hr.kept hk List.not_mem_nil) hh0) _ Try.underlying60 rfl kr) ?_
        clear F; intro a F
        refine T_new F H kr (fun ad => pt ad 0) (ce #[.int .u32 0, .slice none 0 0] 60) (fun w => kr) ?_
        clear F H; intro aq14 a v F H
        refine T_k F H (ni k) ?_
        clear F; intro a F
        refine T_set F H kr rfl 0 rfl (hvC h0).toArray (S_row 0 rfl 60 (.tmp 9) (.tmp 18) rfl kr (hvC h0).toArray kr kr kr (hv_one h0)) [⟨true, aq14, .cells (hvC h0).toArray 60 (0, 0)⟩, br xb #[hv, uv] 28] rfl ?_
        clear F H; intro a v F H
        refine wpList_nil ?_
        refine hK13 _ _ ?_
        clear hK13
        try clear K13
        refine E_region F H (fun β => [(19, .bool true), (20, .bool true), (21, ni k), (22, .bool true), (23, .bool true), (24, undef), (25, undef), (26, undef), (27, undef), (28, undef), (29, undef), (30, undef), (31, undef), (32, undef), (33, .bool true), (34, .bool true), (7, .bool true)]) [19, 20, 21, 22, 23, 24, 25, 26, 27, 28, 29, 30, 31, 32, 33, 34, 7] [] [⟨true, aq14, .cells (hvC h0).toArray 60 (0, 0)⟩, br xb #[hv, uv] 28] [0, 1] 2 [(0, [7])] kr kr kr (fun β => rfl) trivial ⟨?_, ?_, ?_, ?_, ?_, ?_, ?_, ?_, ?_, ?_, ?_, ?_, ?_, ?_, ?_, ?_, ?_, trivial⟩ ?_
        · exact E_k 75 (fun β => .bool true) 19 2
        · exact E_k 75 (fun β => .bool true) 20 2
        · exact E_k 75 (fun β => ni k) 21 2
        · exact E_v 75 (fun β => .bool true) 22 2 [] (fun β w hk hl hq => R_bin (x := (.tmp 21)) (y := (.const (.int .i64 0))) rfl (k := .i64) (a := ((k : Nat) : Int)) (b := ((0 : Nat) : Int)) kr kr (i_eqd.trans (by rw [decide_eq_true (by omega)])) w)
        · exact E_k 75 (fun β => .bool true) 23 2
        · exact E_skip kq 24 rfl kq kr
        · exact E_skip kq 25 rfl kq kr
        · exact E_skip kq 26 rfl kq kr
        · exact E_skip kq 27 rfl kq kr
        · exact E_skip kq 28 rfl kq kr
        · exact E_skip kq 29 rfl kq kr
        · exact E_skip kq 30 rfl kq kr
        · exact E_skip kq 31 rfl kq kr
        · exact E_skip kq 32 rfl kq kr
        · exact E_k 75 (fun β => .bool true) 33 2
        · exact E_k 75 (fun β => .bool true) 34 2
        · exact E_k 75 (fun β => .bool true) 7 2
        clear F H; intro β a v Q F H
        replace H : Hp [] w [⟨true, aq14, .cells (hvC h0).toArray 60 (0, 0)⟩, br xb #[hv, uv] 28] v := H
        replace F : Fm 75 [] [(7, .bool true), (34, .bool true), (33, .bool true), (32, undef), (31, undef), (30, undef), (29, undef), (28, undef), (27, undef), (26, undef), (25, undef), (24, undef), (23, .bool true), (22, .bool true), (21, ni k), (20, .bool true), (19, .bool true), (8, ni k), (9, pt aq14 0), (18, .agg (hvC h0).toArray), (17, pt gv (oh + (k) * 2)), (16, ni k), (15, .bool true), (14, ni k), (13, ni h.hs.length), (12, sc gv oh h.hs.length h.c), (1, sc gv oh h.hs.length h.c), (2, .slice u.ad u.ss.length u.c), (0, pt xb 0), (6, .int .i64 0)] a := F.weak _ (subL_of kr)
        clear Q
        refine ?_
        refine hK12 _ _ ?_
        clear hK12
        try clear K12
        refine C_region ?_
        refine T_val F H kr (ni (k + 1)) (fun w _ => R_bin (x := (.tmp 14)) (y := (.const (.int .i64 1))) rfl (k := .i64) (a := ((k : Nat) : Int)) (b := ((1 : Nat) : Int)) kr kr (i_addn64 (a := k) (b := 1) (by omega)) w) ?_
        clear F; intro a F
        refine T_k F H (ni (k + 1)) ?_
        clear F; intro a F
        refine wpList_nil ?_
        replace H : Hp [] w [br xb #[hv, uv] 28] v := H.pick [1] kr _ rfl
        exact ⟨m, Nat.lt_succ_self m, k + 1, by omega, by rw [show rz (h.hs.map (·.1)) (k + 1) = true by rw [h00]; rfl]; exact F.weak _ (subL_of kr), H⟩
      · obtain ⟨hm1, hh1⟩ : ∃ hm1, h.hs[k - 1]? = some hm1 := ⟨_, List.getElem?_eq_getElem (show k - 1 < h.hs.length by omega)⟩
        have hk1 : (h.hs.map (·.1)).getD (k - 1) 0 = hm1.1 := by rw [List.getD_eq_getElem?_getD, List.getElem?_map, hh1]; rfl
        rw [hrz] at F
        replace F : Fm 75 [] [(14, ni k), (13, ni h.hs.length), (12, sc gv oh h.hs.length h.c), (7, .bool true), (1, sc gv oh h.hs.length h.c), (2, .slice u.ad u.ss.length u.c), (0, pt xb 0), (6, .int .i64 0)] a := F
        refine C_seqK (fun K15 hK15 => ?_)
        refine C_region ?_
        refine T_val F H kr (.bool true) (fun w _ => R_bin (x := (.tmp 14)) (y := (.tmp 13)) rfl (k := .i64) (a := ((k : Nat) : Int)) (b := ((h.hs.length : Nat) : Int)) kr kr (i_lt (by omega)) w) ?_
        clear F; intro a F
        refine wpList_nil ?_
        refine hK15 _ _ ?_
        clear hK15
        try clear K15
        refine C_seqK (fun K16 hK16 => ?_)
        refine C_if F true rfl rfl ?_
        refine wp_skip ?_
        refine hK16 _ _ ?_
        clear hK16
        try clear K16
        refine C_seqK (fun K17 hK17 => ?_)
        refine wp_block ?_
        refine C_seqK (fun K18 hK18 => ?_)
        refine C_region ?_
        refine T_k F H (ni k) ?_
        clear F; intro a F
        refine T_val F H kr (pt gv (oh + (k) * 2)) (fun w _ => R_indexS (k := .i64) (g := gv) (off := oh) (len := h.hs.length) (cap := h.c) (x := (.tmp 12)) (y := (.tmp 14)) rfl Try.underlying31 kr (k) kr (by omega) (sz := 2) kr w) ?_
        clear F; intro a F
        refine T_valK F H kr (.agg (hvC h0).toArray) (fun w hk hl => R_ldA (y := (.tmp 17)) rfl (g := gv) (off := oh + k * 2) kr (hvC h0).toArray (hv_ld (hr.kept hk List.not_mem_nil) hh0) _ Try.underlying60 rfl kr) ?_
        clear F; intro a F
        refine T_new F H kr (fun ad => pt ad 0) (ce #[.int .u32 0, .slice none 0 0] 60) (fun w => kr) ?_
        clear F H; intro aq19 a v F H
        refine T_k F H (ni k) ?_
        clear F; intro a F
        refine T_set F H kr rfl 0 rfl (hvC h0).toArray (S_row 0 rfl 60 (.tmp 9) (.tmp 18) rfl kr (hvC h0).toArray kr kr kr (hv_one h0)) [⟨true, aq19, .cells (hvC h0).toArray 60 (0, 0)⟩, br xb #[hv, uv] 28] rfl ?_
        clear F H; intro a v F H
        refine wpList_nil ?_
        refine hK18 _ _ ?_
        clear hK18
        try clear K18
        refine E_region F H (fun β => [(19, .bool true), (20, .bool true), (21, ni k), (22, .bool false), (23, .bool false), (24, sc gv oh h.hs.length h.c), (25, ni k), (26, ni (k - 1)), (27, pt gv (oh + ((k - 1)) * 2)), (28, pt gv ((oh + ((k - 1)) * 2) + 0)), (29, nw hm1.1), (30, pt aq19 0), (31, nw h0.1), (32, .bool (decide (hm1.1 < h0.1))), (33, .bool (decide (hm1.1 < h0.1))), (34, .bool (decide (hm1.1 < h0.1))), (7, .bool (decide (hm1.1 < h0.1)))]) [19, 20, 21, 22, 23, 24, 25, 26, 27, 28, 29, 30, 31, 32, 33, 34, 7] [] [⟨true, aq19, .cells (hvC h0).toArray 60 (0, 0)⟩, br xb #[hv, uv] 28] [0, 1] 2 [(0, [7])] kr kr kr (fun β => rfl) trivial ⟨?_, ?_, ?_, ?_, ?_, ?_, ?_, ?_, ?_, ?_, ?_, ?_, ?_, ?_, ?_, ?_, ?_, trivial⟩ ?_
        · exact E_k 75 (fun β => .bool true) 19 2
        · exact E_k 75 (fun β => .bool true) 20 2
        · exact E_k 75 (fun β => ni k) 21 2
        · exact E_v 75 (fun β => .bool false) 22 2 [] (fun β w hk hl hq => R_bin (x := (.tmp 21)) (y := (.const (.int .i64 0))) rfl (k := .i64) (a := ((k : Nat) : Int)) (b := ((0 : Nat) : Int)) kr kr (i_eqd.trans (by rw [decide_eq_false (by omega)])) w)
        · exact E_k 75 (fun β => .bool false) 23 2
        · exact E_k 75 (fun β => sc gv oh h.hs.length h.c) 24 2
        · exact E_k 75 (fun β => ni k) 25 2
        · exact E_v 75 (fun β => ni (k - 1)) 26 2 [] (fun β w hk hl hq => R_bin (x := (.tmp 25)) (y := (.const (.int .i64 1))) rfl (k := .i64) (a := ((k : Nat) : Int)) (b := ((1 : Nat) : Int)) kr kr (i_subn64 (a := k) (b := 1) (by omega) (by omega)) w)
        · exact E_v 75 (fun β => pt gv (oh + ((k - 1)) * 2)) 27 2 [] (fun β w hk hl hq => R_indexS (k := .i64) (g := gv) (off := oh) (len := h.hs.length) (cap := h.c) (x := (.tmp 24)) (y := (.tmp 26)) rfl Try.underlying31 kr ((k - 1)) kr (by omega) (sz := 2) kr w)
        · exact E_k 75 (fun β => pt gv ((oh + ((k - 1)) * 2) + 0)) 28 2
        · exact E_v 75 (fun β => nw hm1.1) 29 2 [] (fun β w hk hl hq => R_ld (y := (.tmp 28)) rfl (g := gv) (off := ((oh + ((k - 1)) * 2) + 0)) kr (hv_ld (hr.kept hk List.not_mem_nil) hh1 0 _ rfl) _ Try.underlying29 rfl)
        · exact E_k 75 (fun β => pt aq19 0) 30 2
        · exact E_v 75 (fun β => nw h0.1) 31 2 [] (fun β w hk hl hq => R_cellH hl (own := true) (g := aq19) (all := (hvC h0).toArray) (t := 60) (fr := (0, 0)) 0 kr 29 (.tmp 30) rfl 0 kr (nw h0.1) kr _ Try.underlying29 rfl)
        · exact E_v 75 (fun β => .bool (decide (hm1.1 < h0.1))) 32 2 [] (fun β w hk hl hq => R_bin (x := (.tmp 29)) (y := (.tmp 31)) rfl (k := .u32) (a := ((hm1.1 : Nat) : Int)) (b := ((h0.1 : Nat) : Int)) kr kr i_lssd w)
        · exact E_k 75 (fun β => .bool (decide (hm1.1 < h0.1))) 33 2
        · exact E_k 75 (fun β => .bool (decide (hm1.1 < h0.1))) 34 2
        · exact E_k 75 (fun β => .bool (decide (hm1.1 < h0.1))) 7 2
        clear F H; intro β a v Q F H
        replace H : Hp [] w [⟨true, aq19, .cells (hvC h0).toArray 60 (0, 0)⟩, br xb #[hv, uv] 28] v := H
        replace F : Fm 75 [] [(7, .bool (decide (hm1.1 < h0.1))), (34, .bool (decide (hm1.1 < h0.1))), (33, .bool (decide (hm1.1 < h0.1))), (32, .bool (decide (hm1.1 < h0.1))), (31, nw h0.1), (30, pt aq19 0), (29, nw hm1.1), (28, pt gv ((oh + ((k - 1)) * 2) + 0)), (27, pt gv (oh + ((k - 1)) * 2)), (26, ni (k - 1)), (25, ni k), (24, sc gv oh h.hs.length h.c), (23, .bool false), (22, .bool false), (21, ni k), (20, .bool true), (19, .bool true), (8, ni k), (9, pt aq19 0), (18, .agg (hvC h0).toArray), (17, pt gv (oh + (k) * 2)), (16, ni k), (15, .bool true), (14, ni k), (13, ni h.hs.length), (12, sc gv oh h.hs.length h.c), (1, sc gv oh h.hs.length h.c), (2, .slice u.ad u.ss.length u.c), (0, pt xb 0), (6, .int .i64 0)] a := F.weak _ (subL_of kr)
        clear Q
        refine ?_
        refine hK17 _ _ ?_
        clear hK17
        try clear K17
        refine C_region ?_
        refine T_val F H kr (ni (k + 1)) (fun w _ => R_bin (x := (.tmp 14)) (y := (.const (.int .i64 1))) rfl (k := .i64) (a := ((k : Nat) : Int)) (b := ((1 : Nat) : Int)) kr kr (i_addn64 (a := k) (b := 1) (by omega)) w) ?_
        clear F; intro a F
        refine T_k F H (ni (k + 1)) ?_
        clear F; intro a F
        refine wpList_nil ?_
        replace H : Hp [] w [br xb #[hv, uv] 28] v := H.pick [1] kr _ rfl
        exact ⟨m, Nat.lt_succ_self m, k + 1, by omega, by rw [rz_next hrz hpos, hk0, hk1]; exact F.weak _ (subL_of kr), H⟩
  have hkt : k = h.hs.length := by omega
  rw [hkt, hz] at F
  replace F : Fm 75 [] [(14, ni h.hs.length), (13, ni h.hs.length), (12, .slice ha h.hs.length h.c), (7, .bool true), (1, .slice ha h.hs.length h.c), (2, .slice u.ad u.ss.length u.c), (0, pt xb 0), (6, .int .i64 0)] a := F
  refine C_seqK (fun K20 hK20 => ?_)
  refine C_region ?_
  refine T_val F H kr (.bool false) (fun w _ => R_bin (x := (.tmp 14)) (y := (.tmp 13)) rfl (k := .i64) (a := ((h.hs.length : Nat) : Int)) (b := ((h.hs.length : Nat) : Int)) kr kr (i_nlt (by omega)) w) ?_
  clear F; intro a F
  refine wpList_nil ?_
  refine hK20 _ _ ?_
  clear hK20
  try clear K20
  refine C_seqK (fun K21 hK21 => ?_)
  refine C_if F false rfl rfl ?_
  refine wp_exit ?_
  refine hK3 _ _ ?_
  clear hK3
  try clear K3
  refine C_seqK (fun K22 hK22 => ?_)
  refine wp_block ?_
  refine C_seqK (fun K23 hK23 => ?_)
  refine C_region ?_
  refine T_k F H (.bool true) ?_
  clear F; intro a F
  refine T_k F H (.bool false) ?_
  clear F; intro a F
  refine T_k F H (.bool false) ?_
  clear F; intro a F
  refine T_k F H (.slice ha h.hs.length h.c) ?_
  clear F; intro a F
  refine T_k F H (ni h.hs.length) ?_
  clear F; intro a F
  refine T_val F H kr (.bool true) (fun w _ => R_bin (x := (.tmp 41)) (y := (.const (.int .i64 4))) rfl (k := .i64) (a := ((h.hs.length : Nat) : Int)) (b := ((4 : Nat) : Int)) kr kr (i_geqd.trans (by rw [decide_eq_true (by omega)])) w) ?_
  clear F; intro a F
  refine T_k F H (.bool true) ?_
  clear F; intro a F
  refine T_k F H (.bool true) ?_
  clear F; intro a F
  refine wpList_nil ?_
  refine hK23 _ _ ?_
  clear hK23
  try clear K23
  refine C_if F true rfl rfl ?_
  refine C_seqK (fun K24 hK24 => ?_)
  refine C_region ?_
  refine T_k F H (ni 1) ?_
  clear F; intro a F
  refine wpList_nil ?_
  refine hK24 _ _ ?_
  clear hK24
  try clear K24
  refine wp_ret ?_
  repeat (first | with_reducible refine then_ret ?_ | with_reducible refine inB_ret ?_)
  exact C_ret F H (rs := [.tmp 6]) rfl (vs := [ni 1]) (.tmp rfl .nil) (ni 1) rfl ⟨rfl, H.kept⟩

set_option maxRecDepth 100000 in
set_option maxHeartbeats 4000000 in
theorem load_full (xb : Nat) (h : Hv) (u : Uv) (hv uv : Value) (hz : rz (h.hs.map (·.1)) h.hs.length = true) (h4 : h.hs.length < 4) (h8 : 8 < u.ss.length) (w : World) (hx : w.heap[xb]? = some (.cells #[hv, uv] 28 (0, 0))) (hR : ∀ w', Kept [] w w' → h.Rd w') (hu : ∀ w', Kept [] w w' → u.Rd w') : Calls Try.prog 27 #[.pointer (some ⟨xb, 0, none⟩), h.v, u.v] w fun e w' => e = .returned (.int .i64 63) ∧ Kept [] w w' := by
  refine C_enter Try.func27 rfl 75 Try.ntmps27 (Nat.le_of_ble_eq_true rfl) (fun a F => ?_)
  have H := Hp.start1 [] hx
  replace F : Fm 75 [] [(0, pt xb 0), (1, .slice h.ad h.hs.length h.c), (2, .slice u.ad u.ss.length u.c)] a := F.weak _ (subL_of kr)
  have hat : h.hs ≠ [] → ∃ g off, h.ad = some ⟨g, off, none⟩ ∧ ∀ w', Kept [] w w' → RdB w' g off (h.hs.flatMap hvC) := fun hne => by
    obtain ⟨g, off, e1, _⟩ := (hR w (Kept.refl _ _)).at_ hne
    refine ⟨g, off, e1, fun w' k => ?_⟩
    obtain ⟨g', off', e2, h2⟩ := (hR w' k).at_ hne
    rw [e1] at e2
    injection e2 with e2
    injection e2 with e3 e4
    subst e3 e4
    exact h2
  have heach : ∀ x ∈ h.hs, ∀ w', Kept [] w w' → x.2.Rd w' := fun x hx w' k => ((hR w' k).each x hx).2.1
  have hbig := (hR w (Kept.refl _ _)).big
  have hle := (hR w (Kept.refl _ _)).le
  generalize h.ad = ha at F hat
  refine C_seqK (fun K1 hK1 => ?_)
  refine C_region ?_
  refine T_k F H (ni 0) ?_
  clear F; intro a F
  refine wpList_nil ?_
  refine hK1 _ _ ?_
  clear hK1
  try clear K1
  refine C_seqK (fun K2 hK2 => ?_)
  refine C_region ?_
  refine T_k F H (.bool true) ?_
  clear F; intro a F
  refine wpList_nil ?_
  refine hK2 _ _ ?_
  clear hK2
  try clear K2
  refine C_seqK (fun K3 hK3 => ?_)
  refine C_seqK (fun K4 hK4 => ?_)
  refine C_region ?_
  refine T_k F H (.slice ha h.hs.length h.c) ?_
  clear F; intro a F
  refine T_k F H (ni h.hs.length) ?_
  clear F; intro a F
  refine T_k F H (ni 0) ?_
  clear F; intro a F
  refine wpList_nil ?_
  refine hK4 _ _ ?_
  clear hK4
  try clear K4
  replace F : Fm 75 [] [(14, ni 0), (13, ni h.hs.length), (12, .slice ha h.hs.length h.c), (7, .bool true), (1, .slice ha h.hs.length h.c), (2, .slice u.ad u.ss.length u.c), (0, pt xb 0), (6, ni 0)] a := F.weak _ (subL_of kr)
  refine wp_block ?_
  refine C_loop (fun m a v => ∃ k : Nat, k + m = h.hs.length ∧ Fm 75 [] [(14, ni k), (13, ni h.hs.length), (12, .slice ha h.hs.length h.c), (7, .bool (rz (h.hs.map (·.1)) k)), (1, .slice ha h.hs.length h.c), (2, .slice u.ad u.ss.length u.c), (0, pt xb 0), (6, .int .i64 0)] a ∧ Hp [] w [br xb #[hv, uv] 28] v) h.hs.length ⟨0, Nat.zero_add _, F, H⟩ ?_
  clear F H
  intro m a v ⟨k, hk, F, H⟩
  rcases m with _ | m
  rotate_left
  · obtain ⟨h0, hh0⟩ : ∃ h0, h.hs[k]? = some h0 := ⟨_, List.getElem?_eq_getElem (show k < h.hs.length by omega)⟩
    obtain ⟨gv, oh, e1, hr0⟩ := hat (fun e => by rw [e] at hh0; cases hh0)
    subst e1
    have hr := hr0 w (Kept.refl _ _)
    have hk0 : (h.hs.map (·.1)).getD k 0 = h0.1 := by rw [List.getD_eq_getElem?_getD, List.getElem?_map, hh0]; rfl
    rcases hrz : rz (h.hs.map (·.1)) k with _ | _
    · skip
      rw [hrz] at F
      replace F : Fm 75 [] [(14, ni k), (13, ni h.hs.length), (12, sc gv oh h.hs.length h.c), (7, .bool false), (1, sc gv oh h.hs.length h.c), (2, .slice u.ad u.ss.length u.c), (0, pt xb 0), (6, .int .i64 0)] a := F
      refine C_seqK (fun K5 hK5 => ?_)
      refine C_region ?_
      refine T_val F H kr (.bool true) (fun w _ => R_bin (x := (.tmp 14)) (y := (.tmp 13)) rfl (k := .i64) (a := ((k : Nat) : Int)) (b := ((h.hs.length : Nat) : Int)) kr kr (i_lt (by omega)) w) ?_
      clear F; intro a F
      refine wpList_nil ?_
      refine hK5 _ _ ?_
      clear hK5
      try clear K5
      refine C_seqK (fun K6 hK6 => ?_)
      refine C_if F true rfl rfl ?_
      refine wp_skip ?_
      refine hK6 _ _ ?_
      clear hK6
      try clear K6
      refine C_seqK (fun K7 hK7 => ?_)
      refine wp_block ?_
      refine C_seqK (fun K8 hK8 => ?_)
      refine C_region ?_
      refine T_k F H (ni k) ?_
      clear F; intro a F
      refine T_val F H kr (pt gv (oh + (k) * 2)) (fun w _ => R_indexS (k := .i64) (g := gv) (off := oh) (len := h.hs.length) (cap := h.c) (x := (.tmp 12)) (y := (.tmp 14)) rfl Try.underlying31 kr (k) kr (by omega) (sz := 2) kr w) ?_
      clear F; intro a F
      refine T_valK F H kr (.agg (hvC h0).toArray) (fun w hk hl => R_ldA (y := (.tmp 17)) rfl (g := gv) (off := oh + k * 2) kr (hvC h0).toArray (hv_ld (hr.kept hk List.not_mem_nil) hh0) _ Try.underlying60 rfl kr) ?_
      clear F; intro a F
      refine T_new F H kr (fun ad => pt ad 0) (ce #[.int .u32 0, .slice none 0 0] 60) (fun w => kr) ?_
      clear F H; intro aq9 a v F H
      refine T_k F H (ni k) ?_
      clear F; intro a F
      refine T_set F H kr rfl 0 rfl (hvC h0).toArray (S_row 0 rfl 60 (.tmp 9) (.tmp 18) rfl kr (hvC h0).toArray kr kr kr (hv_one h0)) [⟨true, aq9, .cells (hvC h0).toArray 60 (0, 0)⟩, br xb #[hv, uv] 28] rfl ?_
      clear F H; intro a v F H
      refine wpList_nil ?_
      refine hK8 _ _ ?_
      clear hK8
      try clear K8
      refine E_region F H (fun β => [(19, .bool false), (20, .bool false), (21, undef), (22, undef), (23, undef), (24, undef), (25, undef), (26, undef), (27, undef), (28, undef), (29, undef), (30, undef), (31, undef), (32, undef), (33, undef), (34, .bool false), (7, .bool false)]) [19, 20, 21, 22, 23, 24, 25, 26, 27, 28, 29, 30, 31, 32, 33, 34, 7] [] [⟨true, aq9, .cells (hvC h0).toArray 60 (0, 0)⟩, br xb #[hv, uv] 28] [0, 1] 2 [(0, [7])] kr kr kr (fun β => rfl) trivial ⟨?_, ?_, ?_, ?_, ?_, ?_, ?_, ?_, ?_, ?_, ?_, ?_, ?_, ?_, ?_, ?_, ?_, trivial⟩ ?_
      · exact E_k 75 (fun β => .bool false) 19 2
      · exact E_k 75 (fun β => .bool false) 20 2
      · exact E_skip kq 21 rfl kq kr
      · exact E_skip kq 22 rfl kq kr
      · exact E_skip kq 23 rfl kq kr
      · exact E_skip kq 24 rfl kq kr
      · exact E_skip kq 25 rfl kq kr
      · exact E_skip kq 26 rfl kq kr
      · exact E_skip kq 27 rfl kq kr
      · exact E_skip kq 28 rfl kq kr
      · exact E_skip kq 29 rfl kq kr
      · exact E_skip kq 30 rfl kq kr
      · exact E_skip kq 31 rfl kq kr
      · exact E_skip kq 32 rfl kq kr
      · exact E_skip kq 33 rfl kq kr
      · exact E_k 75 (fun β => .bool false) 34 2
      · exact E_k 75 (fun β => .bool false) 7 2
      clear F H; intro β a v Q F H
      replace H : Hp [] w [⟨true, aq9, .cells (hvC h0).toArray 60 (0, 0)⟩, br xb #[hv, uv] 28] v := H
      replace F : Fm 75 [] [(7, .bool false), (34, .bool false), (33, undef), (32, undef), (31, undef), (30, undef), (29, undef), (28, undef), (27, undef), (26, undef), (25, undef), (24, undef), (23, undef), (22, undef), (21, undef), (20, .bool false), (19, .bool false), (8, ni k), (9, pt aq9 0), (18, .agg (hvC h0).toArray), (17, pt gv (oh + (k) * 2)), (16, ni k), (15, .bool true), (14, ni k), (13, ni h.hs.length), (12, sc gv oh h.hs.length h.c), (1, sc gv oh h.hs.length h.c), (2, .slice u.ad u.ss.length u.c), (0, pt xb 0), (6, .int .i64 0)] a := F.weak _ (subL_of kr)
      clear Q
      refine ?_
      refine hK7 _ _ ?_
      clear hK7
      try clear K7
      refine C_region ?_
      refine T_val F H kr (ni (k + 1)) (fun w _ => R_bin (x := (.tmp 14)) (y := (.const (.int .i64 1))) rfl (k := .i64) (a := ((k : Nat) : Int)) (b := ((1 : Nat) : Int)) kr kr (i_addn64 (a := k) (b := 1) (by omega)) w) ?_
      clear F; intro a F
      refine T_k F H (ni (k + 1)) ?_
      clear F; intro a F
      refine wpList_nil ?_
      replace H : Hp [] w [br xb #[hv, uv] 28] v := H.pick [1] kr _ rfl
      exact ⟨m, Nat.lt_succ_self m, k + 1, by omega, by rw [rz_false hrz]; exact F.weak _ (subL_of kr), H⟩
    · rcases Nat.eq_zero_or_pos k with h00 | hpos
      · skip
        rw [hrz] at F
        replace F : Fm 75 [] [(14, ni k), (13, ni h.hs.length), (12, sc gv oh h.hs.length h.c), (7, .bool true), (1, sc gv oh h.hs.length h.c), (2, .slice u.ad u.ss.length u.c), (0, pt xb 0), (6, .int .i64 0)] a := F
        refine C_seqK (fun K10 hK10 => ?_)
        refine C_region ?_
        refine T_val F H kr (.bool true) (fun w _ => R_bin (x := (.tmp 14)) (y := (.tmp 13)) rfl (k := .i64) (a := ((k : Nat) : Int)) (b := ((h.hs.length : Nat) : Int)) kr kr (i_lt (by omega)) w) ?_
        clear F; intro a F
        refine wpList_nil ?_
        refine hK10 _ _ ?_
        clear hK10
        try clear K10
        refine C_seqK (fun K11 hK11 => ?_)
        refine C_if F true rfl rfl ?_
        refine wp_skip ?_
        refine hK11 _ _ ?_
        clear hK11
        try clear K11
        refine C_seqK (fun K12 hK12 => ?_)
        refine wp_block ?_
        refine C_seqK (fun K13 hK13 => ?_)
        refine C_region ?_
        refine T_k F H (ni k) ?_
        clear F; intro a F
        refine T_val F H kr (pt gv (oh + (k) * 2)) (fun w _ => R_indexS (k := .i64) (g := gv) (off := oh) (len := h.hs.length) (cap := h.c) (x := (.tmp 12)) (y := (.tmp 14)) rfl Try.underlying31 kr (k) kr (by omega) (sz := 2) kr w) ?_
        clear F; intro a F
        refine T_valK F H kr (.agg (hvC h0).toArray) (fun w hk hl => R_ldA (y := (.tmp 17)) rfl (g := gv) (off := oh + k * 2) kr (hvC h0).toArray (hv_ld (hr.kept hk List.not_mem_nil) hh0) _ Try.underlying60 rfl kr) ?_
        clear F; intro a F
        refine T_new F H kr (fun ad => pt ad 0) (ce #[.int .u32 0, .slice none 0 0] 60) (fun w => kr) ?_
        clear F H; intro aq14 a v F H
        refine T_k F H (ni k) ?_
        clear F; intro a F
        refine T_set F H kr rfl 0 rfl (hvC h0).toArray (S_row 0 rfl 60 (.tmp 9) (.tmp 18) rfl kr (hvC h0).toArray kr kr kr (hv_one h0)) [⟨true, aq14, .cells (hvC h0).toArray 60 (0, 0)⟩, br xb #[hv, uv] 28] rfl ?_
        clear F H; intro a v F H
        refine wpList_nil ?_
        refine hK13 _ _ ?_
        clear hK13
        try clear K13
        refine E_region F H (fun β => [(19, .bool true), (20, .bool true), (21, ni k), (22, .bool true), (23, .bool true), (24, undef), (25, undef), (26, undef), (27, undef), (28, undef), (29, undef), (30, undef), (31, undef), (32, undef), (33, .bool true), (34, .bool true), (7, .bool true)]) [19, 20, 21, 22, 23, 24, 25, 26, 27, 28, 29, 30, 31, 32, 33, 34, 7] [] [⟨true, aq14, .cells (hvC h0).toArray 60 (0, 0)⟩, br xb #[hv, uv] 28] [0, 1] 2 [(0, [7])] kr kr kr (fun β => rfl) trivial ⟨?_, ?_, ?_, ?_, ?_, ?_, ?_, ?_, ?_, ?_, ?_, ?_, ?_, ?_, ?_, ?_, ?_, trivial⟩ ?_
        · exact E_k 75 (fun β => .bool true) 19 2
        · exact E_k 75 (fun β => .bool true) 20 2
        · exact E_k 75 (fun β => ni k) 21 2
        · exact E_v 75 (fun β => .bool true) 22 2 [] (fun β w hk hl hq => R_bin (x := (.tmp 21)) (y := (.const (.int .i64 0))) rfl (k := .i64) (a := ((k : Nat) : Int)) (b := ((0 : Nat) : Int)) kr kr (i_eqd.trans (by rw [decide_eq_true (by omega)])) w)
        · exact E_k 75 (fun β => .bool true) 23 2
        · exact E_skip kq 24 rfl kq kr
        · exact E_skip kq 25 rfl kq kr
        · exact E_skip kq 26 rfl kq kr
        · exact E_skip kq 27 rfl kq kr
        · exact E_skip kq 28 rfl kq kr
        · exact E_skip kq 29 rfl kq kr
        · exact E_skip kq 30 rfl kq kr
        · exact E_skip kq 31 rfl kq kr
        · exact E_skip kq 32 rfl kq kr
        · exact E_k 75 (fun β => .bool true) 33 2
        · exact E_k 75 (fun β => .bool true) 34 2
        · exact E_k 75 (fun β => .bool true) 7 2
        clear F H; intro β a v Q F H
        replace H : Hp [] w [⟨true, aq14, .cells (hvC h0).toArray 60 (0, 0)⟩, br xb #[hv, uv] 28] v := H
        replace F : Fm 75 [] [(7, .bool true), (34, .bool true), (33, .bool true), (32, undef), (31, undef), (30, undef), (29, undef), (28, undef), (27, undef), (26, undef), (25, undef), (24, undef), (23, .bool true), (22, .bool true), (21, ni k), (20, .bool true), (19, .bool true), (8, ni k), (9, pt aq14 0), (18, .agg (hvC h0).toArray), (17, pt gv (oh + (k) * 2)), (16, ni k), (15, .bool true), (14, ni k), (13, ni h.hs.length), (12, sc gv oh h.hs.length h.c), (1, sc gv oh h.hs.length h.c), (2, .slice u.ad u.ss.length u.c), (0, pt xb 0), (6, .int .i64 0)] a := F.weak _ (subL_of kr)
        clear Q
        refine ?_
        refine hK12 _ _ ?_
        clear hK12
        try clear K12
        refine C_region ?_
        refine T_val F H kr (ni (k + 1)) (fun w _ => R_bin (x := (.tmp 14)) (y := (.const (.int .i64 1))) rfl (k := .i64) (a := ((k : Nat) : Int)) (b := ((1 : Nat) : Int)) kr kr (i_addn64 (a := k) (b := 1) (by omega)) w) ?_
        clear F; intro a F
        refine T_k F H (ni (k + 1)) ?_
        clear F; intro a F
        refine wpList_nil ?_
        replace H : Hp [] w [br xb #[hv, uv] 28] v := H.pick [1] kr _ rfl
        exact ⟨m, Nat.lt_succ_self m, k + 1, by omega, by rw [show rz (h.hs.map (·.1)) (k + 1) = true by rw [h00]; rfl]; exact F.weak _ (subL_of kr), H⟩
      · obtain ⟨hm1, hh1⟩ : ∃ hm1, h.hs[k - 1]? = some hm1 := ⟨_, List.getElem?_eq_getElem (show k - 1 < h.hs.length by omega)⟩
        have hk1 : (h.hs.map (·.1)).getD (k - 1) 0 = hm1.1 := by rw [List.getD_eq_getElem?_getD, List.getElem?_map, hh1]; rfl
        rw [hrz] at F
        replace F : Fm 75 [] [(14, ni k), (13, ni h.hs.length), (12, sc gv oh h.hs.length h.c), (7, .bool true), (1, sc gv oh h.hs.length h.c), (2, .slice u.ad u.ss.length u.c), (0, pt xb 0), (6, .int .i64 0)] a := F
        refine C_seqK (fun K15 hK15 => ?_)
        refine C_region ?_
        refine T_val F H kr (.bool true) (fun w _ => R_bin (x := (.tmp 14)) (y := (.tmp 13)) rfl (k := .i64) (a := ((k : Nat) : Int)) (b := ((h.hs.length : Nat) : Int)) kr kr (i_lt (by omega)) w) ?_
        clear F; intro a F
        refine wpList_nil ?_
        refine hK15 _ _ ?_
        clear hK15
        try clear K15
        refine C_seqK (fun K16 hK16 => ?_)
        refine C_if F true rfl rfl ?_
        refine wp_skip ?_
        refine hK16 _ _ ?_
        clear hK16
        try clear K16
        refine C_seqK (fun K17 hK17 => ?_)
        refine wp_block ?_
        refine C_seqK (fun K18 hK18 => ?_)
        refine C_region ?_
        refine T_k F H (ni k) ?_
        clear F; intro a F
        refine T_val F H kr (pt gv (oh + (k) * 2)) (fun w _ => R_indexS (k := .i64) (g := gv) (off := oh) (len := h.hs.length) (cap := h.c) (x := (.tmp 12)) (y := (.tmp 14)) rfl Try.underlying31 kr (k) kr (by omega) (sz := 2) kr w) ?_
        clear F; intro a F
        refine T_valK F H kr (.agg (hvC h0).toArray) (fun w hk hl => R_ldA (y := (.tmp 17)) rfl (g := gv) (off := oh + k * 2) kr (hvC h0).toArray (hv_ld (hr.kept hk List.not_mem_nil) hh0) _ Try.underlying60 rfl kr) ?_
        clear F; intro a F
        refine T_new F H kr (fun ad => pt ad 0) (ce #[.int .u32 0, .slice none 0 0] 60) (fun w => kr) ?_
        clear F H; intro aq19 a v F H
        refine T_k F H (ni k) ?_
        clear F; intro a F
        refine T_set F H kr rfl 0 rfl (hvC h0).toArray (S_row 0 rfl 60 (.tmp 9) (.tmp 18) rfl kr (hvC h0).toArray kr kr kr (hv_one h0)) [⟨true, aq19, .cells (hvC h0).toArray 60 (0, 0)⟩, br xb #[hv, uv] 28] rfl ?_
        clear F H; intro a v F H
        refine wpList_nil ?_
        refine hK18 _ _ ?_
        clear hK18
        try clear K18
        refine E_region F H (fun β => [(19, .bool true), (20, .bool true), (21, ni k), (22, .bool false), (23, .bool false), (24, sc gv oh h.hs.length h.c), (25, ni k), (26, ni (k - 1)), (27, pt gv (oh + ((k - 1)) * 2)), (28, pt gv ((oh + ((k - 1)) * 2) + 0)), (29, nw hm1.1), (30, pt aq19 0), (31, nw h0.1), (32, .bool (decide (hm1.1 < h0.1))), (33, .bool (decide (hm1.1 < h0.1))), (34, .bool (decide (hm1.1 < h0.1))), (7, .bool (decide (hm1.1 < h0.1)))]) [19, 20, 21, 22, 23, 24, 25, 26, 27, 28, 29, 30, 31, 32, 33, 34, 7] [] [⟨true, aq19, .cells (hvC h0).toArray 60 (0, 0)⟩, br xb #[hv, uv] 28] [0, 1] 2 [(0, [7])] kr kr kr (fun β => rfl) trivial ⟨?_, ?_, ?_, ?_, ?_, ?_, ?_, ?_, ?_, ?_, ?_, ?_, ?_, ?_, ?_, ?_, ?_, trivial⟩ ?_
        · exact E_k 75 (fun β => .bool true) 19 2
        · exact E_k 75 (fun β => .bool true) 20 2
        · exact E_k 75 (fun β => ni k) 21 2
        · exact E_v 75 (fun β => .bool false) 22 2 [] (fun β w hk hl hq => R_bin (x := (.tmp 21)) (y := (.const (.int .i64 0))) rfl (k := .i64) (a := ((k : Nat) : Int)) (b := ((0 : Nat) : Int)) kr kr (i_eqd.trans (by rw [decide_eq_false (by omega)])) w)
        · exact E_k 75 (fun β => .bool false) 23 2
        · exact E_k 75 (fun β => sc gv oh h.hs.length h.c) 24 2
        · exact E_k 75 (fun β => ni k) 25 2
        · exact E_v 75 (fun β => ni (k - 1)) 26 2 [] (fun β w hk hl hq => R_bin (x := (.tmp 25)) (y := (.const (.int .i64 1))) rfl (k := .i64) (a := ((k : Nat) : Int)) (b := ((1 : Nat) : Int)) kr kr (i_subn64 (a := k) (b := 1) (by omega) (by omega)) w)
        · exact E_v 75 (fun β => pt gv (oh + ((k - 1)) * 2)) 27 2 [] (fun β w hk hl hq => R_indexS (k := .i64) (g := gv) (off := oh) (len := h.hs.length) (cap := h.c) (x := (.tmp 24)) (y := (.tmp 26)) rfl Try.underlying31 kr ((k - 1)) kr (by omega) (sz := 2) kr w)
        · exact E_k 75 (fun β => pt gv ((oh + ((k - 1)) * 2) + 0)) 28 2
        · exact E_v 75 (fun β => nw hm1.1) 29 2 [] (fun β w hk hl hq => R_ld (y := (.tmp 28)) rfl (g := gv) (off := ((oh + ((k - 1)) * 2) + 0)) kr (hv_ld (hr.kept hk List.not_mem_nil) hh1 0 _ rfl) _ Try.underlying29 rfl)
        · exact E_k 75 (fun β => pt aq19 0) 30 2
        · exact E_v 75 (fun β => nw h0.1) 31 2 [] (fun β w hk hl hq => R_cellH hl (own := true) (g := aq19) (all := (hvC h0).toArray) (t := 60) (fr := (0, 0)) 0 kr 29 (.tmp 30) rfl 0 kr (nw h0.1) kr _ Try.underlying29 rfl)
        · exact E_v 75 (fun β => .bool (decide (hm1.1 < h0.1))) 32 2 [] (fun β w hk hl hq => R_bin (x := (.tmp 29)) (y := (.tmp 31)) rfl (k := .u32) (a := ((hm1.1 : Nat) : Int)) (b := ((h0.1 : Nat) : Int)) kr kr i_lssd w)
        · exact E_k 75 (fun β => .bool (decide (hm1.1 < h0.1))) 33 2
        · exact E_k 75 (fun β => .bool (decide (hm1.1 < h0.1))) 34 2
        · exact E_k 75 (fun β => .bool (decide (hm1.1 < h0.1))) 7 2
        clear F H; intro β a v Q F H
        replace H : Hp [] w [⟨true, aq19, .cells (hvC h0).toArray 60 (0, 0)⟩, br xb #[hv, uv] 28] v := H
        replace F : Fm 75 [] [(7, .bool (decide (hm1.1 < h0.1))), (34, .bool (decide (hm1.1 < h0.1))), (33, .bool (decide (hm1.1 < h0.1))), (32, .bool (decide (hm1.1 < h0.1))), (31, nw h0.1), (30, pt aq19 0), (29, nw hm1.1), (28, pt gv ((oh + ((k - 1)) * 2) + 0)), (27, pt gv (oh + ((k - 1)) * 2)), (26, ni (k - 1)), (25, ni k), (24, sc gv oh h.hs.length h.c), (23, .bool false), (22, .bool false), (21, ni k), (20, .bool true), (19, .bool true), (8, ni k), (9, pt aq19 0), (18, .agg (hvC h0).toArray), (17, pt gv (oh + (k) * 2)), (16, ni k), (15, .bool true), (14, ni k), (13, ni h.hs.length), (12, sc gv oh h.hs.length h.c), (1, sc gv oh h.hs.length h.c), (2, .slice u.ad u.ss.length u.c), (0, pt xb 0), (6, .int .i64 0)] a := F.weak _ (subL_of kr)
        clear Q
        refine ?_
        refine hK17 _ _ ?_
        clear hK17
        try clear K17
        refine C_region ?_
        refine T_val F H kr (ni (k + 1)) (fun w _ => R_bin (x := (.tmp 14)) (y := (.const (.int .i64 1))) rfl (k := .i64) (a := ((k : Nat) : Int)) (b := ((1 : Nat) : Int)) kr kr (i_addn64 (a := k) (b := 1) (by omega)) w) ?_
        clear F; intro a F
        refine T_k F H (ni (k + 1)) ?_
        clear F; intro a F
        refine wpList_nil ?_
        replace H : Hp [] w [br xb #[hv, uv] 28] v := H.pick [1] kr _ rfl
        exact ⟨m, Nat.lt_succ_self m, k + 1, by omega, by rw [rz_next hrz hpos, hk0, hk1]; exact F.weak _ (subL_of kr), H⟩
  have hkt : k = h.hs.length := by omega
  rw [hkt, hz] at F
  replace F : Fm 75 [] [(14, ni h.hs.length), (13, ni h.hs.length), (12, .slice ha h.hs.length h.c), (7, .bool true), (1, .slice ha h.hs.length h.c), (2, .slice u.ad u.ss.length u.c), (0, pt xb 0), (6, .int .i64 0)] a := F
  refine C_seqK (fun K20 hK20 => ?_)
  refine C_region ?_
  refine T_val F H kr (.bool false) (fun w _ => R_bin (x := (.tmp 14)) (y := (.tmp 13)) rfl (k := .i64) (a := ((h.hs.length : Nat) : Int)) (b := ((h.hs.length : Nat) : Int)) kr kr (i_nlt (by omega)) w) ?_
  clear F; intro a F
  refine wpList_nil ?_
  refine hK20 _ _ ?_
  clear hK20
  try clear K20
  refine C_seqK (fun K21 hK21 => ?_)
  refine C_if F false rfl rfl ?_
  refine wp_exit ?_
  refine hK3 _ _ ?_
  clear hK3
  try clear K3
  refine C_seqK (fun K22 hK22 => ?_)
  refine wp_block ?_
  refine C_seqK (fun K23 hK23 => ?_)
  refine C_region ?_
  refine T_k F H (.bool true) ?_
  clear F; intro a F
  refine T_k F H (.bool false) ?_
  clear F; intro a F
  refine T_k F H (.bool false) ?_
  clear F; intro a F
  refine T_k F H (.slice ha h.hs.length h.c) ?_
  clear F; intro a F
  refine T_k F H (ni h.hs.length) ?_
  clear F; intro a F
  refine T_val F H kr (.bool false) (fun w _ => R_bin (x := (.tmp 41)) (y := (.const (.int .i64 4))) rfl (k := .i64) (a := ((h.hs.length : Nat) : Int)) (b := ((4 : Nat) : Int)) kr kr (i_geqd.trans (by rw [decide_eq_false (by omega)])) w) ?_
  clear F; intro a F
  refine T_k F H (.bool false) ?_
  clear F; intro a F
  refine T_k F H (.bool false) ?_
  clear F; intro a F
  refine wpList_nil ?_
  refine hK23 _ _ ?_
  clear hK23
  try clear K23
  refine C_if F false rfl rfl ?_
  refine C_seqK (fun K24 hK24 => ?_)
  refine C_region ?_
  refine T_k F H (.slice u.ad u.ss.length u.c) ?_
  clear F; intro a F
  refine T_k F H (ni u.ss.length) ?_
  clear F; intro a F
  refine T_val F H kr (.bool true) (fun w _ => R_bin (x := (.tmp 46)) (y := (.const (.int .i64 8))) rfl (k := .i64) (a := ((u.ss.length : Nat) : Int)) (b := ((8 : Nat) : Int)) kr kr (i_gtrd.trans (by rw [decide_eq_true (by omega)])) w) ?_
  clear F; intro a F
  refine T_k F H (.bool true) ?_
  clear F; intro a F
  refine wpList_nil ?_
  refine hK24 _ _ ?_
  clear hK24
  try clear K24
  refine C_if F true rfl rfl ?_
  refine C_seqK (fun K25 hK25 => ?_)
  refine C_region ?_
  refine T_k F H (ni 63) ?_
  clear F; intro a F
  refine wpList_nil ?_
  refine hK25 _ _ ?_
  clear hK25
  try clear K25
  refine wp_ret ?_
  repeat (first | with_reducible refine then_ret ?_ | with_reducible refine inB_ret ?_)
  exact C_ret F H (rs := [.tmp 6]) rfl (vs := [ni 63]) (.tmp rfl .nil) (ni 63) rfl ⟨rfl, H.kept⟩

set_option maxRecDepth 100000 in
set_option maxHeartbeats 4000000 in
theorem load_ok (xb : Nat) (h : Hv) (u : Uv) (hv uv : Value) (hz : rz (h.hs.map (·.1)) h.hs.length = true) (h4 : h.hs.length < 4) (h8 : u.ss.length ≤ 8) (w : World) (hx : w.heap[xb]? = some (.cells #[hv, uv] 28 (0, 0))) (hR : ∀ w', Kept [xb] w w' → h.Rd w') (hu : ∀ w', Kept [xb] w w' → u.Rd w') : Calls Try.prog 27 #[.pointer (some ⟨xb, 0, none⟩), h.v, u.v] w fun e w' => ∃ (mb : Nat) (M : List MEn) (o : Ls), e = .returned (.int .i64 0) ∧ (MOK M h.hs.length ∧ M.map (fun m => (m.k, m.c.l)) = h.hs.map dS) ∧ (o.ok ∧ o.ls = u.ss.map (·.l) ∧ o.cs.length = u.ss.length) ∧ Hp [xb] w ([⟨true, xb, .cells #[.map (some mb), o.v] 28 (0, 0)⟩, ⟨true, mb, mpO M h.hs.length⟩] ++ (o.blks ++ menB M)) w' := by
  refine C_enter Try.func27 rfl 75 Try.ntmps27 (Nat.le_of_ble_eq_true rfl) (fun a F => ?_)
  have H : Hp [xb] w [bk xb #[hv, uv] 28] w := Hp.startX1 hx
  replace F : Fm 75 [] [(0, pt xb 0), (1, .slice h.ad h.hs.length h.c), (2, .slice u.ad u.ss.length u.c)] a := F.weak _ (subL_of kr)
  have hat : h.hs ≠ [] → ∃ g off, h.ad = some ⟨g, off, none⟩ ∧ ∀ w', Kept [xb] w w' → RdB w' g off (h.hs.flatMap hvC) := fun hne => by
    obtain ⟨g, off, e1, _⟩ := (hR w (Kept.refl _ _)).at_ hne
    refine ⟨g, off, e1, fun w' k => ?_⟩
    obtain ⟨g', off', e2, h2⟩ := (hR w' k).at_ hne
    rw [e1] at e2
    injection e2 with e2
    injection e2 with e3 e4
    subst e3 e4
    exact h2
  have heach : ∀ x ∈ h.hs, ∀ w', Kept [xb] w w' → x.2.Rd w' := fun x hx w' k => ((hR w' k).each x hx).2.1
  have hbig := (hR w (Kept.refl _ _)).big
  have hle := (hR w (Kept.refl _ _)).le
  generalize h.ad = ha at F hat
  refine C_seqK (fun K1 hK1 => ?_)
  refine C_region ?_
  refine T_k F H (ni 0) ?_
  clear F; intro a F
  refine wpList_nil ?_
  refine hK1 _ _ ?_
  clear hK1
  try clear K1
  refine C_seqK (fun K2 hK2 => ?_)
  refine C_region ?_
  refine T_k F H (.bool true) ?_
  clear F; intro a F
  refine wpList_nil ?_
  refine hK2 _ _ ?_
  clear hK2
  try clear K2
  refine C_seqK (fun K3 hK3 => ?_)
  refine C_seqK (fun K4 hK4 => ?_)
  refine C_region ?_
  refine T_k F H (.slice ha h.hs.length h.c) ?_
  clear F; intro a F
  refine T_k F H (ni h.hs.length) ?_
  clear F; intro a F
  refine T_k F H (ni 0) ?_
  clear F; intro a F
  refine wpList_nil ?_
  refine hK4 _ _ ?_
  clear hK4
  try clear K4
  replace F : Fm 75 [] [(14, ni 0), (13, ni h.hs.length), (12, .slice ha h.hs.length h.c), (7, .bool true), (1, .slice ha h.hs.length h.c), (2, .slice u.ad u.ss.length u.c), (0, pt xb 0), (6, ni 0)] a := F.weak _ (subL_of kr)
  refine wp_block ?_
  refine C_loop (fun m a v => ∃ k : Nat, k + m = h.hs.length ∧ Fm 75 [] [(14, ni k), (13, ni h.hs.length), (12, .slice ha h.hs.length h.c), (7, .bool (rz (h.hs.map (·.1)) k)), (1, .slice ha h.hs.length h.c), (2, .slice u.ad u.ss.length u.c), (0, pt xb 0), (6, .int .i64 0)] a ∧ Hp [xb] w [bk xb #[hv, uv] 28] v) h.hs.length ⟨0, Nat.zero_add _, F, H⟩ ?_
  clear F H
  intro m a v ⟨k, hk, F, H⟩
  rcases m with _ | m
  rotate_left
  · obtain ⟨h0, hh0⟩ : ∃ h0, h.hs[k]? = some h0 := ⟨_, List.getElem?_eq_getElem (show k < h.hs.length by omega)⟩
    obtain ⟨gv, oh, e1, hr0⟩ := hat (fun e => by rw [e] at hh0; cases hh0)
    subst e1
    have hr := hr0 w (Kept.refl _ _)
    have hk0 : (h.hs.map (·.1)).getD k 0 = h0.1 := by rw [List.getD_eq_getElem?_getD, List.getElem?_map, hh0]; rfl
    rcases hrz : rz (h.hs.map (·.1)) k with _ | _
    · skip
      rw [hrz] at F
      replace F : Fm 75 [] [(14, ni k), (13, ni h.hs.length), (12, sc gv oh h.hs.length h.c), (7, .bool false), (1, sc gv oh h.hs.length h.c), (2, .slice u.ad u.ss.length u.c), (0, pt xb 0), (6, .int .i64 0)] a := F
      refine C_seqK (fun K5 hK5 => ?_)
      refine C_region ?_
      refine T_val F H kr (.bool true) (fun w _ => R_bin (x := (.tmp 14)) (y := (.tmp 13)) rfl (k := .i64) (a := ((k : Nat) : Int)) (b := ((h.hs.length : Nat) : Int)) kr kr (i_lt (by omega)) w) ?_
      clear F; intro a F
      refine wpList_nil ?_
      refine hK5 _ _ ?_
      clear hK5
      try clear K5
      refine C_seqK (fun K6 hK6 => ?_)
      refine C_if F true rfl rfl ?_
      refine wp_skip ?_
      refine hK6 _ _ ?_
      clear hK6
      try clear K6
      refine C_seqK (fun K7 hK7 => ?_)
      refine wp_block ?_
      refine C_seqK (fun K8 hK8 => ?_)
      refine C_region ?_
      refine T_k F H (ni k) ?_
      clear F; intro a F
      refine T_val F H kr (pt gv (oh + (k) * 2)) (fun w _ => R_indexS (k := .i64) (g := gv) (off := oh) (len := h.hs.length) (cap := h.c) (x := (.tmp 12)) (y := (.tmp 14)) rfl Try.underlying31 kr (k) kr (by omega) (sz := 2) kr w) ?_
      clear F; intro a F
      refine T_valK F H kr (.agg (hvC h0).toArray) (fun w hk hl => R_ldA (y := (.tmp 17)) rfl (g := gv) (off := oh + k * 2) kr (hvC h0).toArray (hv_ld (hr0 _ hk) hh0) _ Try.underlying60 rfl kr) ?_
      clear F; intro a F
      refine T_new F H kr (fun ad => pt ad 0) (ce #[.int .u32 0, .slice none 0 0] 60) (fun w => kr) ?_
      clear F H; intro aq9 a v F H
      refine T_k F H (ni k) ?_
      clear F; intro a F
      refine T_set F H kr rfl 0 rfl (hvC h0).toArray (S_row 0 rfl 60 (.tmp 9) (.tmp 18) rfl kr (hvC h0).toArray kr kr kr (hv_one h0)) [⟨true, aq9, .cells (hvC h0).toArray 60 (0, 0)⟩, bk xb #[hv, uv] 28] rfl ?_
      clear F H; intro a v F H
      refine wpList_nil ?_
      refine hK8 _ _ ?_
      clear hK8
      try clear K8
      refine E_region F H (fun β => [(19, .bool false), (20, .bool false), (21, undef), (22, undef), (23, undef), (24, undef), (25, undef), (26, undef), (27, undef), (28, undef), (29, undef), (30, undef), (31, undef), (32, undef), (33, undef), (34, .bool false), (7, .bool false)]) [19, 20, 21, 22, 23, 24, 25, 26, 27, 28, 29, 30, 31, 32, 33, 34, 7] [] [⟨true, aq9, .cells (hvC h0).toArray 60 (0, 0)⟩, bk xb #[hv, uv] 28] [0, 1] 2 [(0, [7])] kr kr kr (fun β => rfl) trivial ⟨?_, ?_, ?_, ?_, ?_, ?_, ?_, ?_, ?_, ?_, ?_, ?_, ?_, ?_, ?_, ?_, ?_, trivial⟩ ?_
      · exact E_k 75 (fun β => .bool false) 19 2
      · exact E_k 75 (fun β => .bool false) 20 2
      · exact E_skip kq 21 rfl kq kr
      · exact E_skip kq 22 rfl kq kr
      · exact E_skip kq 23 rfl kq kr
      · exact E_skip kq 24 rfl kq kr
      · exact E_skip kq 25 rfl kq kr
      · exact E_skip kq 26 rfl kq kr
      · exact E_skip kq 27 rfl kq kr
      · exact E_skip kq 28 rfl kq kr
      · exact E_skip kq 29 rfl kq kr
      · exact E_skip kq 30 rfl kq kr
      · exact E_skip kq 31 rfl kq kr
      · exact E_skip kq 32 rfl kq kr
      · exact E_skip kq 33 rfl kq kr
      · exact E_k 75 (fun β => .bool false) 34 2
      · exact E_k 75 (fun β => .bool false) 7 2
      clear F H; intro β a v Q F H
      replace H : Hp [xb] w [⟨true, aq9, .cells (hvC h0).toArray 60 (0, 0)⟩, bk xb #[hv, uv] 28] v := H
      replace F : Fm 75 [] [(7, .bool false), (34, .bool false), (33, undef), (32, undef), (31, undef), (30, undef), (29, undef), (28, undef), (27, undef), (26, undef), (25, undef), (24, undef), (23, undef), (22, undef), (21, undef), (20, .bool false), (19, .bool false), (8, ni k), (9, pt aq9 0), (18, .agg (hvC h0).toArray), (17, pt gv (oh + (k) * 2)), (16, ni k), (15, .bool true), (14, ni k), (13, ni h.hs.length), (12, sc gv oh h.hs.length h.c), (1, sc gv oh h.hs.length h.c), (2, .slice u.ad u.ss.length u.c), (0, pt xb 0), (6, .int .i64 0)] a := F.weak _ (subL_of kr)
      clear Q
      refine ?_
      refine hK7 _ _ ?_
      clear hK7
      try clear K7
      refine C_region ?_
      refine T_val F H kr (ni (k + 1)) (fun w _ => R_bin (x := (.tmp 14)) (y := (.const (.int .i64 1))) rfl (k := .i64) (a := ((k : Nat) : Int)) (b := ((1 : Nat) : Int)) kr kr (i_addn64 (a := k) (b := 1) (by omega)) w) ?_
      clear F; intro a F
      refine T_k F H (ni (k + 1)) ?_
      clear F; intro a F
      refine wpList_nil ?_
      replace H : Hp [xb] w [bk xb #[hv, uv] 28] v := H.pick [1] kr _ rfl
      exact ⟨m, Nat.lt_succ_self m, k + 1, by omega, by rw [rz_false hrz]; exact F.weak _ (subL_of kr), H⟩
    · rcases Nat.eq_zero_or_pos k with h00 | hpos
      · skip
        rw [hrz] at F
        replace F : Fm 75 [] [(14, ni k), (13, ni h.hs.length), (12, sc gv oh h.hs.length h.c), (7, .bool true), (1, sc gv oh h.hs.length h.c), (2, .slice u.ad u.ss.length u.c), (0, pt xb 0), (6, .int .i64 0)] a := F
        refine C_seqK (fun K10 hK10 => ?_)
        refine C_region ?_
        refine T_val F H kr (.bool true) (fun w _ => R_bin (x := (.tmp 14)) (y := (.tmp 13)) rfl (k := .i64) (a := ((k : Nat) : Int)) (b := ((h.hs.length : Nat) : Int)) kr kr (i_lt (by omega)) w) ?_
        clear F; intro a F
        refine wpList_nil ?_
        refine hK10 _ _ ?_
        clear hK10
        try clear K10
        refine C_seqK (fun K11 hK11 => ?_)
        refine C_if F true rfl rfl ?_
        refine wp_skip ?_
        refine hK11 _ _ ?_
        clear hK11
        try clear K11
        refine C_seqK (fun K12 hK12 => ?_)
        refine wp_block ?_
        refine C_seqK (fun K13 hK13 => ?_)
        refine C_region ?_
        refine T_k F H (ni k) ?_
        clear F; intro a F
        refine T_val F H kr (pt gv (oh + (k) * 2)) (fun w _ => R_indexS (k := .i64) (g := gv) (off := oh) (len := h.hs.length) (cap := h.c) (x := (.tmp 12)) (y := (.tmp 14)) rfl Try.underlying31 kr (k) kr (by omega) (sz := 2) kr w) ?_
        clear F; intro a F
        refine T_valK F H kr (.agg (hvC h0).toArray) (fun w hk hl => R_ldA (y := (.tmp 17)) rfl (g := gv) (off := oh + k * 2) kr (hvC h0).toArray (hv_ld (hr0 _ hk) hh0) _ Try.underlying60 rfl kr) ?_
        clear F; intro a F
        refine T_new F H kr (fun ad => pt ad 0) (ce #[.int .u32 0, .slice none 0 0] 60) (fun w => kr) ?_
        clear F H; intro aq14 a v F H
        refine T_k F H (ni k) ?_
        clear F; intro a F
        refine T_set F H kr rfl 0 rfl (hvC h0).toArray (S_row 0 rfl 60 (.tmp 9) (.tmp 18) rfl kr (hvC h0).toArray kr kr kr (hv_one h0)) [⟨true, aq14, .cells (hvC h0).toArray 60 (0, 0)⟩, bk xb #[hv, uv] 28] rfl ?_
        clear F H; intro a v F H
        refine wpList_nil ?_
        refine hK13 _ _ ?_
        clear hK13
        try clear K13
        refine E_region F H (fun β => [(19, .bool true), (20, .bool true), (21, ni k), (22, .bool true), (23, .bool true), (24, undef), (25, undef), (26, undef), (27, undef), (28, undef), (29, undef), (30, undef), (31, undef), (32, undef), (33, .bool true), (34, .bool true), (7, .bool true)]) [19, 20, 21, 22, 23, 24, 25, 26, 27, 28, 29, 30, 31, 32, 33, 34, 7] [] [⟨true, aq14, .cells (hvC h0).toArray 60 (0, 0)⟩, bk xb #[hv, uv] 28] [0, 1] 2 [(0, [7])] kr kr kr (fun β => rfl) trivial ⟨?_, ?_, ?_, ?_, ?_, ?_, ?_, ?_, ?_, ?_, ?_, ?_, ?_, ?_, ?_, ?_, ?_, trivial⟩ ?_
        · exact E_k 75 (fun β => .bool true) 19 2
        · exact E_k 75 (fun β => .bool true) 20 2
        · exact E_k 75 (fun β => ni k) 21 2
        · exact E_v 75 (fun β => .bool true) 22 2 [] (fun β w hk hl hq => R_bin (x := (.tmp 21)) (y := (.const (.int .i64 0))) rfl (k := .i64) (a := ((k : Nat) : Int)) (b := ((0 : Nat) : Int)) kr kr (i_eqd.trans (by rw [decide_eq_true (by omega)])) w)
        · exact E_k 75 (fun β => .bool true) 23 2
        · exact E_skip kq 24 rfl kq kr
        · exact E_skip kq 25 rfl kq kr
        · exact E_skip kq 26 rfl kq kr
        · exact E_skip kq 27 rfl kq kr
        · exact E_skip kq 28 rfl kq kr
        · exact E_skip kq 29 rfl kq kr
        · exact E_skip kq 30 rfl kq kr
        · exact E_skip kq 31 rfl kq kr
        · exact E_skip kq 32 rfl kq kr
        · exact E_k 75 (fun β => .bool true) 33 2
        · exact E_k 75 (fun β => .bool true) 34 2
        · exact E_k 75 (fun β => .bool true) 7 2
        clear F H; intro β a v Q F H
        replace H : Hp [xb] w [⟨true, aq14, .cells (hvC h0).toArray 60 (0, 0)⟩, bk xb #[hv, uv] 28] v := H
        replace F : Fm 75 [] [(7, .bool true), (34, .bool true), (33, .bool true), (32, undef), (31, undef), (30, undef), (29, undef), (28, undef), (27, undef), (26, undef), (25, undef), (24, undef), (23, .bool true), (22, .bool true), (21, ni k), (20, .bool true), (19, .bool true), (8, ni k), (9, pt aq14 0), (18, .agg (hvC h0).toArray), (17, pt gv (oh + (k) * 2)), (16, ni k), (15, .bool true), (14, ni k), (13, ni h.hs.length), (12, sc gv oh h.hs.length h.c), (1, sc gv oh h.hs.length h.c), (2, .slice u.ad u.ss.length u.c), (0, pt xb 0), (6, .int .i64 0)] a := F.weak _ (subL_of kr)
        clear Q
        refine ?_
        refine hK12 _ _ ?_
        clear hK12
        try clear K12
        refine C_region ?_
        refine T_val F H kr (ni (k + 1)) (fun w _ => R_bin (x := (.tmp 14)) (y := (.const (.int .i64 1))) rfl (k := .i64) (a := ((k : Nat) : Int)) (b := ((1 : Nat) : Int)) kr kr (i_addn64 (a := k) (b := 1) (by omega)) w) ?_
        clear F; intro a F
        refine T_k F H (ni (k + 1)) ?_
        clear F; intro a F
        refine wpList_nil ?_
        replace H : Hp [xb] w [bk xb #[hv, uv] 28] v := H.pick [1] kr _ rfl
        exact ⟨m, Nat.lt_succ_self m, k + 1, by omega, by rw [show rz (h.hs.map (·.1)) (k + 1) = true by rw [h00]; rfl]; exact F.weak _ (subL_of kr), H⟩
      · obtain ⟨hm1, hh1⟩ : ∃ hm1, h.hs[k - 1]? = some hm1 := ⟨_, List.getElem?_eq_getElem (show k - 1 < h.hs.length by omega)⟩
        have hk1 : (h.hs.map (·.1)).getD (k - 1) 0 = hm1.1 := by rw [List.getD_eq_getElem?_getD, List.getElem?_map, hh1]; rfl
        rw [hrz] at F
        replace F : Fm 75 [] [(14, ni k), (13, ni h.hs.length), (12, sc gv oh h.hs.length h.c), (7, .bool true), (1, sc gv oh h.hs.length h.c), (2, .slice u.ad u.ss.length u.c), (0, pt xb 0), (6, .int .i64 0)] a := F
        refine C_seqK (fun K15 hK15 => ?_)
        refine C_region ?_
        refine T_val F H kr (.bool true) (fun w _ => R_bin (x := (.tmp 14)) (y := (.tmp 13)) rfl (k := .i64) (a := ((k : Nat) : Int)) (b := ((h.hs.length : Nat) : Int)) kr kr (i_lt (by omega)) w) ?_
        clear F; intro a F
        refine wpList_nil ?_
        refine hK15 _ _ ?_
        clear hK15
        try clear K15
        refine C_seqK (fun K16 hK16 => ?_)
        refine C_if F true rfl rfl ?_
        refine wp_skip ?_
        refine hK16 _ _ ?_
        clear hK16
        try clear K16
        refine C_seqK (fun K17 hK17 => ?_)
        refine wp_block ?_
        refine C_seqK (fun K18 hK18 => ?_)
        refine C_region ?_
        refine T_k F H (ni k) ?_
        clear F; intro a F
        refine T_val F H kr (pt gv (oh + (k) * 2)) (fun w _ => R_indexS (k := .i64) (g := gv) (off := oh) (len := h.hs.length) (cap := h.c) (x := (.tmp 12)) (y := (.tmp 14)) rfl Try.underlying31 kr (k) kr (by omega) (sz := 2) kr w) ?_
        clear F; intro a F
        refine T_valK F H kr (.agg (hvC h0).toArray) (fun w hk hl => R_ldA (y := (.tmp 17)) rfl (g := gv) (off := oh + k * 2) kr (hvC h0).toArray (hv_ld (hr0 _ hk) hh0) _ Try.underlying60 rfl kr) ?_
        clear F; intro a F
        refine T_new F H kr (fun ad => pt ad 0) (ce #[.int .u32 0, .slice none 0 0] 60) (fun w => kr) ?_
        clear F H; intro aq19 a v F H
        refine T_k F H (ni k) ?_
        clear F; intro a F
        refine T_set F H kr rfl 0 rfl (hvC h0).toArray (S_row 0 rfl 60 (.tmp 9) (.tmp 18) rfl kr (hvC h0).toArray kr kr kr (hv_one h0)) [⟨true, aq19, .cells (hvC h0).toArray 60 (0, 0)⟩, bk xb #[hv, uv] 28] rfl ?_
        clear F H; intro a v F H
        refine wpList_nil ?_
        refine hK18 _ _ ?_
        clear hK18
        try clear K18
        refine E_region F H (fun β => [(19, .bool true), (20, .bool true), (21, ni k), (22, .bool false), (23, .bool false), (24, sc gv oh h.hs.length h.c), (25, ni k), (26, ni (k - 1)), (27, pt gv (oh + ((k - 1)) * 2)), (28, pt gv ((oh + ((k - 1)) * 2) + 0)), (29, nw hm1.1), (30, pt aq19 0), (31, nw h0.1), (32, .bool (decide (hm1.1 < h0.1))), (33, .bool (decide (hm1.1 < h0.1))), (34, .bool (decide (hm1.1 < h0.1))), (7, .bool (decide (hm1.1 < h0.1)))]) [19, 20, 21, 22, 23, 24, 25, 26, 27, 28, 29, 30, 31, 32, 33, 34, 7] [] [⟨true, aq19, .cells (hvC h0).toArray 60 (0, 0)⟩, bk xb #[hv, uv] 28] [0, 1] 2 [(0, [7])] kr kr kr (fun β => rfl) trivial ⟨?_, ?_, ?_, ?_, ?_, ?_, ?_, ?_, ?_, ?_, ?_, ?_, ?_, ?_, ?_, ?_, ?_, trivial⟩ ?_
        · exact E_k 75 (fun β => .bool true) 19 2
        · exact E_k 75 (fun β => .bool true) 20 2
        · exact E_k 75 (fun β => ni k) 21 2
        · exact E_v 75 (fun β => .bool false) 22 2 [] (fun β w hk hl hq => R_bin (x := (.tmp 21)) (y := (.const (.int .i64 0))) rfl (k := .i64) (a := ((k : Nat) : Int)) (b := ((0 : Nat) : Int)) kr kr (i_eqd.trans (by rw [decide_eq_false (by omega)])) w)
        · exact E_k 75 (fun β => .bool false) 23 2
        · exact E_k 75 (fun β => sc gv oh h.hs.length h.c) 24 2
        · exact E_k 75 (fun β => ni k) 25 2
        · exact E_v 75 (fun β => ni (k - 1)) 26 2 [] (fun β w hk hl hq => R_bin (x := (.tmp 25)) (y := (.const (.int .i64 1))) rfl (k := .i64) (a := ((k : Nat) : Int)) (b := ((1 : Nat) : Int)) kr kr (i_subn64 (a := k) (b := 1) (by omega) (by omega)) w)
        · exact E_v 75 (fun β => pt gv (oh + ((k - 1)) * 2)) 27 2 [] (fun β w hk hl hq => R_indexS (k := .i64) (g := gv) (off := oh) (len := h.hs.length) (cap := h.c) (x := (.tmp 24)) (y := (.tmp 26)) rfl Try.underlying31 kr ((k - 1)) kr (by omega) (sz := 2) kr w)
        · exact E_k 75 (fun β => pt gv ((oh + ((k - 1)) * 2) + 0)) 28 2
        · exact E_v 75 (fun β => nw hm1.1) 29 2 [] (fun β w hk hl hq => R_ld (y := (.tmp 28)) rfl (g := gv) (off := ((oh + ((k - 1)) * 2) + 0)) kr (hv_ld (hr0 _ hk) hh1 0 _ rfl) _ Try.underlying29 rfl)
        · exact E_k 75 (fun β => pt aq19 0) 30 2
        · exact E_v 75 (fun β => nw h0.1) 31 2 [] (fun β w hk hl hq => R_cellH hl (own := true) (g := aq19) (all := (hvC h0).toArray) (t := 60) (fr := (0, 0)) 0 kr 29 (.tmp 30) rfl 0 kr (nw h0.1) kr _ Try.underlying29 rfl)
        · exact E_v 75 (fun β => .bool (decide (hm1.1 < h0.1))) 32 2 [] (fun β w hk hl hq => R_bin (x := (.tmp 29)) (y := (.tmp 31)) rfl (k := .u32) (a := ((hm1.1 : Nat) : Int)) (b := ((h0.1 : Nat) : Int)) kr kr i_lssd w)
        · exact E_k 75 (fun β => .bool (decide (hm1.1 < h0.1))) 33 2
        · exact E_k 75 (fun β => .bool (decide (hm1.1 < h0.1))) 34 2
        · exact E_k 75 (fun β => .bool (decide (hm1.1 < h0.1))) 7 2
        clear F H; intro β a v Q F H
        replace H : Hp [xb] w [⟨true, aq19, .cells (hvC h0).toArray 60 (0, 0)⟩, bk xb #[hv, uv] 28] v := H
        replace F : Fm 75 [] [(7, .bool (decide (hm1.1 < h0.1))), (34, .bool (decide (hm1.1 < h0.1))), (33, .bool (decide (hm1.1 < h0.1))), (32, .bool (decide (hm1.1 < h0.1))), (31, nw h0.1), (30, pt aq19 0), (29, nw hm1.1), (28, pt gv ((oh + ((k - 1)) * 2) + 0)), (27, pt gv (oh + ((k - 1)) * 2)), (26, ni (k - 1)), (25, ni k), (24, sc gv oh h.hs.length h.c), (23, .bool false), (22, .bool false), (21, ni k), (20, .bool true), (19, .bool true), (8, ni k), (9, pt aq19 0), (18, .agg (hvC h0).toArray), (17, pt gv (oh + (k) * 2)), (16, ni k), (15, .bool true), (14, ni k), (13, ni h.hs.length), (12, sc gv oh h.hs.length h.c), (1, sc gv oh h.hs.length h.c), (2, .slice u.ad u.ss.length u.c), (0, pt xb 0), (6, .int .i64 0)] a := F.weak _ (subL_of kr)
        clear Q
        refine ?_
        refine hK17 _ _ ?_
        clear hK17
        try clear K17
        refine C_region ?_
        refine T_val F H kr (ni (k + 1)) (fun w _ => R_bin (x := (.tmp 14)) (y := (.const (.int .i64 1))) rfl (k := .i64) (a := ((k : Nat) : Int)) (b := ((1 : Nat) : Int)) kr kr (i_addn64 (a := k) (b := 1) (by omega)) w) ?_
        clear F; intro a F
        refine T_k F H (ni (k + 1)) ?_
        clear F; intro a F
        refine wpList_nil ?_
        replace H : Hp [xb] w [bk xb #[hv, uv] 28] v := H.pick [1] kr _ rfl
        exact ⟨m, Nat.lt_succ_self m, k + 1, by omega, by rw [rz_next hrz hpos, hk0, hk1]; exact F.weak _ (subL_of kr), H⟩
  have hkt : k = h.hs.length := by omega
  rw [hkt, hz] at F
  replace F : Fm 75 [] [(14, ni h.hs.length), (13, ni h.hs.length), (12, .slice ha h.hs.length h.c), (7, .bool true), (1, .slice ha h.hs.length h.c), (2, .slice u.ad u.ss.length u.c), (0, pt xb 0), (6, .int .i64 0)] a := F
  refine C_seqK (fun K20 hK20 => ?_)
  refine C_region ?_
  refine T_val F H kr (.bool false) (fun w _ => R_bin (x := (.tmp 14)) (y := (.tmp 13)) rfl (k := .i64) (a := ((h.hs.length : Nat) : Int)) (b := ((h.hs.length : Nat) : Int)) kr kr (i_nlt (by omega)) w) ?_
  clear F; intro a F
  refine wpList_nil ?_
  refine hK20 _ _ ?_
  clear hK20
  try clear K20
  refine C_seqK (fun K21 hK21 => ?_)
  refine C_if F false rfl rfl ?_
  refine wp_exit ?_
  refine hK3 _ _ ?_
  clear hK3
  try clear K3
  refine C_seqK (fun K22 hK22 => ?_)
  refine wp_block ?_
  refine C_seqK (fun K23 hK23 => ?_)
  refine C_region ?_
  refine T_k F H (.bool true) ?_
  clear F; intro a F
  refine T_k F H (.bool false) ?_
  clear F; intro a F
  refine T_k F H (.bool false) ?_
  clear F; intro a F
  refine T_k F H (.slice ha h.hs.length h.c) ?_
  clear F; intro a F
  refine T_k F H (ni h.hs.length) ?_
  clear F; intro a F
  refine T_val F H kr (.bool false) (fun w _ => R_bin (x := (.tmp 41)) (y := (.const (.int .i64 4))) rfl (k := .i64) (a := ((h.hs.length : Nat) : Int)) (b := ((4 : Nat) : Int)) kr kr (i_geqd.trans (by rw [decide_eq_false (by omega)])) w) ?_
  clear F; intro a F
  refine T_k F H (.bool false) ?_
  clear F; intro a F
  refine T_k F H (.bool false) ?_
  clear F; intro a F
  refine wpList_nil ?_
  refine hK23 _ _ ?_
  clear hK23
  try clear K23
  refine C_if F false rfl rfl ?_
  refine C_seqK (fun K24 hK24 => ?_)
  refine C_region ?_
  refine T_k F H (.slice u.ad u.ss.length u.c) ?_
  clear F; intro a F
  refine T_k F H (ni u.ss.length) ?_
  clear F; intro a F
  refine T_val F H kr (.bool false) (fun w _ => R_bin (x := (.tmp 46)) (y := (.const (.int .i64 8))) rfl (k := .i64) (a := ((u.ss.length : Nat) : Int)) (b := ((8 : Nat) : Int)) kr kr (i_gtrd.trans (by rw [decide_eq_false (by omega)])) w) ?_
  clear F; intro a F
  refine T_k F H (.bool false) ?_
  clear F; intro a F
  refine wpList_nil ?_
  refine hK24 _ _ ?_
  clear hK24
  try clear K24
  refine C_if F false rfl rfl ?_
  refine wp_skip ?_
  refine hK22 _ _ ?_
  clear hK22
  try clear K22
  refine C_seqK (fun K25 hK25 => ?_)
  refine C_region ?_
  refine T_k F H (pt xb 0) ?_
  clear F; intro a F
  refine T_new F H kr (fun ad => .map (some ad)) (mpO [] 0) (fun w => kr) ?_
  clear F H; intro mq26 a v F H
  generalize mq26 = mb at F H
  refine T_k F H (pt xb 0) ?_
  clear F; intro a F
  refine T_k F H (pt xb 0) ?_
  clear F; intro a F
  refine T_set F H kr rfl 1 rfl _ (S_cell 1 rfl 25 (.tmp 51) (.tmp 49) rfl 0 kr (.map (some mb)) kr rfl (Nat.le_of_ble_eq_true rfl) _ Try.underlying25 rfl kr) [⟨true, mb, mpO [] 0⟩, bk xb #[.map (some mb), uv] 28] rfl ?_
  clear F H; intro a v F H
  refine wpList_nil ?_
  refine hK25 _ _ ?_
  clear hK25
  try clear K25
  refine C_seqK (fun K27 hK27 => ?_)
  refine C_seqK (fun K28 hK28 => ?_)
  refine C_region ?_
  refine T_k F H (.slice ha h.hs.length h.c) ?_
  clear F; intro a F
  refine T_k F H (ni h.hs.length) ?_
  clear F; intro a F
  refine T_k F H (ni 0) ?_
  clear F; intro a F
  refine wpList_nil ?_
  refine hK28 _ _ ?_
  clear hK28
  try clear K28
  replace F : Fm 75 [] [(54, ni 0), (53, ni h.hs.length), (52, .slice ha h.hs.length h.c), (2, .slice u.ad u.ss.length u.c), (0, pt xb 0)] a := F.weak _ (subL_of kr)
  replace H : Hp [xb] w [⟨true, mb, mpO [] 0⟩, bk xb #[.map (some mb), uv] 28] v := H.pick [0, 1] kr _ rfl
  refine wp_block ?_
  refine C_loop (fun m a v => ∃ (k : Nat) (M : List MEn), k + m = h.hs.length ∧ (MOK M k ∧ M.map (fun m => (m.k, m.c.l)) = (h.hs.take k).map dS) ∧ Fm 75 [] [(54, ni k), (53, ni h.hs.length), (52, .slice ha h.hs.length h.c), (2, .slice u.ad u.ss.length u.c), (0, pt xb 0)] a ∧ Hp [xb] w (⟨true, mb, mpO M k⟩ :: (bk xb #[.map (some mb), uv] 28) :: menB M) v) h.hs.length ⟨0, [], Nat.zero_add _, ⟨⟨List.nodup_nil, List.nodup_nil, (fun m hm => by cases hm), fun m hm => by cases hm⟩, rfl⟩, F, H⟩ ?_
  clear F H
  intro m a v ⟨k, M, hk, ⟨hM, hMD⟩, F, H⟩
  rcases m with _ | m
  rotate_left
  · obtain ⟨h0, hh0⟩ : ∃ h0, h.hs[k]? = some h0 := ⟨_, List.getElem?_eq_getElem (show k < h.hs.length by omega)⟩
    obtain ⟨gv, oh, e1, hr0⟩ := hat (fun e => by rw [e] at hh0; cases hh0)
    subst e1
    have hmem := List.mem_of_getElem? hh0
    have hb0 := heach h0 hmem
    have hlt : ∀ m ∈ M, m.k < h0.1 := load_lt hz hMD hh0
    have hq : mfi h0.1 M 0 = none := mfi_none fun m hm e => by have := hlt m hm; omega
    have hMD2 : ∀ c : Cl, c.l = h0.2.l → (M ++ [(⟨h0.1, c, k⟩ : MEn)]).map (fun m : MEn => (m.k, m.c.l)) = (h.hs.take (k + 1)).map dS := fun c hc => by
      rw [List.map_append, hMD, List.take_add_one, hh0, List.map_append]
      show _ ++ [(h0.1, c.l)] = _ ++ [(h0.1, h0.2.l)]
      rw [hc]
    have hMOK : ∀ c : Cl, c.ok → MOK (M ++ [⟨h0.1, c, k⟩]) (k + 1) := fun c hc => hM.snoc hc fun m hm => by have := hlt m hm; omega
    obtain ⟨ix0, sad, sc_, l⟩ := h0
    cases sad
    · skip
      have hbr := hb0 w (Kept.refl _ _)
      have h1 : l = [] := hbr.empty rfl
      have h2 : sc_ = 0 := hbr.nil rfl
      subst h1 h2
      replace F : Fm 75 [] [(54, ni k), (53, ni h.hs.length), (52, sc gv oh h.hs.length h.c), (2, .slice u.ad u.ss.length u.c), (0, pt xb 0)] a := F
      replace H : Hp [xb] w (⟨true, mb, mpO M k⟩ :: (bk xb #[.map (some mb), uv] 28) :: menB M) v := H
      refine C_seqK (fun K29 hK29 => ?_)
      refine C_region ?_
      refine T_val F H kr (.bool true) (fun w _ => R_bin (x := (.tmp 54)) (y := (.tmp 53)) rfl (k := .i64) (a := ((k : Nat) : Int)) (b := ((h.hs.length : Nat) : Int)) kr kr (i_lt (by omega)) w) ?_
      clear F; intro a F
      refine wpList_nil ?_
      refine hK29 _ _ ?_
      clear hK29
      try clear K29
      refine C_seqK (fun K30 hK30 => ?_)
      refine C_if F true rfl rfl ?_
      refine wp_skip ?_
      refine hK30 _ _ ?_
      clear hK30
      try clear K30
      refine C_seqK (fun K31 hK31 => ?_)
      refine wp_block ?_
      refine C_seqK (fun K32 hK32 => ?_)
      refine C_region ?_
      refine T_val F H kr (pt gv (oh + (k) * 2)) (fun w _ => R_indexS (k := .i64) (g := gv) (off := oh) (len := h.hs.length) (cap := h.c) (x := (.tmp 52)) (y := (.tmp 54)) rfl Try.underlying31 kr (k) kr (by omega) (sz := 2) kr w) ?_
      clear F; intro a F
      refine T_valK F H kr (.agg (hvC (ix0, (⟨none, 0, []⟩ : Sv))).toArray) (fun w hk hl => R_ldA (y := (.tmp 56)) rfl (g := gv) (off := oh + k * 2) kr (hvC (ix0, (⟨none, 0, []⟩ : Sv))).toArray (hv_ld (hr0 _ hk) hh0) _ Try.underlying60 rfl kr) ?_
      clear F; intro a F
      refine T_new F H kr (fun ad => pt ad 0) (ce #[.int .u32 0, .slice none 0 0] 60) (fun w => kr) ?_
      clear F H; intro aq33 a v F H
      refine T_set F H kr rfl 0 rfl (hvC (ix0, (⟨none, 0, []⟩ : Sv))).toArray (S_row 0 rfl 60 (.tmp 11) (.tmp 57) rfl kr (hvC (ix0, (⟨none, 0, []⟩ : Sv))).toArray kr kr kr (hv_one (ix0, (⟨none, 0, []⟩ : Sv)))) (⟨true, aq33, .cells (hvC (ix0, (⟨none, 0, []⟩ : Sv))).toArray 60 (0, 0)⟩ :: ⟨true, mb, mpO M k⟩ :: (bk xb #[.map (some mb), uv] 28) :: menB M) rfl ?_
      clear F H; intro a v F H
      refine wpList_nil ?_
      refine hK32 _ _ ?_
      clear hK32
      try clear K32
      refine E_regionH (A := [⟨true, aq33, .cells (hvC (ix0, (⟨none, 0, []⟩ : Sv))).toArray 60 (0, 0)⟩, ⟨true, mb, mpO M k⟩, bk xb #[.map (some mb), uv] 28]) (R := menB M) F H (fun β => [(58, pt xb 0), (59, pt xb 0), (60, pt xb 0), (61, .map (some mb)), (62, pt aq33 0), (63, nw ix0), (64, pt aq33 1), (65, .slice none 0 0), (66, .slice none 0 0)]) [58, 59, 60, 61, 62, 63, 64, 65, 66] [⟨none, none, mb, [], fun q_ => mpO M k, gT, [⟨9, [], fun q_ => mpO (mset ix0 (⟨true, 0, 0, [], []⟩ : Cl) k M) (if (mfi ix0 M 0).isSome then k else k + 1), gT⟩]⟩] [⟨true, aq33, .cells (hvC (ix0, (⟨none, 0, []⟩ : Sv))).toArray 60 (0, 0)⟩, bk xb #[.map (some mb), uv] 28] [1, 0, 2] 2 [] kr kr kr kr (fun β => rfl) ⟨fun _ _ => trivial, trivial⟩ ⟨?_, ?_, ?_, ?_, ?_, ?_, ?_, ?_, ?_, ?_, trivial⟩ ?_
      · exact E_k 75 (fun β => pt xb 0) 58 2
      · exact E_k 75 (fun β => pt xb 0) 59 2
      · exact E_k 75 (fun β => pt xb 0) 60 2
      · exact E_v 75 (fun β => .map (some mb)) 61 2 [] (fun β w hk hl hq => R_cellH hl (own := true) (g := xb) (all := #[.map (some mb), uv]) (t := 28) (fr := (0, 0)) 1 kr 25 (.tmp 60) rfl 0 kr (.map (some mb)) kr _ Try.underlying25 rfl)
      · exact E_k 75 (fun β => pt aq33 0) 62 2
      · exact E_v 75 (fun β => nw ix0) 63 2 [] (fun β w hk hl hq => R_cellH hl (own := true) (g := aq33) (all := (hvC (ix0, (⟨none, 0, []⟩ : Sv))).toArray) (t := 60) (fr := (0, 0)) 0 kr 29 (.tmp 62) rfl 0 kr (nw ix0) kr _ Try.underlying29 rfl)
      · exact E_k 75 (fun β => pt aq33 1) 64 2
      · exact E_v 75 (fun β => .slice none 0 0) 65 2 [] (fun β w hk hl hq => R_cellH hl (own := true) (g := aq33) (all := (hvC (ix0, (⟨none, 0, []⟩ : Sv))).toArray) (t := 60) (fr := (0, 0)) 0 kr 30 (.tmp 64) rfl 1 kr (.slice none 0 0) kr _ Try.underlying30 rfl)
      · exact E_call 75 kq (fun β => .slice none 0 0) 66 rfl kq 29 (fun β => #[.slice none 0 0]) (fun β w => kr) 2 [] kr rfl (fun β w hk hl hq => clone_nil _)
      · exact E_store 75 kq rfl 2 [] 0 0 _ _ rfl rfl kr rfl (fun _ => trivial) (fun β w hk hl hq hm => let ⟨w', h1, h2, h3⟩ := P_update (x := (.tmp 61)) (y := (.tmp 63)) (z := (.tmp 66)) rfl Try.underlying25 Try.underlying29 (k := ix0) (M := M) (clock := k) (⟨true, 0, 0, [], []⟩ : Cl) kr kr kr hm; ⟨w', h1, h2, h3⟩)
      clear F H; intro β a v Q F H
      replace H : Hp [xb] w (⟨true, mb, mpO (mset ix0 (⟨true, 0, 0, [], []⟩ : Cl) k M) (if (mfi ix0 M 0).isSome then k else k + 1)⟩ :: ⟨true, aq33, .cells (hvC (ix0, (⟨none, 0, []⟩ : Sv))).toArray 60 (0, 0)⟩ :: (bk xb #[.map (some mb), uv] 28) :: menB M) v := H
      replace F : Fm 75 [] [(66, .slice none 0 0), (65, .slice none 0 0), (64, pt aq33 1), (63, nw ix0), (62, pt aq33 0), (61, .map (some mb)), (60, pt xb 0), (59, pt xb 0), (58, pt xb 0), (11, pt aq33 0), (57, .agg (hvC (ix0, (⟨none, 0, []⟩ : Sv))).toArray), (56, pt gv (oh + (k) * 2)), (55, .bool true), (54, ni k), (53, ni h.hs.length), (52, sc gv oh h.hs.length h.c), (2, .slice u.ad u.ss.length u.c), (0, pt xb 0)] a := F.weak _ (subL_of kr)
      clear Q
      refine ?_
      refine hK31 _ _ ?_
      clear hK31
      try clear K31
      refine C_region ?_
      refine T_val F H kr (ni (k + 1)) (fun w _ => R_bin (x := (.tmp 54)) (y := (.const (.int .i64 1))) rfl (k := .i64) (a := ((k : Nat) : Int)) (b := ((1 : Nat) : Int)) kr kr (i_addn64 (a := k) (b := 1) (by omega)) w) ?_
      clear F; intro a F
      refine T_k F H (ni (k + 1)) ?_
      clear F; intro a F
      refine wpList_nil ?_
      replace H : Hp [xb] w (⟨true, mb, mpO (mset ix0 (⟨true, 0, 0, [], []⟩ : Cl) k M) (if (mfi ix0 M 0).isSome then k else k + 1)⟩ :: (bk xb #[.map (some mb), uv] 28) :: menB M) v := Hp.pickT (A := [⟨true, mb, mpO (mset ix0 (⟨true, 0, 0, [], []⟩ : Cl) k M) (if (mfi ix0 M 0).isSome then k else k + 1)⟩, ⟨true, aq33, .cells (hvC (ix0, (⟨none, 0, []⟩ : Sv))).toArray 60 (0, 0)⟩, bk xb #[.map (some mb), uv] 28]) (R := menB M) H [0, 2] kr _ rfl
      rw [hq, mset_none ix0 (⟨true, 0, 0, [], []⟩ : Cl) k hq] at H
      refine ⟨m, Nat.lt_succ_self m, k + 1, M ++ [⟨ix0, (⟨true, 0, 0, [], []⟩ : Cl), k⟩], by omega, ⟨hMOK (⟨true, 0, 0, [], []⟩ : Cl) ⟨Nat.zero_le _, fun _ => rfl, fun e => by cases e⟩, hMD2 (⟨true, 0, 0, [], []⟩ : Cl) rfl⟩, F.weak _ (subL_of kr), ?_⟩
      replace H : Hp [xb] w ([⟨true, mb, mpO (M ++ [⟨ix0, (⟨true, 0, 0, [], []⟩ : Cl), k⟩]) (k + 1)⟩, bk xb #[.map (some mb), uv] 28] ++ (Cl.blks (⟨true, 0, 0, [], []⟩ : Cl) ++ menB M)) v := H
      rw [menB_app, show menB [(⟨ix0, (⟨true, 0, 0, [], []⟩ : Cl), k⟩ : MEn)] = Cl.blks (⟨true, 0, 0, [], []⟩ : Cl) from List.append_nil _]
      exact H.perm (List.Perm.append_left [⟨true, mb, mpO (M ++ [⟨ix0, (⟨true, 0, 0, [], []⟩ : Cl), k⟩]) (k + 1)⟩, bk xb #[.map (some mb), uv] 28] (List.perm_append_comm (l₁ := Cl.blks (⟨true, 0, 0, [], []⟩ : Cl)) (l₂ := menB M)))
    · rename_i bq
      have hbr := hb0 w (Kept.refl _ _)
      replace F : Fm 75 [] [(54, ni k), (53, ni h.hs.length), (52, sc gv oh h.hs.length h.c), (2, .slice u.ad u.ss.length u.c), (0, pt xb 0)] a := F
      replace H : Hp [xb] w (⟨true, mb, mpO M k⟩ :: (bk xb #[.map (some mb), uv] 28) :: menB M) v := H
      refine C_seqK (fun K34 hK34 => ?_)
      refine C_region ?_
      refine T_val F H kr (.bool true) (fun w _ => R_bin (x := (.tmp 54)) (y := (.tmp 53)) rfl (k := .i64) (a := ((k : Nat) : Int)) (b := ((h.hs.length : Nat) : Int)) kr kr (i_lt (by omega)) w) ?_
      clear F; intro a F
      refine wpList_nil ?_
      refine hK34 _ _ ?_
      clear hK34
      try clear K34
      refine C_seqK (fun K35 hK35 => ?_)
      refine C_if F true rfl rfl ?_
      refine wp_skip ?_
      refine hK35 _ _ ?_
      clear hK35
      try clear K35
      refine C_seqK (fun K36 hK36 => ?_)
      refine wp_block ?_
      refine C_seqK (fun K37 hK37 => ?_)
      refine C_region ?_
      refine T_val F H kr (pt gv (oh + (k) * 2)) (fun w _ => R_indexS (k := .i64) (g := gv) (off := oh) (len := h.hs.length) (cap := h.c) (x := (.tmp 52)) (y := (.tmp 54)) rfl Try.underlying31 kr (k) kr (by omega) (sz := 2) kr w) ?_
      clear F; intro a F
      refine T_valK F H kr (.agg (hvC (ix0, (⟨some bq, sc_, l⟩ : Sv))).toArray) (fun w hk hl => R_ldA (y := (.tmp 56)) rfl (g := gv) (off := oh + k * 2) kr (hvC (ix0, (⟨some bq, sc_, l⟩ : Sv))).toArray (hv_ld (hr0 _ hk) hh0) _ Try.underlying60 rfl kr) ?_
      clear F; intro a F
      refine T_new F H kr (fun ad => pt ad 0) (ce #[.int .u32 0, .slice none 0 0] 60) (fun w => kr) ?_
      clear F H; intro aq38 a v F H
      refine T_set F H kr rfl 0 rfl (hvC (ix0, (⟨some bq, sc_, l⟩ : Sv))).toArray (S_row 0 rfl 60 (.tmp 11) (.tmp 57) rfl kr (hvC (ix0, (⟨some bq, sc_, l⟩ : Sv))).toArray kr kr kr (hv_one (ix0, (⟨some bq, sc_, l⟩ : Sv)))) (⟨true, aq38, .cells (hvC (ix0, (⟨some bq, sc_, l⟩ : Sv))).toArray 60 (0, 0)⟩ :: ⟨true, mb, mpO M k⟩ :: (bk xb #[.map (some mb), uv] 28) :: menB M) rfl ?_
      clear F H; intro a v F H
      refine wpList_nil ?_
      refine hK37 _ _ ?_
      clear hK37
      try clear K37
      refine E_regionH (A := [⟨true, aq38, .cells (hvC (ix0, (⟨some bq, sc_, l⟩ : Sv))).toArray 60 (0, 0)⟩, ⟨true, mb, mpO M k⟩, bk xb #[.map (some mb), uv] 28]) (R := menB M) F H (fun β => [(58, pt xb 0), (59, pt xb 0), (60, pt xb 0), (61, .map (some mb)), (62, pt aq38 0), (63, nw ix0), (64, pt aq38 1), (65, .slice (some bq) l.length sc_), (66, sc ((β 8).g) 0 l.length (β 8).cap)]) [58, 59, 60, 61, 62, 63, 64, 65, 66] [⟨some 8, none, 0, [8], fun q_ => ce (sl (oct (l)) (gh q_ 0).rest) 5, fun q_ => Own (oct (l)) (gh q_ 0).rest (l.length) (gh q_ 0).cap 1, []⟩,
        ⟨none, none, mb, [], fun q_ => mpO M k, gT, [⟨9, [8], fun q_ => mpO (mset ix0 (⟨false, (gh q_ 0).g, (gh q_ 0).cap, (gh q_ 0).rest, l⟩ : Cl) k M) (if (mfi ix0 M 0).isSome then k else k + 1), gT⟩]⟩] [⟨true, aq38, .cells (hvC (ix0, (⟨some bq, sc_, l⟩ : Sv))).toArray 60 (0, 0)⟩, bk xb #[.map (some mb), uv] 28] [1, 0, 2] 2 [] kr kr kr kr (fun β => rfl) ⟨fun h _ => Bool.noConfusion h, ⟨fun _ _ => trivial, trivial⟩⟩ ⟨?_, ?_, ?_, ?_, ?_, ?_, ?_, ?_, ?_, ?_, trivial⟩ ?_
      · exact E_k 75 (fun β => pt xb 0) 58 2
      · exact E_k 75 (fun β => pt xb 0) 59 2
      · exact E_k 75 (fun β => pt xb 0) 60 2
      · exact E_v 75 (fun β => .map (some mb)) 61 2 [] (fun β w hk hl hq => R_cellH hl (own := true) (g := xb) (all := #[.map (some mb), uv]) (t := 28) (fr := (0, 0)) 1 kr 25 (.tmp 60) rfl 0 kr (.map (some mb)) kr _ Try.underlying25 rfl)
      · exact E_k 75 (fun β => pt aq38 0) 62 2
      · exact E_v 75 (fun β => nw ix0) 63 2 [] (fun β w hk hl hq => R_cellH hl (own := true) (g := aq38) (all := (hvC (ix0, (⟨some bq, sc_, l⟩ : Sv))).toArray) (t := 60) (fr := (0, 0)) 0 kr 29 (.tmp 62) rfl 0 kr (nw ix0) kr _ Try.underlying29 rfl)
      · exact E_k 75 (fun β => pt aq38 1) 64 2
      · exact E_v 75 (fun β => .slice (some bq) l.length sc_) 65 2 [] (fun β w hk hl hq => R_cellH hl (own := true) (g := aq38) (all := (hvC (ix0, (⟨some bq, sc_, l⟩ : Sv))).toArray) (t := 60) (fr := (0, 0)) 0 kr 30 (.tmp 64) rfl 1 kr (.slice (some bq) l.length sc_) kr _ Try.underlying30 rfl)
      · exact E_callS 75 kq (fun β => sc ((β 8).g) 0 l.length (β 8).cap) 66 rfl kq 2 (fun β r => offAt2_of kr kr) 29 (fun β => #[.slice (some bq) l.length sc_]) (fun β w => kr) 2 [] 0 _ rfl kr kr rfl (fun β w hk hl hq => clone_some bq l.length sc_ l rfl hbr.big _ ((hb0 _ hk).rds rfl))
      · exact E_store 75 kq rfl 2 [] 1 0 _ _ rfl rfl kr rfl (fun _ => trivial) (fun β w hk hl hq hm => let ⟨w', h1, h2, h3⟩ := P_update (x := (.tmp 61)) (y := (.tmp 63)) (z := (.tmp 66)) rfl Try.underlying25 Try.underlying29 (k := ix0) (M := M) (clock := k) (⟨false, (β 8).g, (β 8).cap, (β 8).rest, l⟩ : Cl) kr kr kr hm; ⟨w', h1, h2, h3⟩)
      clear F H; intro β a v Q F H
      replace H : Hp [xb] w ((bk ((β 8).g) (sl (oct (l)) (β 8).rest) 5) :: ⟨true, mb, mpO (mset ix0 (⟨false, (β 8).g, (β 8).cap, (β 8).rest, l⟩ : Cl) k M) (if (mfi ix0 M 0).isSome then k else k + 1)⟩ :: ⟨true, aq38, .cells (hvC (ix0, (⟨some bq, sc_, l⟩ : Sv))).toArray 60 (0, 0)⟩ :: (bk xb #[.map (some mb), uv] 28) :: menB M) v := H
      replace F : Fm 75 [] [(66, sc ((β 8).g) 0 l.length (β 8).cap), (65, .slice (some bq) l.length sc_), (64, pt aq38 1), (63, nw ix0), (62, pt aq38 0), (61, .map (some mb)), (60, pt xb 0), (59, pt xb 0), (58, pt xb 0), (11, pt aq38 0), (57, .agg (hvC (ix0, (⟨some bq, sc_, l⟩ : Sv))).toArray), (56, pt gv (oh + (k) * 2)), (55, .bool true), (54, ni k), (53, ni h.hs.length), (52, sc gv oh h.hs.length h.c), (2, .slice u.ad u.ss.length u.c), (0, pt xb 0)] a := F.weak _ (subL_of kr)
      have Qh39_0 : Own (oct (l)) (β 8).rest (l.length) (β 8).cap 1 := Q.1
      clear Q
      generalize β 8 = rq39 at F H Qh39_0
      skip
      refine ?_
      refine hK36 _ _ ?_
      clear hK36
      try clear K36
      refine C_region ?_
      refine T_val F H kr (ni (k + 1)) (fun w _ => R_bin (x := (.tmp 54)) (y := (.const (.int .i64 1))) rfl (k := .i64) (a := ((k : Nat) : Int)) (b := ((1 : Nat) : Int)) kr kr (i_addn64 (a := k) (b := 1) (by omega)) w) ?_
      clear F; intro a F
      refine T_k F H (ni (k + 1)) ?_
      clear F; intro a F
      refine wpList_nil ?_
      replace H : Hp [xb] w (⟨true, mb, mpO (mset ix0 (⟨false, rq39.g, rq39.cap, rq39.rest, l⟩ : Cl) k M) (if (mfi ix0 M 0).isSome then k else k + 1)⟩ :: (bk xb #[.map (some mb), uv] 28) :: (bk rq39.g (sl (oct (l)) rq39.rest) 5) :: menB M) v := Hp.pickT (A := [bk rq39.g (sl (oct (l)) rq39.rest) 5, ⟨true, mb, mpO (mset ix0 (⟨false, rq39.g, rq39.cap, rq39.rest, l⟩ : Cl) k M) (if (mfi ix0 M 0).isSome then k else k + 1)⟩, ⟨true, aq38, .cells (hvC (ix0, (⟨some bq, sc_, l⟩ : Sv))).toArray 60 (0, 0)⟩, bk xb #[.map (some mb), uv] 28]) (R := menB M) H [1, 3, 0] kr _ rfl
      rw [hq, mset_none ix0 (⟨false, rq39.g, rq39.cap, rq39.rest, l⟩ : Cl) k hq] at H
      refine ⟨m, Nat.lt_succ_self m, k + 1, M ++ [⟨ix0, (⟨false, rq39.g, rq39.cap, rq39.rest, l⟩ : Cl), k⟩], by omega, ⟨hMOK (⟨false, rq39.g, rq39.cap, rq39.rest, l⟩ : Cl) ⟨hbr.big, (fun e => by cases e), fun _ => Qh39_0⟩, hMD2 (⟨false, rq39.g, rq39.cap, rq39.rest, l⟩ : Cl) rfl⟩, F.weak _ (subL_of kr), ?_⟩
      replace H : Hp [xb] w ([⟨true, mb, mpO (M ++ [⟨ix0, (⟨false, rq39.g, rq39.cap, rq39.rest, l⟩ : Cl), k⟩]) (k + 1)⟩, bk xb #[.map (some mb), uv] 28] ++ (Cl.blks (⟨false, rq39.g, rq39.cap, rq39.rest, l⟩ : Cl) ++ menB M)) v := H
      rw [menB_app, show menB [(⟨ix0, (⟨false, rq39.g, rq39.cap, rq39.rest, l⟩ : Cl), k⟩ : MEn)] = Cl.blks (⟨false, rq39.g, rq39.cap, rq39.rest, l⟩ : Cl) from List.append_nil _]
      exact H.perm (List.Perm.append_left [⟨true, mb, mpO (M ++ [⟨ix0, (⟨false, rq39.g, rq39.cap, rq39.rest, l⟩ : Cl), k⟩]) (k + 1)⟩, bk xb #[.map (some mb), uv] 28] (List.perm_append_comm (l₁ := Cl.blks (⟨false, rq39.g, rq39.cap, rq39.rest, l⟩ : Cl)) (l₂ := menB M)))
  have hkt : k = h.hs.length := by omega
  rw [hkt, List.take_length] at hMD
  rw [hkt] at hM F H
  replace F : Fm 75 [] [(54, ni h.hs.length), (53, ni h.hs.length), (52, .slice ha h.hs.length h.c), (2, .slice u.ad u.ss.length u.c), (0, pt xb 0)] a := F
  refine C_seqK (fun K40 hK40 => ?_)
  refine C_region ?_
  refine T_val F H kr (.bool false) (fun w _ => R_bin (x := (.tmp 54)) (y := (.tmp 53)) rfl (k := .i64) (a := ((h.hs.length : Nat) : Int)) (b := ((h.hs.length : Nat) : Int)) kr kr (i_nlt (by omega)) w) ?_
  clear F; intro a F
  refine wpList_nil ?_
  refine hK40 _ _ ?_
  clear hK40
  try clear K40
  refine C_seqK (fun K41 hK41 => ?_)
  refine C_if F false rfl rfl ?_
  refine wp_exit ?_
  refine hK27 _ _ ?_
  clear hK27
  try clear K27
  refine C_seqK (fun K42 hK42 => ?_)
  refine C_region ?_
  refine T_k F H (pt xb 0) ?_
  clear F; intro a F
  refine T_k F H (.slice u.ad u.ss.length u.c) ?_
  clear F; intro a F
  refine T_k F H (.agg #[.map none, .slice u.ad u.ss.length u.c]) ?_
  clear F; intro a F
  refine T_new F H kr (fun ad => pt ad 0) (ce #[.map none, .slice u.ad u.ss.length u.c] 28) (fun w => kr) ?_
  clear F H; intro aq43 a v F H
  refine T_callX (α := Ls) F H kr 13 #[pt aq43 0] (fun r => r.v) (fun r => [bk aq43 #[.map none, .slice u.ad u.ss.length u.c] 28, ⟨true, mb, mpO M h.hs.length⟩, bk xb #[.map (some mb), uv] 28] ++ (r.blks ++ menB M)) (fun r => r.ok ∧ r.ls = u.ss.map (·.l) ∧ r.cs.length = u.ss.length) (fun w => kr) (fun w H => (unread_lv aq43 u.c u.ad u.ss _ (by omega) w (H.at_ (k := 0) rfl) (Uv.lv (hu _ H.kept) (by omega))).mono fun e w' ⟨o, h1, h2, h3, h4, h5⟩ => ⟨o, h1, ⟨h2, h3, h4⟩, (H.mergeN h5 o.blks_own).perm (perm3 o.blks [bk aq43 #[.map none, .slice u.ad u.ss.length u.c] 28, ⟨true, mb, mpO M h.hs.length⟩, bk xb #[.map (some mb), uv] 28] (menB M))⟩) ?_
  clear F H; intro o a v ⟨hook, hols, holn⟩ F H
  refine T_k F H (pt xb 0) ?_
  clear F; intro a F
  refine T_k F H (pt xb 1) ?_
  clear F; intro a F
  refine T_set F H kr rfl 2 rfl _ (S_cell 2 rfl 26 (.tmp 74) (.tmp 72) rfl 1 kr (o.v) kr (lsv_plain o) (Nat.le_of_ble_eq_true rfl) _ Try.underlying26 rfl kr) ((bk aq43 #[.map none, .slice u.ad u.ss.length u.c] 28) :: ⟨true, mb, mpO M h.hs.length⟩ :: (bk xb #[.map (some mb), (o.v)] 28) :: (o.blks ++ menB M)) rfl ?_
  clear F H; intro a v F H
  refine wpList_nil ?_
  refine hK42 _ _ ?_
  clear hK42
  try clear K42
  refine C_seqK (fun K44 hK44 => ?_)
  refine C_region ?_
  refine T_k F H (ni 0) ?_
  clear F; intro a F
  refine wpList_nil ?_
  refine hK44 _ _ ?_
  clear hK44
  try clear K44
  refine wp_ret ?_
  exact C_ret F H (rs := [.tmp 6]) rfl (vs := [ni 0]) (.tmp rfl .nil) (ni 0) rfl ⟨mb, M, o, rfl, ⟨hM, hMD⟩, ⟨hook, hols, holn⟩, Hp.pickT (A := [bk aq43 #[.map none, .slice u.ad u.ss.length u.c] 28, ⟨true, mb, mpO M h.hs.length⟩, bk xb #[.map (some mb), (o.v)] 28]) (R := o.blks ++ menB M) H [2, 1] kr _ rfl⟩
end Go.Proofs.Ytlnlppmhiobgjaa
