/- Walks: a signer, what a chain begins with, the chains' ends. -/
import Derived.Test.YtdejhenkdbjakaaDoorW9
import Derived.Test.YtdejhenkdbjakaaDoorS2
set_option linter.unusedVariables false
set_option linter.unusedSimpArgs false
namespace Go.Proofs.YtdejhenkdbjakaaDoor
open Go Go.RowKit
def sgA (gm : Nat) (seed tag pub : Nat → Nat) (d l : Int) : Array Value := #[.pointer (some ⟨gm, 0, none⟩)] ++ arrF .u8 32 seed ++ arrF .u8 32 tag ++ #[.int .u32 d, .int .i32 l, .int .u32 0] ++ arrF .u8 32 pub
def zF : Nat → Nat := fun _ => 0
/-- Keys as cells, one behind the other. -/
def keysC (K : Nat → Nat → Nat) : Nat → List Value
  | 0 => []
  | k + 1 => keysC K k ++ keyC (K k)
theorem keysC_len (K : Nat → Nat → Nat) : ∀ k, (keysC K k).length = k * 32
  | 0 => rfl
  | k + 1 => by rw [keysC, List.length_append, keysC_len K k, keyC_len]; omega
theorem keysC_part (K : Nat → Nat → Nat) : ∀ (n k : Nat), k < n → ∀ j v, (arrF .u8 32 (K k))[j]? = some v → (keysC K n)[k * 32 + j]? = some v
  | 0, _, h => absurd h (by omega)
  | n + 1, k, h => fun j v hv => by
    have hj : j < 32 := by
      have := (Array.getElem?_eq_some_iff.1 hv).1
      rwa [arrF_size] at this
    rw [keysC]
    rcases Nat.lt_or_ge k n with h1 | h1
    · rw [List.getElem?_append_left (by rw [keysC_len]; omega)]
      exact keysC_part K n k h1 j v hv
    · have e : k = n := by omega
      subst e
      rw [List.getElem?_append_right (by rw [keysC_len]; omega), keysC_len, show k * 32 + j - k * 32 = j by omega]
      rw [arrF_get _ hj] at hv
      rw [keyC, ints_get (kl_get _ hj)]
      exact hv
theorem keys_part (K : Nat → Nat → Nat) {n k : Nat} (rest : List Value) (h : k < n) : ∀ j v, (arrF .u8 32 (K k))[j]? = some v → (sl (keysC K n) rest)[(0 + k * 32) + j]? = some v := fun j v hv => by
  rw [Nat.zero_add]
  exact sl_get (keysC_part K n k h j v hv)
theorem keysC_one (K : Nat → Nat → Nat) : ∀ k, ∀ u ∈ keysC K k, u.oneCell' = true
  | 0, u, h => by simp [keysC] at h
  | k + 1, u, h => by
    rw [keysC] at h
    rcases List.mem_append.1 h with h | h
    · exact keysC_one K k u h
    · exact keyC_one _ u h
theorem run_appF {P : Program} {w : World} {t ty e : TypeId} {size bytes : Nat} (ht : P.underlying t = some (.slice e)) (hi0 : infoB P e size bytes = true) {b : Addr} {m0 : Nat} {xs : List Value} (hxs : xs.length = m0 * size) (hb : ∀ j u, xs[j]? = some u → w.cell? (b.add j) = some u)
    {x : Value} {m : Nat} {news : List Value} (hx : RdS w x m news) (hl : news.length = m * size) (h0 : 0 < m) (h63 : m0 + m ≤ maxLen) (hbytes : (m0 + m) * bytes ≤ 140737488355328) :
    ∃ (r : SlR) (w' : World), (Builtin.append_ #[t, t] ty #[.slice (some b) m0 m0, x]).run P w = .ok (.slice (some ⟨r.g, 0, none⟩) (m0 + m) r.cap) w' ∧ Own (xs ++ news) r.rest (m0 + m) r.cap size ∧
      w'.heap[r.g]? = some (.cells (sl (xs ++ news) r.rest) e (0, 0)) ∧ w.heap.size ≤ r.g ∧ Kept [] w w' := by
  obtain ⟨i, z, hi, hz, hs, hbb, hzs, hsz⟩ := infoB_spec hi0
  subst hs hbb
  rcases hx with ⟨rfl, rfl, rfl⟩ | ⟨ad, c, rfl, hmc, hnews⟩
  · omega
  · have hlen : (xs ++ news).length = (m0 + m) * i.size := by rw [List.length_append, hxs, hl, Nat.add_mul]
    have hr := run_append_grow (P := P) w t ty e i z ht hi hz b m0 m0 xs hxs hb ad m c news hl hnews (by omega) (by simp only [maxLen] at h63; omega) (growslice_fits (by omega) hbytes)
    have hge := grownCap_ge w (m0 + m) m0 e
    have hcm : grownCap w (m0 + m) m0 e ≤ maxLen := grownCap_le_maxLen w (m0 + m) m0 e h63
    refine ⟨⟨w.heap.size, grownCap w (m0 + m) m0 e, (Builtin.zeroCells z.cells (grownCap w (m0 + m) m0 e - (m0 + m))).toList, 0⟩, _, hr, ⟨hlen, ?_, hge, hcm⟩, ?_, Nat.le_refl _, (Kept.drew w).trans (by simp) (Kept.alloc _ _)⟩
    · dsimp only
      rw [hlen, Array.length_toList, size_zeroCells, hzs, ← Nat.add_mul]
      congr 1
      omega
    · refine (heap_alloc_new w.drew _).trans ?_
      congr 2
      unfold sl
      simp
theorem ne_of_ty {w : World} {g g' : Nat} {a b : Array Value} {t t' : TypeId} {fr fr' : Nat × Nat} (h : w.heap[g]? = some (.cells a t fr)) (h' : w.heap[g']? = some (.cells b t' fr')) (ht : Nat.beq t t' = false) : g ≠ g' := by
  rintro rfl
  rw [h] at h'
  simp only [Option.some.injEq, Obj.cells.injEq] at h'
  exact Nat.ne_of_beq_eq_false ht h'.2.1
theorem Hp.startM {w : World} {gm s : Nat} {ob os : Obj} (hm : w.heap[gm]? = some ob) (hs : w.heap[s]? = some os) (hne : gm ≠ s) : Hp [gm] w [⟨true, gm, ob⟩, ⟨false, s, os⟩] w :=
  ⟨Kept.refl _ _, (fun p hp => by
    simp only [List.mem_cons, List.not_mem_nil, or_false] at hp
    rcases hp with rfl | rfl
    · exact hm
    · exact hs), (fun p hp ho => by
    simp only [List.mem_cons, List.not_mem_nil, or_false] at hp
    rcases hp with rfl | rfl
    · exact .inr (List.mem_singleton.2 rfl)
    · cases ho), List.pairwise_cons.2 ⟨(fun q hq => by simp only [List.mem_singleton] at hq; subst hq; exact hne), List.pairwise_singleton _ _⟩⟩

set_option maxRecDepth 100000 in
set_option maxHeartbeats 4000000 in
theorem otsnew_any (gm : Nat) (seed tag : Nat → Nat) (w : World) : Calls Tryd.prog 21 #[.pointer (some ⟨gm, 0, none⟩), .agg (arrF .u8 32 seed), .agg (arrF .u8 32 tag)] w fun e w' => ∃ r : SlR, e = .returned (.pointer (some ⟨r.g, 0, none⟩)) ∧ True ∧ w.heap.size ≤ r.g ∧ w'.heap[r.g]? = some (.cells (sgA gm seed tag zF 0 0) 101 (0, 0)) ∧ Kept [] w w' := by
  refine C_enter Tryd.func21 rfl 12 Tryd.ntmps21 (Nat.le_of_ble_eq_true rfl) (fun a F => ?_)
  have H := Hp.start [] w
  replace F : Fm 12 [] [(0, pt gm 0), (1, kyV seed), (2, kyV tag)] a := F.weak _ (subL_of kr)
  refine C_seqK (fun K1 hK1 => ?_)
  refine C_region ?_
  refine T_new F H kr (fun ad => pt ad 0) (ce (arrF .u8 32 seed) 23) (fun w => kr) ?_
  clear F H; intro aq2 a v F H
  refine T_new F H kr (fun ad => pt ad 0) (ce (arrF .u8 32 tag) 23) (fun w => kr) ?_
  clear F H; intro aq3 a v F H
  refine T_k F H (.pointer none) ?_
  clear F; intro a F
  refine wpList_nil ?_
  refine hK1 _ _ ?_
  clear hK1
  try clear K1
  refine C_seqK (fun K4 hK4 => ?_)
  refine C_region ?_
  refine T_k F H (pt gm 0) ?_
  clear F; intro a F
  refine T_val F H kr (kyV seed) (R_load (own := true) (g := aq2) (all := (arrF .u8 32 seed)) (t := 23) (fr := (0, 0)) 1 kr 23 (.tmp 4) rfl 0 kr (arrF .u8 32 seed) (part_all _) _ Tryd.underlying23 rfl (by rw [arrF_size]; kernel_rfl)) ?_
  clear F; intro a F
  refine T_val F H kr (kyV tag) (R_load (own := true) (g := aq3) (all := (arrF .u8 32 tag)) (t := 23) (fr := (0, 0)) 0 kr 23 (.tmp 5) rfl 0 kr (arrF .u8 32 tag) (part_all _) _ Tryd.underlying23 rfl (by rw [arrF_size]; kernel_rfl)) ?_
  clear F; intro a F
  refine T_k F H (.agg (sgA gm seed tag zF 0 0)) ?_
  clear F; intro a F
  refine T_new F H kr (fun ad => pt ad 0) (ce (sgA gm seed tag zF 0 0) 101) (fun w => kr) ?_
  clear F H; intro aq5 a v F H
  refine T_k F H (pt aq5 0) ?_
  clear F; intro a F
  refine wpList_nil ?_
  refine hK4 _ _ ?_
  clear hK4
  try clear K4
  refine wp_ret ?_
  exact C_ret F H (rs := [.tmp 6]) rfl (vs := [pt aq5 0]) (.tmp rfl .nil) (pt aq5 0) rfl ⟨⟨aq5, 0, [], 0⟩, rfl, trivial, H.newAt (k := 0) rfl, H.at_ (k := 0) rfl, H.kept⟩

set_option maxRecDepth 100000 in
set_option maxHeartbeats 4000000 in
theorem begin_any (gm n sg : Nat) (seed tag pub : Nat → Nat) (d l : Int) (hseed : ∀ i, i < 32 → seed i < 256) (ch : Int) (w : World) (hW : Laid w) (hm : w.heap[gm]? = some (.cells (mtr n) 91 (0, 0))) (hs : w.heap[sg]? = some (.cells (sgA gm seed tag pub d l) 101 (0, 0))) : Calls Tryd.prog 54 #[.pointer (some ⟨sg, 0, none⟩), .int .i64 ch] w fun e w' => ∃ r : SlR, e = .returned (.agg (arrF .u8 32 (begF seed ch))) ∧ True ∧ Kept [gm] w w' ∧ w'.heap[gm]? = some (.cells (mtr r.n) 91 (0, 0)) := by
  obtain ⟨h00, h01⟩ := hW.apart hm
  have hne : gm ≠ sg := ne_of_ty hm hs rfl
  refine C_enter Tryd.func54 rfl 18 Tryd.ntmps54 (Nat.le_of_ble_eq_true rfl) (fun a F => ?_)
  have H := Hp.startM hm hs hne
  replace F : Fm 18 [] [(0, pt sg 0), (1, .int .i64 ch)] a := F.weak _ (subL_of kr)
  refine C_seqK (fun K1 hK1 => ?_)
  refine C_region ?_
  refine T_new F H kr (fun ad => pt ad 0) (ce z8 23) (fun w => kr) ?_
  clear F H; intro aq2 a v F H
  refine wpList_nil ?_
  refine hK1 _ _ ?_
  clear hK1
  try clear K1
  refine C_seqK (fun K3 hK3 => ?_)
  refine E_region F H (fun β => [(5, pt sg 0), (6, pt sg 0), (7, pt sg 0), (8, pt gm 0), (9, pt sg 0), (10, pt sg 0), (11, pt sg 1), (12, kyV seed), (13, .int .i64 ch), (14, nu (u64n ch)), (15, sc ((β 10).g) 0 2 (β 10).cap), (16, sc ((β 11).g) 0 1 1), (17, kyV (derK seed [99, 104, 97, 105, 110] [hb ch 2]))]) [5, 6, 7, 8, 9, 10, 11, 12, 13, 14, 15, 16, 17] [⟨some 10, none, 0, [10], fun q_ => ce (sl (oct (hb ch 2)) (gh q_ 0).rest) 5, fun q_ => Own (oct (hb ch 2)) (gh q_ 0).rest (2) (gh q_ 0).cap 1, []⟩,
    ⟨some 11, none, 0, [10], fun q_ => ce #[sc ((gh q_ 0).g) 0 2 (gh q_ 0).cap] 54, gT, []⟩,
    ⟨none, none, gm, [], fun q_ => ce (mtr n) 91, gT, [⟨12, [12], fun q_ => ce (mtr (gh q_ 0).n) 91, fun q_ => (gh q_ 0).n = n + 2⟩]⟩,
    ⟨none, none, aq2, [], fun q_ => ce z8 23, gT, [⟨13, [], fun q_ => ce (arrF .u8 32 (derK seed [99, 104, 97, 105, 110] [hb ch 2])) 23, gT⟩]⟩] [br sg (sgA gm seed tag pub d l) 101] [1, 0, 2] 2 [] kr kr kr (fun β => rfl) ⟨fun h _ => Bool.noConfusion h, ⟨fun h _ => Bool.noConfusion h, ⟨fun _ _ => trivial, ⟨fun _ _ => trivial, trivial⟩⟩⟩⟩ ⟨?_, ?_, ?_, ?_, ?_, ?_, ?_, ?_, ?_, ?_, ?_, ?_, ?_, ?_, trivial⟩ ?_
  · exact E_k 18 (fun β => pt sg 0) 5 2
  · exact E_k 18 (fun β => pt sg 0) 6 2
  · exact E_k 18 (fun β => pt sg 0) 7 2
  · exact E_v 18 (fun β => pt gm 0) 8 2 [] (fun β w hk hl hq => R_cellH hl (own := false) (g := sg) (all := (sgA gm seed tag pub d l)) (t := 101) (fr := (0, 0)) 0 kr 27 (.tmp 7) rfl 0 kr (pt gm 0) kr _ Tryd.underlying27 rfl)
  · exact E_k 18 (fun β => pt sg 0) 9 2
  · exact E_k 18 (fun β => pt sg 0) 10 2
  · exact E_k 18 (fun β => pt sg 1) 11 2
  · exact E_v 18 (fun β => kyV seed) 12 2 [] (fun β w hk hl hq => R_loadH hl (own := false) (g := sg) (all := (sgA gm seed tag pub d l)) (t := 101) (fr := (0, 0)) 0 kr 23 (.tmp 11) rfl 1 kr (arrF .u8 32 seed) (part_ext kr) _ Tryd.underlying23 rfl kr)
  · exact E_k 18 (fun β => .int .i64 ch) 13 2
  · exact E_v 18 (fun β => nu (u64n ch)) 14 2 [] (fun β w hk hl hq => R_conv (x := (.tmp 13)) rfl (k0 := .i64) kr kr (k := .i64) (a := ch) kr (wrapu64n _) w)
  · exact E_callS 18 kq (fun β => sc ((β 10).g) 0 2 (β 10).cap) 15 rfl kq 2 (fun β r => offAt2_of kr kr) 49 (fun β => #[nu (u64n ch), ni 2]) (fun β w => kr) 2 [] 0 _ rfl kr kr rfl (fun β w hk hl hq => high_any (u64n ch) 2 (by omega) (by omega) _)
  · exact E_new 18 kq (fun β => sc ((β 11).g) 0 1 1) 16 rfl kq 2 (fun β r => offAt2_of kr kr) 2 [] 1 _ rfl kr kr rfl (fun β w hk hl hq => ⟨⟨w.heap.size, 0, [], 0⟩, _, (R_buildS (len := 1) rfl Tryd.underlying30 (#[sc ((β 10).g) 0 2 (β 10).cap]) kr w), trivial, Nat.le_refl _, heap_alloc_new _ _, Kept.alloc _ _⟩)
  · exact E_callP 18 kq (fun β => kyV (derK seed [99, 104, 97, 105, 110] [hb ch 2])) 17 rfl kq 2 (fun β r => offAt2_of kr kr) 85 (fun β => #[pt gm 0, kyV seed, .string ⟨#[99, 104, 97, 105, 110]⟩, sc ((β 11).g) 0 1 1]) (fun β w => kr) 2 [(0, 0), (1, 0)] 2 0 _ _ rfl rfl kr kr rfl (fun β w hk hl hq hm => der_chain gm n seed hseed [⟨some ⟨(β 10).g, 0, none⟩, 2, (β 10).cap, hb ch 2⟩] (by simp [catP, hb_len]) _ _ (#[sc ((β 10).g) 0 2 (β 10).cap]) _ (arr_of [⟨some ⟨(β 10).g, 0, none⟩, 2, (β 10).cap, hb ch 2⟩] kr) _ ⟨(RdS.all (hl.at_ (k := 0) rfl) (Own.le hq.1.1)), (hb_len _ _), trivial⟩ (hl.at_ (k := 1) rfl) (fun x hx => by simp only [catP, List.map_cons, List.map_nil, List.flatten_cons, List.flatten_nil, List.append_nil] at hx; exact hb_lt _ _ x hx) (hW.kept hk h00 h01) hm)
  · exact E_store 18 kq rfl 2 [] 3 0 _ _ rfl rfl kr rfl (fun _ => trivial) (fun β w hk hl hq hm => let ⟨w', h1, h2, h3⟩ := P_row (cs := (arrF .u8 32 (derK seed [99, 104, 97, 105, 110] [hb ch 2]))) (old := z8) rfl rfl (ty := 23) (x := (.tmp 4)) (y := (.tmp 17)) rfl kr kr (by rw [arrF_size]; kernel_rfl) (by rw [arrF_size]; kernel_rfl) (arrF_one _ _ _) hm; ⟨w', h1, h2, h3⟩)
  clear F H; intro β a v Q F H
  replace H : Hp [gm] w [bk ((β 10).g) (sl (oct (hb ch 2)) (β 10).rest) 5, bk ((β 11).g) #[sc ((β 10).g) 0 2 (β 10).cap] 54, bk gm (mtr (β 12).n) 91, bk aq2 (arrF .u8 32 (derK seed [99, 104, 97, 105, 110] [hb ch 2])) 23, br sg (sgA gm seed tag pub d l) 101] v := H
  replace F : Fm 18 [] [(17, kyV (derK seed [99, 104, 97, 105, 110] [hb ch 2])), (16, sc ((β 11).g) 0 1 1), (15, sc ((β 10).g) 0 2 (β 10).cap), (14, nu (u64n ch)), (13, .int .i64 ch), (12, kyV seed), (11, pt sg 1), (10, pt sg 0), (9, pt sg 0), (8, pt gm 0), (7, pt sg 0), (6, pt sg 0), (5, pt sg 0), (4, pt aq2 0), (0, pt sg 0), (1, .int .i64 ch)] a := F.weak _ (subL_of kr)
  have Qh6_0 : Own (oct (hb ch 2)) (β 10).rest (2) (β 10).cap 1 := Q.1
  have Qh6_2 : (β 12).n = n + 2 := Q.2.2.2.2.2.1.1
  clear Q
  generalize β 10 = rq4 at F H Qh6_0 Qh6_2
  generalize β 11 = rq5 at F H Qh6_0 Qh6_2
  generalize β 12 = rq6 at F H Qh6_0 Qh6_2
  skip
  refine ?_
  refine hK3 _ _ ?_
  clear hK3
  try clear K3
  refine wp_ret ?_
  exact C_ret F H (rs := [.cell 4 23]) rfl (vs := [kyV (derK seed [99, 104, 97, 105, 110] [hb ch 2])]) (.row 3 rfl rfl _ Tryd.underlying23 rfl kr .nil) (kyV (derK seed [99, 104, 97, 105, 110] [hb ch 2])) rfl ⟨rq6, rfl, trivial, H.kept, H.at_ (k := 2) rfl⟩

theorem rdS_cells {w : World} {b : Addr} {m c : Nat} {cs : List Value} (h : RdS w (.slice (some b) m c) m cs) : ∀ j u, cs[j]? = some u → w.cell? (b.add j) = some u := by
  rcases h with ⟨h, _⟩ | ⟨ad, c', h, _, h2⟩
  · cases h
  · cases h; exact h2

set_option maxRecDepth 100000 in
set_option maxHeartbeats 4000000 in
theorem ends_any (gm n : Nat) (tag : Nat → Nat) (ht : ∀ i, i < 32 → tag i < 256) (K : Nat → Nat → Nat) (hK : ∀ k i, i < 32 → K k i < 256) (lb cp : Nat) (hcp : 67 ≤ cp) (rest : List Value) (w : World) (hW : Laid w) (hm : w.heap[gm]? = some (.cells (mtr n) 91 (0, 0))) (hl : w.heap[lb]? = some (.cells (sl (keysC K 67) rest) 23 (0, 0))) : Calls Tryd.prog 55 #[.pointer (some ⟨gm, 0, none⟩), .agg (arrF .u8 32 tag), .slice (some ⟨lb, 0, none⟩) 67 cp] w fun e w' => ∃ r : SlR, e = .returned (.agg (arrF .u8 32 (shaK (endK tag K 67)))) ∧ True ∧ Kept [gm] w w' ∧ w'.heap[gm]? = some (.cells (mtr r.n) 91 (0, 0)) := by
  obtain ⟨h00, h01⟩ := hW.apart hm
  have hne : gm ≠ lb := ne_of_ty hm hl rfl
  have hKl := endK_lt ht hK 67
  refine C_enter Tryd.func55 rfl 25 Tryd.ntmps55 (Nat.le_of_ble_eq_true rfl) (fun a F => ?_)
  have H := Hp.startM hm hl hne
  replace F : Fm 25 [] [(0, pt gm 0), (1, kyV tag), (2, sc lb 0 67 cp)] a := F.weak _ (subL_of kr)
  refine C_seqK (fun K1 hK1 => ?_)
  refine C_region ?_
  refine T_new F H kr (fun ad => pt ad 0) (ce (arrF .u8 32 tag) 23) (fun w => kr) ?_
  clear F H; intro aq2 a v F H
  refine T_new F H kr (fun ad => pt ad 0) (ce z8 23) (fun w => kr) ?_
  clear F H; intro aq3 a v F H
  refine wpList_nil ?_
  refine hK1 _ _ ?_
  clear hK1
  try clear K1
  refine C_seqK (fun K4 hK4 => ?_)
  refine C_region ?_
  refine T_k F H (sc aq2 0 32 32) ?_
  clear F; intro a F
  refine T_k F H (sc aq2 0 32 32) ?_
  clear F; intro a F
  refine wpList_nil ?_
  refine hK4 _ _ ?_
  clear hK4
  try clear K4
  refine C_seqK (fun K5 hK5 => ?_)
  refine C_seqK (fun K6 hK6 => ?_)
  refine C_region ?_
  refine T_k F H (sc lb 0 67 cp) ?_
  clear F; intro a F
  refine T_k F H (ni 67) ?_
  clear F; intro a F
  refine T_k F H (ni 0) ?_
  clear F; intro a F
  refine wpList_nil ?_
  replace F : Fm 25 [] [(13, ni 0), (12, ni 67), (11, sc lb 0 67 cp), (7, sc aq2 0 32 32), (0, pt gm 0), (6, pt aq3 0)] a := F.weak _ (subL_of kr)
  replace H : Hp [gm] w [bk aq2 (arrF .u8 32 tag) 23, bk aq3 z8 23, bk gm (mtr n) 91, br lb (sl (keysC K 67) rest) 23] v := H.pick [1, 0, 2, 3] kr _ rfl
  refine hK6 _ _ ?_
  clear hK6
  try clear K6
  refine wp_block ?_
  refine C_loop (fun m a v => (m = 67 ∧ Fm 25 [] [(13, ni 0), (12, ni 67), (11, sc lb 0 67 cp), (7, sc aq2 0 32 32), (0, pt gm 0), (6, pt aq3 0)] a ∧ Hp [gm] w [bk aq2 (arrF .u8 32 tag) 23, bk aq3 z8 23, bk gm (mtr n) 91, br lb (sl (keysC K 67) rest) 23] v) ∨ (∃ (k : Nat) (r : SlR), k + m = 67 ∧ 1 ≤ k ∧ Own (oct (endK tag K k)) r.rest (32 + 32 * k) r.cap 1 ∧ Fm 25 [] [(13, ni k), (12, ni 67), (11, sc lb 0 67 cp), (7, sc r.g 0 (32 + 32 * k) r.cap), (0, pt gm 0), (6, pt aq3 0)] a ∧ Hp [gm] w [bk r.g (sl (oct (endK tag K k)) r.rest) 5, bk aq3 z8 23, bk gm (mtr n) 91, br lb (sl (keysC K 67) rest) 23] v)) (67) (.inl ⟨rfl, F, H⟩) ?_
  clear F H
  intro m a v hS
  rcases hS with ⟨hk0, F, H⟩ | ⟨k, r, hk, hk1, hO, F, H⟩
  · obtain ⟨m, rfl⟩ : ∃ q, m = q + 1 := ⟨m - 1, by omega⟩
    refine C_seqK (fun K7 hK7 => ?_)
    refine C_region ?_
    refine T_val F H kr (.bool true) (fun w _ => R_bin (x := (.tmp 13)) (y := (.tmp 12)) rfl (k := .i64) (a := ((0 : Nat) : Int)) (b := ((67 : Nat) : Int)) kr kr (i_lt (by omega)) w) ?_
    clear F; intro a F
    refine wpList_nil ?_
    refine hK7 _ _ ?_
    clear hK7
    try clear K7
    refine C_seqK (fun K8 hK8 => ?_)
    refine C_if F true rfl rfl ?_
    refine wp_skip ?_
    refine hK8 _ _ ?_
    clear hK8
    try clear K8
    refine C_seqK (fun K9 hK9 => ?_)
    refine wp_block ?_
    refine C_seqK (fun K10 hK10 => ?_)
    refine C_region ?_
    refine T_val F H kr (pt lb (0 + (0) * 32)) (fun w _ => R_indexS (k := .i64) (g := lb) (off := 0) (len := 67) (cap := cp) (x := (.tmp 11)) (y := (.tmp 13)) rfl Tryd.underlying39 kr (0) kr (by omega) (sz := 32) kr w) ?_
    clear F; intro a F
    refine T_val F H kr (kyV (K 0)) (R_load (own := false) (g := lb) (all := (sl (keysC K 67) rest)) (t := 23) (fr := (0, 0)) 3 kr 23 (.tmp 15) rfl (0 + (0) * 32) kr (arrF .u8 32 (K 0)) (keys_part K rest (by omega)) _ Tryd.underlying23 rfl (by rw [arrF_size]; kernel_rfl)) ?_
    clear F; intro a F
    refine T_new F H kr (fun ad => pt ad 0) (ce z8 23) (fun w => kr) ?_
    clear F H; intro aq11 a v F H
    refine T_set F H kr rfl 0 rfl (arrF .u8 32 (K 0)) (S_row 0 rfl 23 (.tmp 9) (.tmp 16) rfl kr (arrF .u8 32 (K 0)) kr (by rw [arrF_size]; kernel_rfl) (by rw [arrF_size]; kernel_rfl) (arrF_one _ _ _)) [bk aq11 (arrF .u8 32 (K 0)) 23, bk aq2 (arrF .u8 32 tag) 23, bk aq3 z8 23, bk gm (mtr n) 91, br lb (sl (keysC K 67) rest) 23] rfl ?_
    clear F H; intro a v F H
    refine wpList_nil ?_
    refine hK10 _ _ ?_
    clear hK10
    try clear K10
    refine C_region ?_
    refine T_k F H (sc aq2 0 32 32) ?_
    clear F; intro a F
    refine T_k F H (sc aq11 0 32 32) ?_
    clear F; intro a F
    refine T_newG F H kr (fun r => sc r.g 0 (32 + 32) r.cap) (fun r => ce (sl (oct (kl tag) ++ oct (kl (K 0))) r.rest) 5) (fun r => Own (oct (kl tag) ++ oct (kl (K 0))) r.rest (32 + 32) r.cap 1) (fun w hl => let ⟨r, w', q1, q2, q3, q4, q5⟩ := run_appF (size := 1) (bytes := 1) (t := 54) (ty := _) (e := 5) (P := Tryd.prog) (w := w) kr kr (b := ⟨aq2, 0, none⟩) (m0 := 32) (xs := oct (kl tag)) (by rw [ints_len, kl_len]) (rdS_cells (RdS.of (hl.at_ (k := 1) rfl) (Nat.le_refl 32) (rd_key tag))) (x := sc aq11 0 32 32) (m := 32) (news := oct (kl (K 0))) (RdS.of (hl.at_ (k := 0) rfl) (Nat.le_refl _) (rd_key (K 0))) (by rw [ints_len, kl_len]) (by decide) (by simp only [maxLen]; decide) (by decide); ⟨r, w', exec_append (s := (.tmp 17)) (x := (.tmp 18)) rfl kr rfl q1, q2, q4, q3, q5⟩) ?_
    clear F H; intro rq12 a v Qrq12 F H
    refine T_k F H (sc rq12.g 0 (32 + 32) rq12.cap) ?_
    clear F; intro a F
    refine wpList_nil ?_
    have hc9 : oct (kl tag) ++ oct (kl (K 0)) = oct (endK tag K 1) := (ints_app .u8 _ _).symm
    rw [hc9] at H Qrq12
    replace H : Hp [gm] w [bk rq12.g (sl (oct (endK tag K 1)) rq12.rest) 5, bk aq3 z8 23, bk gm (mtr n) 91, br lb (sl (keysC K 67) rest) 23] v := H.pick [0, 3, 4, 5] kr _ rfl
    refine hK9 _ _ ?_
    clear hK9
    try clear K9
    refine C_region ?_
    refine T_k F H (ni 1) ?_
    clear F; intro a F
    refine T_k F H (ni 1) ?_
    clear F; intro a F
    refine wpList_nil ?_
    replace F : Fm 25 [] [(13, ni 1), (12, ni 67), (11, sc lb 0 67 cp), (7, sc rq12.g 0 (32 + 32 * 1) rq12.cap), (0, pt gm 0), (6, pt aq3 0)] a := F.weak _ (subL_of kr)
    replace H : Hp [gm] w [bk rq12.g (sl (oct (endK tag K 1)) rq12.rest) 5, bk aq3 z8 23, bk gm (mtr n) 91, br lb (sl (keysC K 67) rest) 23] v := H
    exact ⟨m, Nat.lt_succ_self m, .inr ⟨1, rq12, by omega, by omega, Qrq12, F, H⟩⟩
  rcases m with _ | m
  rotate_left
  · skip
    refine C_seqK (fun K13 hK13 => ?_)
    refine C_region ?_
    refine T_val F H kr (.bool true) (fun w _ => R_bin (x := (.tmp 13)) (y := (.tmp 12)) rfl (k := .i64) (a := ((k : Nat) : Int)) (b := ((67 : Nat) : Int)) kr kr (i_lt (by omega)) w) ?_
    clear F; intro a F
    refine wpList_nil ?_
    refine hK13 _ _ ?_
    clear hK13
    try clear K13
    refine C_seqK (fun K14 hK14 => ?_)
    refine C_if F true rfl rfl ?_
    refine wp_skip ?_
    refine hK14 _ _ ?_
    clear hK14
    try clear K14
    refine C_seqK (fun K15 hK15 => ?_)
    refine wp_block ?_
    refine C_seqK (fun K16 hK16 => ?_)
    refine C_region ?_
    refine T_val F H kr (pt lb (0 + (k) * 32)) (fun w _ => R_indexS (k := .i64) (g := lb) (off := 0) (len := 67) (cap := cp) (x := (.tmp 11)) (y := (.tmp 13)) rfl Tryd.underlying39 kr (k) kr (by omega) (sz := 32) kr w) ?_
    clear F; intro a F
    refine T_val F H kr (kyV (K k)) (R_load (own := false) (g := lb) (all := (sl (keysC K 67) rest)) (t := 23) (fr := (0, 0)) 3 kr 23 (.tmp 15) rfl (0 + (k) * 32) kr (arrF .u8 32 (K k)) (keys_part K rest (by omega)) _ Tryd.underlying23 rfl (by rw [arrF_size]; kernel_rfl)) ?_
    clear F; intro a F
    refine T_new F H kr (fun ad => pt ad 0) (ce z8 23) (fun w => kr) ?_
    clear F H; intro aq17 a v F H
    refine T_set F H kr rfl 0 rfl (arrF .u8 32 (K k)) (S_row 0 rfl 23 (.tmp 9) (.tmp 16) rfl kr (arrF .u8 32 (K k)) kr (by rw [arrF_size]; kernel_rfl) (by rw [arrF_size]; kernel_rfl) (arrF_one _ _ _)) [bk aq17 (arrF .u8 32 (K k)) 23, bk r.g (sl (oct (endK tag K k)) r.rest) 5, bk aq3 z8 23, bk gm (mtr n) 91, br lb (sl (keysC K 67) rest) 23] rfl ?_
    clear F H; intro a v F H
    refine wpList_nil ?_
    refine hK16 _ _ ?_
    clear hK16
    try clear K16
    refine C_region ?_
    refine T_k F H (sc r.g 0 (32 + 32 * k) r.cap) ?_
    clear F; intro a F
    refine T_k F H (sc aq17 0 32 32) ?_
    clear F; intro a F
    refine T_app F H kr 54 5 (.tmp 17) (.tmp 18) rfl 1 1 kr kr 1 rfl hO kr (32) (oct (kl (K k))) (fun w hk hl => (RdS.of (hl.at_ (k := 0) rfl) (Nat.le_refl _) (rd_key (K k)))) (by rw [ints_len, kl_len]) (ints_one _ _) (by simp only [maxLen]; omega) (by omega) _ rfl ?_
    clear F H; intro rq18 a v Qrq18 F H
    refine T_k F H (sc rq18.g 0 ((32 + 32 * k) + 32) rq18.cap) ?_
    clear F; intro a F
    refine wpList_nil ?_
    have hc9 : oct (endK tag K k) ++ oct (kl (K k)) = oct (endK tag K (k + 1)) := (ints_app .u8 _ _).symm
    rw [hc9] at H Qrq18
    replace H : Hp [gm] w [bk rq18.g (sl (oct (endK tag K (k + 1))) rq18.rest) 5, bk aq3 z8 23, bk gm (mtr n) 91, br lb (sl (keysC K 67) rest) 23] v := H.pick [0, 2, 3, 4] kr _ rfl
    rw [show 32 + 32 * k + 32 = 32 + 32 * (k + 1) by omega] at F Qrq18
    refine hK15 _ _ ?_
    clear hK15
    try clear K15
    refine C_region ?_
    refine T_val F H kr (ni (k + 1)) (fun w _ => R_bin (x := (.tmp 13)) (y := (.const (.int .i64 1))) rfl (k := .i64) (a := ((k : Nat) : Int)) (b := ((1 : Nat) : Int)) kr kr (i_addn64 (a := k) (b := 1) (by omega)) w) ?_
    clear F; intro a F
    refine T_k F H (ni (k + 1)) ?_
    clear F; intro a F
    refine wpList_nil ?_
    replace F : Fm 25 [] [(13, ni (k + 1)), (12, ni 67), (11, sc lb 0 67 cp), (7, sc rq18.g 0 (32 + 32 * (k + 1)) rq18.cap), (0, pt gm 0), (6, pt aq3 0)] a := F.weak _ (subL_of kr)
    replace H : Hp [gm] w [bk rq18.g (sl (oct (endK tag K (k + 1))) rq18.rest) 5, bk aq3 z8 23, bk gm (mtr n) 91, br lb (sl (keysC K 67) rest) 23] v := H
    exact ⟨m, Nat.lt_succ_self m, .inr ⟨k + 1, rq18, by omega, by omega, Qrq18, F, H⟩⟩
  have hkt : k = 67 := by omega
  rw [hkt] at F H hO
  clear hk hk1
  refine C_seqK (fun K19 hK19 => ?_)
  refine C_region ?_
  refine T_val F H kr (.bool false) (fun w _ => R_bin (x := (.tmp 13)) (y := (.tmp 12)) rfl (k := .i64) (a := ((67 : Nat) : Int)) (b := ((67 : Nat) : Int)) kr kr (i_nlt (by omega)) w) ?_
  clear F; intro a F
  refine wpList_nil ?_
  refine hK19 _ _ ?_
  clear hK19
  try clear K19
  refine C_seqK (fun K20 hK20 => ?_)
  refine C_if F false rfl rfl ?_
  refine wp_exit ?_
  refine hK5 _ _ ?_
  clear hK5
  try clear K5
  refine C_seqK (fun K21 hK21 => ?_)
  refine C_region ?_
  refine T_k F H (pt gm 0) ?_
  clear F; intro a F
  refine T_k F H (sc r.g 0 (32 + 32 * 67) r.cap) ?_
  clear F; intro a F
  refine T_new F H kr (fun ad => sc ad 0 1 1) (ce #[sc r.g 0 (32 + 32 * 67) r.cap] 54) (fun w => R_buildS (len := 1) rfl Tryd.underlying30 (#[sc r.g 0 (32 + 32 * 67) r.cap]) kr w) ?_
  clear F H; intro aq22 a v F H
  refine T_callX (α := SlR) F H kr 48 #[pt gm 0, sc aq22 0 1 1] (fun rX => kyV (shaK (endK tag K 67))) (fun rX => [bk aq22 #[sc r.g 0 (32 + 32 * 67) r.cap] 54, bk r.g (sl (oct (endK tag K 67)) r.rest) 5, bk aq3 z8 23, bk gm (mtr rX.n) 91, br lb (sl (keysC K 67) rest) 23]) (fun rX => rX.n = n + 1) (fun w => kr) (fun w H => callsX_putV H (k := 3) rfl (msum_to gm n [⟨some ⟨r.g, 0, none⟩, (32 + 32 * 67), r.cap, endK tag K 67⟩] (endK tag K 67) (by simp [catP]) ⟨by rw [endK_len]; omega, by rw [endK_len]; omega, by simp⟩ _ _ (#[sc r.g 0 (32 + 32 * 67) r.cap]) _ kr _ ⟨(RdS.all (H.at_ (k := 1) rfl) (Own.le hO)), (endK_len tag K 67), trivial⟩ (H.at_ (k := 0) rfl) hKl (hW.kept H.kept h00 h01) (H.at_ (k := 3) rfl))) ?_
  clear F H; intro rq23 a v Qrq23 F H
  refine T_set F H kr rfl 2 rfl (arrF .u8 32 (shaK (endK tag K 67))) (S_row 2 rfl 23 (.tmp 6) (.tmp 24) rfl kr (arrF .u8 32 (shaK (endK tag K 67))) kr (by rw [arrF_size]; kernel_rfl) (by rw [arrF_size]; kernel_rfl) (arrF_one _ _ _)) [bk aq22 #[sc r.g 0 (32 + 32 * 67) r.cap] 54, bk r.g (sl (oct (endK tag K 67)) r.rest) 5, bk aq3 (arrF .u8 32 (shaK (endK tag K 67))) 23, bk gm (mtr rq23.n) 91, br lb (sl (keysC K 67) rest) 23] rfl ?_
  clear F H; intro a v F H
  refine wpList_nil ?_
  refine hK21 _ _ ?_
  clear hK21
  try clear K21
  refine wp_ret ?_
  exact C_ret F H (rs := [.cell 6 23]) rfl (vs := [kyV (shaK (endK tag K 67))]) (.row 2 rfl rfl _ Tryd.underlying23 rfl kr .nil) (kyV (shaK (endK tag K 67))) rfl ⟨rq23, rfl, trivial, H.kept, H.at_ (k := 3) rfl⟩
end Go.Proofs.YtdejhenkdbjakaaDoor
