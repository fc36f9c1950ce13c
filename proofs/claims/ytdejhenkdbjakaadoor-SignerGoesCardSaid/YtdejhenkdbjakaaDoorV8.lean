/- Walks: the reference's public key. -/
import Derived.Test.YtdejhenkdbjakaaDoorV6
import Derived.Test.YtdejhenkdbjakaaDoorWB
set_option linter.unusedVariables false
set_option linter.unusedSimpArgs false
namespace Go.Proofs.YtdejhenkdbjakaaDoor
open Go Go.RowKit
theorem lder_one (gl n : Nat) (key : Nat → Nat) (hkey : ∀ i, i < 32 → key i < 256) (sb : ByteArray) (lb : List Nat) (hsb : byteCells sb = oct lb) (hl0 : 1 ≤ lb.length) (hl1 : lb.length ≤ 255) (hlb : ∀ x ∈ lb, x < 256) (g m cap : Nat) (l : List Nat) (rest : List Value) (hml : l.length = m) (hc : m ≤ cap) (hms : m < 1000000) (hb : ∀ x ∈ l, x < 256) (ad cp : Nat) (arr : Array Value) (ha : arr = #[.slice (some ⟨g, 0, none⟩) m cap]) (w : World) (hg : w.heap[g]? = some (.cells (sl (oct l) rest) 5 (0, 0))) (hblk : w.heap[ad]? = some (.cells arr 54 (0, 0))) (hm : w.heap[gl]? = some (.cells (lgr n) 32 (0, 0))) : Calls Tryd.prog 69 #[.pointer (some ⟨gl, 0, none⟩), .agg (arrF .u8 32 key), .string sb, .slice (some ⟨ad, 0, none⟩) 1 cp] w fun e w' => ∃ r : SlR, e = .returned (.agg (arrF .u8 32 (derK key lb [l]))) ∧ True ∧ Kept [gl] w w' ∧ w'.heap[gl]? = some (.cells (lgr r.n) 32 (0, 0)) := by
  subst ha
  have hcp : catP [(⟨some ⟨g, 0, none⟩, m, cap, l⟩ : SlP)] = l := by simp [catP]
  exact lder_any gl n key hkey sb lb hsb hl0 hl1 hlb [⟨some ⟨g, 0, none⟩, m, cap, l⟩] (by rw [hcp, hml]; simp; omega) ad cp _ 54 (arr_of [⟨some ⟨g, 0, none⟩, m, cap, l⟩] rfl) w ⟨RdS.all hg hc, hml, trivial⟩ hblk (by rw [hcp]; exact hb) (fun p hp ad n c e h => by
    simp only [List.mem_singleton] at hp
    subst hp
    cases e
    exact ne_of_ty hg hm rfl (List.mem_singleton.1 h)) (ne_of_ty hm hblk rfl) hm

set_option maxRecDepth 100000 in
set_option maxHeartbeats 4000000 in
theorem lbegin_any (gl n : Nat) (seed : Nat → Nat) (hseed : ∀ i, i < 32 → seed i < 256) (ch : Int) (w : World) (hm : w.heap[gl]? = some (.cells (lgr n) 32 (0, 0))) : Calls Tryd.prog 56 #[.pointer (some ⟨gl, 0, none⟩), .agg (arrF .u8 32 seed), .int .i64 ch] w fun e w' => ∃ r : SlR, e = .returned (.agg (arrF .u8 32 (begF seed ch))) ∧ True ∧ Kept [gl] w w' ∧ w'.heap[gl]? = some (.cells (lgr r.n) 32 (0, 0)) := by
  obtain ⟨fq, hfq⟩ : ∃ fq, fq = begF seed ch := ⟨_, rfl⟩
  rw [← hfq]
  refine C_enter Tryd.func56 rfl 14 Tryd.ntmps56 (Nat.le_of_ble_eq_true rfl) (fun a F => ?_)
  have H := Hp.startX hm
  replace F : Fm 14 [] [(0, pt gl 0), (1, kyV seed), (2, .int .i64 ch)] a := F.weak _ (subL_of kr)
  refine C_seqK (fun K1 hK1 => ?_)
  refine C_region ?_
  refine T_new F H kr (fun ad => pt ad 0) (ce (arrF .u8 32 seed) 23) (fun w => kr) ?_
  clear F H; intro aq2 a v F H
  refine T_new F H kr (fun ad => pt ad 0) (ce z8 23) (fun w => kr) ?_
  clear F H; intro aq3 a v F H
  refine wpList_nil ?_
  refine hK1 _ _ ?_
  clear hK1
  try clear K1
  refine C_seqK (fun K4 hK4 => ?_)
  refine E_region F H (fun β => [(7, pt gl 0), (8, kyV seed), (9, .int .i64 ch), (10, nu (u64n ch)), (11, sc ((β 4).g) 0 2 (β 4).cap), (12, sc ((β 5).g) 0 1 1), (13, kyV fq)]) [7, 8, 9, 10, 11, 12, 13] [⟨some 4, none, 0, [4], fun q_ => ce (sl (oct (hb ch 2)) (gh q_ 0).rest) 5, fun q_ => Own (oct (hb ch 2)) (gh q_ 0).rest (2) (gh q_ 0).cap 1, []⟩,
    ⟨some 5, none, 0, [4], fun q_ => ce #[sc ((gh q_ 0).g) 0 2 (gh q_ 0).cap] 54, gT, []⟩,
    ⟨none, none, gl, [], fun q_ => ce (lgr n) 32, gT, [⟨6, [6], fun q_ => ce (lgr (gh q_ 0).n) 32, gT⟩]⟩,
    ⟨none, none, aq3, [], fun q_ => ce z8 23, gT, [⟨7, [], fun q_ => ce (arrF .u8 32 fq) 23, gT⟩]⟩] [bk aq2 (arrF .u8 32 seed) 23] [2, 0, 1] 2 [] kr kr kr (fun β => rfl) ⟨fun h _ => Bool.noConfusion h, ⟨fun h _ => Bool.noConfusion h, ⟨fun _ _ => trivial, ⟨fun _ _ => trivial, trivial⟩⟩⟩⟩ ⟨?_, ?_, ?_, ?_, ?_, ?_, ?_, ?_, trivial⟩ ?_
  · exact E_k 14 (fun β => pt gl 0) 7 2
  · exact E_v 14 (fun β => kyV seed) 8 2 [] (fun β w hk hl hq => R_loadH hl (own := true) (g := aq2) (all := (arrF .u8 32 seed)) (t := 23) (fr := (0, 0)) 0 kr 23 (.tmp 4) rfl 0 kr (arrF .u8 32 seed) (part_all _) _ Tryd.underlying23 rfl (by rw [arrF_size]; kernel_rfl))
  · exact E_k 14 (fun β => .int .i64 ch) 9 2
  · exact E_v 14 (fun β => nu (u64n ch)) 10 2 [] (fun β w hk hl hq => R_conv (x := (.tmp 9)) rfl (k0 := .i64) kr kr (k := .i64) (a := ch) kr (wrapu64n _) w)
  · exact E_callS 14 kq (fun β => sc ((β 4).g) 0 2 (β 4).cap) 11 rfl kq 2 (fun β r => offAt2_of kr kr) 50 (fun β => #[nu (u64n ch), ni 2]) (fun β w => kr) 2 [] 0 _ rfl kr kr rfl (fun β w hk hl hq => highR_any (u64n ch) 2 (u64n_lt _) (by omega) (by omega) _)
  · exact E_new 14 kq (fun β => sc ((β 5).g) 0 1 1) 12 rfl kq 2 (fun β r => offAt2_of kr kr) 2 [] 1 _ rfl kr kr rfl (fun β w hk hl hq => ⟨⟨w.heap.size, 0, [], 0⟩, _, (R_buildS (len := 1) rfl Tryd.underlying30 (#[sc ((β 4).g) 0 2 (β 4).cap]) kr w), trivial, Nat.le_refl _, heap_alloc_new _ _, Kept.alloc _ _⟩)
  · exact E_callP 14 kq (fun β => kyV fq) 13 rfl kq 2 (fun β r => offAt2_of kr kr) 69 (fun β => #[pt gl 0, kyV seed, .string ⟨#[99, 104, 97, 105, 110]⟩, sc ((β 5).g) 0 1 1]) (fun β w => kr) 2 [(0, 0), (1, 0)] 2 0 _ _ rfl rfl kr kr rfl (fun β w hk hl hq hm => (lder_one gl n seed hseed ⟨#[99, 104, 97, 105, 110]⟩ sChain rfl (by decide) (by decide) (by decide) (β 4).g 2 ((β 4).cap) (hb ch 2) _ (hb_len _ _) hq.1.1.le (by omega) (hb_lt _ _) _ _ (#[sc ((β 4).g) 0 2 (β 4).cap]) rfl _ (hl.at_ (k := 0) rfl) (hl.at_ (k := 1) rfl) hm).mono (fun _ _ ⟨r, q1, q2⟩ => ⟨r, by rw [q1, hfq]; rfl, q2⟩))
  · exact E_store 14 kq rfl 2 [] 3 0 _ _ rfl rfl kr rfl (fun _ => trivial) (fun β w hk hl hq hm => let ⟨w', h1, h2, h3⟩ := P_row (cs := (arrF .u8 32 fq)) (old := z8) rfl rfl (ty := 23) (x := (.tmp 6)) (y := (.tmp 13)) rfl kr kr (by rw [arrF_size]; kernel_rfl) (by rw [arrF_size]; kernel_rfl) (arrF_one _ _ _) hm; ⟨w', h1, h2, h3⟩)
  clear F H; intro β a v Q F H
  replace H : Hp [gl] w [bk ((β 4).g) (sl (oct (hb ch 2)) (β 4).rest) 5, bk ((β 5).g) #[sc ((β 4).g) 0 2 (β 4).cap] 54, bk gl (lgr (β 6).n) 32, bk aq3 (arrF .u8 32 fq) 23, bk aq2 (arrF .u8 32 seed) 23] v := H
  replace F : Fm 14 [] [(13, kyV fq), (12, sc ((β 5).g) 0 1 1), (11, sc ((β 4).g) 0 2 (β 4).cap), (10, nu (u64n ch)), (9, .int .i64 ch), (8, kyV seed), (7, pt gl 0), (6, pt aq3 0), (4, pt aq2 0), (0, pt gl 0), (1, kyV seed), (2, .int .i64 ch)] a := F.weak _ (subL_of kr)
  have Qh7_0 : Own (oct (hb ch 2)) (β 4).rest (2) (β 4).cap 1 := Q.1
  clear Q
  generalize β 4 = rq5 at F H Qh7_0
  generalize β 5 = rq6 at F H Qh7_0
  generalize β 6 = rq7 at F H Qh7_0
  skip
  refine ?_
  refine hK4 _ _ ?_
  clear hK4
  try clear K4
  refine wp_ret ?_
  exact C_ret F H (rs := [.cell 6 23]) rfl (vs := [kyV fq]) (.row 3 rfl rfl _ Tryd.underlying23 rfl kr .nil) (kyV fq) rfl ⟨⟨0, 0, [], rq7.n⟩, rfl, trivial, H.kept, H.at_ (k := 2) rfl⟩

set_option maxRecDepth 100000 in
set_option maxHeartbeats 4000000 in
theorem lpublic_any (gl n : Nat) (seed : Nat → Nat) (hseed : ∀ i, i < 32 → seed i < 256) (tag : Nat → Nat) (ht : ∀ i, i < 32 → tag i < 256) (w : World) (hm : w.heap[gl]? = some (.cells (lgr n) 32 (0, 0))) : Calls Tryd.prog 24 #[.pointer (some ⟨gl, 0, none⟩), .agg (arrF .u8 32 seed), .agg (arrF .u8 32 tag)] w fun e w' => ∃ r : SlR, e = .returned (.agg (arrF .u8 32 (shaK (endK tag (pbK seed tag) 67)))) ∧ True ∧ Kept [gl] w w' ∧ w'.heap[gl]? = some (.cells (lgr r.n) 32 (0, 0)) := by
  obtain ⟨pk, hpk⟩ : ∃ pk, pk = shaK (endK tag (pbK seed tag) 67) := ⟨_, rfl⟩
  rw [← hpk]
  have hpl := fun k i (h : i < 32) => pbK_lt seed tag k i h
  refine C_enter Tryd.func24 rfl 29 Tryd.ntmps24 (Nat.le_of_ble_eq_true rfl) (fun a F => ?_)
  have H := Hp.startX hm
  replace F : Fm 29 [] [(0, pt gl 0), (1, kyV seed), (2, kyV tag)] a := F.weak _ (subL_of kr)
  refine C_seqK (fun K1 hK1 => ?_)
  refine C_region ?_
  refine T_new F H kr (fun ad => pt ad 0) (ce (arrF .u8 32 seed) 23) (fun w => kr) ?_
  clear F H; intro aq2 a v F H
  refine T_new F H kr (fun ad => pt ad 0) (ce (arrF .u8 32 tag) 23) (fun w => kr) ?_
  clear F H; intro aq3 a v F H
  refine T_new F H kr (fun ad => pt ad 0) (ce z8 23) (fun w => kr) ?_
  clear F H; intro aq4 a v F H
  refine wpList_nil ?_
  refine hK1 _ _ ?_
  clear hK1
  try clear K1
  refine C_seqK (fun K5 hK5 => ?_)
  refine C_region ?_
  refine T_val F H kr (kyV tag) (R_load (own := true) (g := aq3) (all := (arrF .u8 32 tag)) (t := 23) (fr := (0, 0)) 1 kr 23 (.tmp 5) rfl 0 kr (arrF .u8 32 tag) (part_all _) _ Tryd.underlying23 rfl (by rw [arrF_size]; kernel_rfl)) ?_
  clear F; intro a F
  refine T_callX (α := SlR) F H kr 47 #[kyV tag] (fun rX => sc rX.g 0 32 rX.cap) (fun rX => [bk rX.g (sl (oct (kl tag)) rX.rest) 5, bk aq4 z8 23, bk aq3 (arrF .u8 32 tag) 23, bk aq2 (arrF .u8 32 seed) 23, bk gl (lgr n) 32]) (fun rX => Own (oct (kl tag)) rX.rest (32) rX.cap 1) (fun w => kr) (fun w H => callsX_newV H (bytesR_any tag _)) ?_
  clear F H; intro rq6 a v Qrq6 F H
  refine T_k F H (sc rq6.g 0 32 rq6.cap) ?_
  clear F; intro a F
  refine wpList_nil ?_
  refine hK5 _ _ ?_
  clear hK5
  try clear K5
  refine C_seqK (fun K7 hK7 => ?_)
  refine C_seqK (fun K8 hK8 => ?_)
  refine C_region ?_
  refine T_k F H (ni 0) ?_
  clear F; intro a F
  refine wpList_nil ?_
  replace F : Fm 29 [] [(8, ni 0), (7, sc rq6.g 0 32 rq6.cap), (0, pt gl 0), (4, pt aq2 0), (5, pt aq3 0), (6, pt aq4 0)] a := F.weak _ (subL_of kr)
  replace H : Hp [gl] w [bk rq6.g (sl (oct (kl tag)) rq6.rest) 5, bk gl (lgr n) 32, bk aq2 (arrF .u8 32 seed) 23, bk aq3 (arrF .u8 32 tag) 23, bk aq4 z8 23] v := H.pick [0, 4, 3, 2, 1] kr _ rfl
  refine hK8 _ _ ?_
  clear hK8
  try clear K8
  refine wp_block ?_
  refine C_loop (fun m a v => ∃ (k : Nat) (r : SlR) (c : Nat), k + m = 67 ∧ Own (oct (endK tag (pbK seed tag) k)) r.rest (32 + 32 * k) r.cap 1 ∧ Fm 29 [] [(8, ni k), (7, sc r.g 0 (32 + 32 * k) r.cap), (0, pt gl 0), (4, pt aq2 0), (5, pt aq3 0), (6, pt aq4 0)] a ∧ Hp [gl] w [bk r.g (sl (oct (endK tag (pbK seed tag) k)) r.rest) 5, bk gl (lgr c) 32, bk aq2 (arrF .u8 32 seed) 23, bk aq3 (arrF .u8 32 tag) 23, bk aq4 z8 23] v) (67) ⟨0, rq6, n, Nat.zero_add _, Qrq6, F, H⟩ ?_
  clear F H
  intro m a v ⟨k, r, c, hk, hO, F, H⟩
  rcases m with _ | m
  rotate_left
  · skip
    refine C_seqK (fun K9 hK9 => ?_)
    refine C_seqK (fun K10 hK10 => ?_)
    refine C_region ?_
    refine T_k F H (ni k) ?_
    clear F; intro a F
    refine T_val F H kr (.bool true) (fun w _ => R_bin (x := (.tmp 11)) (y := (.const (.int .i64 67))) rfl (k := .i64) (a := ((k : Nat) : Int)) (b := ((67 : Nat) : Int)) kr kr (i_lt (by omega)) w) ?_
    clear F; intro a F
    refine wpList_nil ?_
    refine hK10 _ _ ?_
    clear hK10
    try clear K10
    refine C_if F true rfl rfl ?_
    refine wp_skip ?_
    refine hK9 _ _ ?_
    clear hK9
    try clear K9
    refine C_seqK (fun K11 hK11 => ?_)
    refine wp_block ?_
    refine E_region F H (fun β => [(15, sc r.g 0 (32 + 32 * k) r.cap), (16, pt gl 0), (17, kyV tag), (18, ni k), (19, pt gl 0), (20, kyV seed), (21, ni k), (22, kyV (begF seed (((k : Nat) : Int)))), (23, kyV (pbK seed tag k)), (24, sc ((β 9).g) 0 32 (β 9).cap), (25, sc ((β 10).g) 0 ((32 + 32 * k) + 32) (β 10).cap), (7, sc ((β 10).g) 0 ((32 + 32 * k) + 32) (β 10).cap)]) [15, 16, 17, 18, 19, 20, 21, 22, 23, 24, 25, 7] [⟨some 9, none, 0, [9], fun q_ => ce (sl (oct (kl (pbK seed tag k))) (gh q_ 0).rest) 5, fun q_ => Own (oct (kl (pbK seed tag k))) (gh q_ 0).rest (32) (gh q_ 0).cap 1, []⟩,
      ⟨some 10, none, 0, [10], fun q_ => ce (sl ((oct (endK tag (pbK seed tag) k)) ++ (oct (kl (pbK seed tag k)))) (gh q_ 0).rest) 5, fun q_ => Own ((oct (endK tag (pbK seed tag) k)) ++ (oct (kl (pbK seed tag k)))) (gh q_ 0).rest (((32 + 32 * k) + 32)) (gh q_ 0).cap 1, []⟩,
      ⟨none, none, gl, [], fun q_ => ce (lgr c) 32, gT, [⟨7, [7], fun q_ => ce (lgr (gh q_ 0).n) 32, gT⟩, ⟨8, [8], fun q_ => ce (lgr (gh q_ 0).n) 32, gT⟩]⟩,
      ⟨none, some 10, r.g, [], fun q_ => ce (sl (oct (endK tag (pbK seed tag) k)) r.rest) 5, gT, []⟩] [bk aq2 (arrF .u8 32 seed) 23, bk aq3 (arrF .u8 32 tag) 23, bk aq4 z8 23] [1, 0, 2, 3, 4] 2 [(0, [7])] kr kr kr (fun β => rfl) ⟨fun h _ => Bool.noConfusion h, ⟨fun h _ => Bool.noConfusion h, ⟨fun _ _ => trivial, ⟨fun _ _ => trivial, trivial⟩⟩⟩⟩ ⟨?_, ?_, ?_, ?_, ?_, ?_, ?_, ?_, ?_, ?_, ?_, ?_, trivial⟩ ?_
    · exact E_k 29 (fun β => sc r.g 0 (32 + 32 * k) r.cap) 15 2
    · exact E_k 29 (fun β => pt gl 0) 16 2
    · exact E_v 29 (fun β => kyV tag) 17 2 [] (fun β w hk hl hq => R_loadH hl (own := true) (g := aq3) (all := (arrF .u8 32 tag)) (t := 23) (fr := (0, 0)) 1 kr 23 (.tmp 5) rfl 0 kr (arrF .u8 32 tag) (part_all _) _ Tryd.underlying23 rfl (by rw [arrF_size]; kernel_rfl))
    · exact E_k 29 (fun β => ni k) 18 2
    · exact E_k 29 (fun β => pt gl 0) 19 2
    · exact E_v 29 (fun β => kyV seed) 20 2 [] (fun β w hk hl hq => R_loadH hl (own := true) (g := aq2) (all := (arrF .u8 32 seed)) (t := 23) (fr := (0, 0)) 0 kr 23 (.tmp 4) rfl 0 kr (arrF .u8 32 seed) (part_all _) _ Tryd.underlying23 rfl (by rw [arrF_size]; kernel_rfl))
    · exact E_k 29 (fun β => ni k) 21 2
    · exact E_callP 29 kq (fun β => kyV (begF seed (((k : Nat) : Int)))) 22 rfl kq 2 (fun β r => offAt2_of kr kr) 56 (fun β => #[pt gl 0, kyV seed, ni k]) (fun β w => kr) 2 [] 2 0 _ _ rfl rfl kr kr rfl (fun β w hk hl hq hm => lbegin_any gl c seed hseed (((k : Nat) : Int)) _ hm)
    · exact E_callP 29 kq (fun β => kyV (pbK seed tag k)) 23 rfl kq 2 (fun β r => offAt2_of kr kr) 20 (fun β => #[pt gl 0, kyV tag, ni k, ni 0, ni 15, kyV (begF seed (((k : Nat) : Int)))]) (fun β w => kr) 2 [] 2 1 _ _ rfl rfl kr kr rfl (fun β w hk hl hq hm => (lalong_any gl (β 7).n tag ht (((k : Nat) : Int)) (((0 : Nat) : Int)) (((15 : Nat) : Int)) (by omega) (by omega) (begF seed (((k : Nat) : Int))) (fun i _ => begF_lt _ _ i) _ hm).mono (fun _ _ ⟨r, q1, q2⟩ => ⟨r, by rw [q1]; rfl, q2⟩))
    · exact E_callS 29 kq (fun β => sc ((β 9).g) 0 32 (β 9).cap) 24 rfl kq 2 (fun β r => offAt2_of kr kr) 47 (fun β => #[kyV (pbK seed tag k)]) (fun β w => kr) 2 [] 0 _ rfl kr kr rfl (fun β w hk hl hq => bytesR_any (pbK seed tag k) _)
    · exact E_app 29 kq (fun β => sc ((β 10).g) 0 ((32 + 32 * k) + 32) (β 10).cap) 25 rfl kq 2 (fun β r => offAt2_of kr kr) 2 [(0, 0)] 1 2 _ _ rfl rfl kr kr rfl rfl (fun β w hk hl hq hm => let ⟨r, w', h1, h2, h3, h4⟩ := run_app (size := 1) (bytes := 1) (t := 54) (e := 5) kr kr hO hm (x := sc ((β 9).g) 0 32 (β 9).cap) (m := 32) (news := oct (kl (pbK seed tag k))) (RdS.all (hl.at_ (k := 0) rfl) (Own.le hq.1.1)) (by rw [ints_len]; first | rfl | simp [highL_len, hb_len]) (ints_one _ _) (by simp only [maxLen]; omega) (by omega); ⟨r, w', exec_append (s := (.tmp 15)) (x := (.tmp 24)) rfl kr rfl h1, h2, h3, h4⟩)
    · exact E_k 29 (fun β => sc ((β 10).g) 0 ((32 + 32 * k) + 32) (β 10).cap) 7 2
    clear F H; intro β a v Q F H
    replace H : Hp [gl] w [bk ((β 9).g) (sl (oct (kl (pbK seed tag k))) (β 9).rest) 5, bk ((β 10).g) (sl ((oct (endK tag (pbK seed tag) k)) ++ (oct (kl (pbK seed tag k)))) (β 10).rest) 5, bk gl (lgr (β 8).n) 32, bk aq2 (arrF .u8 32 seed) 23, bk aq3 (arrF .u8 32 tag) 23, bk aq4 z8 23] v := H
    replace F : Fm 29 [] [(7, sc ((β 10).g) 0 ((32 + 32 * k) + 32) (β 10).cap), (25, sc ((β 10).g) 0 ((32 + 32 * k) + 32) (β 10).cap), (24, sc ((β 9).g) 0 32 (β 9).cap), (23, kyV (pbK seed tag k)), (22, kyV (begF seed (((k : Nat) : Int)))), (21, ni k), (20, kyV seed), (19, pt gl 0), (18, ni k), (17, kyV tag), (16, pt gl 0), (15, sc r.g 0 (32 + 32 * k) r.cap), (12, .bool true), (11, ni k), (8, ni k), (0, pt gl 0), (4, pt aq2 0), (5, pt aq3 0), (6, pt aq4 0)] a := F.weak _ (subL_of kr)
    have Qh15_0 : Own (oct (kl (pbK seed tag k))) (β 9).rest (32) (β 9).cap 1 := Q.1
    have Qh15_1 : Own ((oct (endK tag (pbK seed tag) k)) ++ (oct (kl (pbK seed tag k)))) (β 10).rest (((32 + 32 * k) + 32)) (β 10).cap 1 := Q.2.2.1
    clear Q
    generalize β 9 = rq12 at F H Qh15_0 Qh15_1
    generalize β 10 = rq13 at F H Qh15_0 Qh15_1
    generalize β 7 = rq14 at F H Qh15_0 Qh15_1
    generalize β 8 = rq15 at F H Qh15_0 Qh15_1
    skip
    refine ?_
    have hc9 : (oct (endK tag (pbK seed tag) k)) ++ (oct (kl (pbK seed tag k))) = oct (endK tag (pbK seed tag) (k + 1)) := (ints_app .u8 _ _).symm
    rw [hc9] at H Qh15_1
    have hln : ((32 + 32 * k) + 32) = 32 + 32 * (k + 1) := by omega
    rw [hln] at F Qh15_1
    have Qrq13' : Own (oct (endK tag (pbK seed tag) (k + 1))) rq13.rest (32 + 32 * (k + 1)) rq13.cap 1 := Qh15_1
    replace F : Fm 29 [] [(7, sc rq13.g 0 (32 + 32 * (k + 1)) rq13.cap), (8, ni k), (0, pt gl 0), (4, pt aq2 0), (5, pt aq3 0), (6, pt aq4 0)] a := F.weak _ (subL_of kr)
    replace H : Hp [gl] w [bk rq13.g (sl (oct (endK tag (pbK seed tag) (k + 1))) rq13.rest) 5, bk gl (lgr rq15.n) 32, bk aq2 (arrF .u8 32 seed) 23, bk aq3 (arrF .u8 32 tag) 23, bk aq4 z8 23] v := H.pick [1, 2, 3, 4, 5] kr _ rfl
    refine hK11 _ _ ?_
    clear hK11
    try clear K11
    refine C_region ?_
    refine T_k F H (ni k) ?_
    clear F; intro a F
    refine T_val F H kr (ni (k + 1)) (fun w _ => R_bin (x := (.tmp 13)) (y := (.const (.int .i64 1))) rfl (k := .i64) (a := ((k : Nat) : Int)) (b := ((1 : Nat) : Int)) kr kr (i_addn64 (a := k) (b := 1) (by omega)) w) ?_
    clear F; intro a F
    refine T_k F H (ni (k + 1)) ?_
    clear F; intro a F
    refine wpList_nil ?_
    replace F : Fm 29 [] [(8, ni (k + 1)), (7, sc rq13.g 0 (32 + 32 * (k + 1)) rq13.cap), (0, pt gl 0), (4, pt aq2 0), (5, pt aq3 0), (6, pt aq4 0)] a := F.weak _ (subL_of kr)
    replace H : Hp [gl] w [bk rq13.g (sl (oct (endK tag (pbK seed tag) (k + 1))) rq13.rest) 5, bk gl (lgr rq15.n) 32, bk aq2 (arrF .u8 32 seed) 23, bk aq3 (arrF .u8 32 tag) 23, bk aq4 z8 23] v := H
    exact ⟨m, Nat.lt_succ_self m, k + 1, rq13, rq15.n, by omega, Qrq13', F, H⟩
  have hkt : k = 67 := by omega
  rw [hkt] at F H hO
  clear hk
  refine C_seqK (fun K16 hK16 => ?_)
  refine C_seqK (fun K17 hK17 => ?_)
  refine C_region ?_
  refine T_k F H (ni 67) ?_
  clear F; intro a F
  refine T_val F H kr (.bool false) (fun w _ => R_bin (x := (.tmp 11)) (y := (.const (.int .i64 67))) rfl (k := .i64) (a := ((67 : Nat) : Int)) (b := ((67 : Nat) : Int)) kr kr (i_nlt (by omega)) w) ?_
  clear F; intro a F
  refine wpList_nil ?_
  refine hK17 _ _ ?_
  clear hK17
  try clear K17
  refine C_if F false rfl rfl ?_
  refine wp_exit ?_
  refine hK7 _ _ ?_
  clear hK7
  try clear K7
  refine C_seqK (fun K18 hK18 => ?_)
  refine C_region ?_
  refine T_k F H (pt gl 0) ?_
  clear F; intro a F
  refine T_k F H (sc r.g 0 (32 + 32 * 67) r.cap) ?_
  clear F; intro a F
  refine T_callX (α := SlR) F H kr 51 #[pt gl 0, sc r.g 0 (32 + 32 * 67) r.cap] (fun rX => kyV pk) (fun rX => [bk r.g (sl (oct (endK tag (pbK seed tag) 67)) r.rest) 5, bk gl (lgr rX.n) 32, bk aq2 (arrF .u8 32 seed) 23, bk aq3 (arrF .u8 32 tag) 23, bk aq4 z8 23]) (fun rX => True) (fun w => kr) (fun w H => callsX_putV H (k := 1) rfl ((lsum_blk gl c r.g ((32 + 32 * 67)) (r.cap) (endK tag (pbK seed tag) 67) _ (endK_len _ _ _) hO.le (by decide) (endK_lt ht hpl 67) _ (H.at_ (k := 0) rfl) (H.at_ (k := 1) rfl)).mono (fun _ _ ⟨r, q1, q2⟩ => ⟨r, by rw [q1, hpk], q2⟩))) ?_
  clear F H; intro rq19 a v Qrq19 F H
  refine T_set F H kr rfl 4 rfl (arrF .u8 32 pk) (S_row 4 rfl 23 (.tmp 6) (.tmp 28) rfl kr (arrF .u8 32 pk) kr (by rw [arrF_size]; kernel_rfl) (by rw [arrF_size]; kernel_rfl) (arrF_one _ _ _)) [bk r.g (sl (oct (endK tag (pbK seed tag) 67)) r.rest) 5, bk gl (lgr rq19.n) 32, bk aq2 (arrF .u8 32 seed) 23, bk aq3 (arrF .u8 32 tag) 23, bk aq4 (arrF .u8 32 pk) 23] rfl ?_
  clear F H; intro a v F H
  refine wpList_nil ?_
  refine hK18 _ _ ?_
  clear hK18
  try clear K18
  refine wp_ret ?_
  exact C_ret F H (rs := [.cell 6 23]) rfl (vs := [kyV pk]) (.row 4 rfl rfl _ Tryd.underlying23 rfl kr .nil) (kyV pk) rfl ⟨⟨0, 0, [], rq19.n⟩, rfl, trivial, H.kept, H.at_ (k := 1) rfl⟩
end Go.Proofs.YtdejhenkdbjakaaDoor
