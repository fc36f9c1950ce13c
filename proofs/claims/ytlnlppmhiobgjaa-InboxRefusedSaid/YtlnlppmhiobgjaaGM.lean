/- Walks: inbox.Fetch, Unread. -/
import Derived.Test.YtlnlppmhiobgjaaGL
set_option linter.unusedVariables false
set_option linter.unusedSimpArgs false
namespace Go.Proofs.Ytlnlppmhiobgjaa
open Go Go.RowKit
theorem sliceOne {g off h cap : Nat} : (Value.slice (if cap = 1 then some ⟨g, off, none⟩ else (some (⟨g, off, none⟩ : Addr)).map (·.add (1 * 1))) (h - 1) (cap - 1)) = .slice (if cap = 1 then some ⟨g, off, none⟩ else some ⟨g, off + 1, none⟩) (h - 1) (cap - 1) := by
  have e : (⟨g, off, none⟩ : Addr).add (1 * 1) = ⟨g, off + 1, none⟩ := by unfold Addr.add; split <;> simp_all
  rw [Option.map_some, e]
theorem Hp.mergeN {X : List Nat} {w0 : World} {L L' : List Blk} {w w' : World} (H : Hp X w0 L w) (H' : Hp [] w L' w') (hown : ∀ p ∈ L', p.own = true) : Hp X w0 (L' ++ L) w' := Hp.merge2 (A := []) H rfl rfl H' hown

set_option maxRecDepth 100000 in
set_option maxHeartbeats 4000000 in
theorem fetch_none (xb c : Nat) (ua : Option Addr) (hv : Value) (w : World) (hx : w.heap[xb]? = some (.cells #[hv, .slice ua 0 c] 28 (0, 0))) : Calls Try.prog 11 #[.pointer (some ⟨xb, 0, none⟩)] w fun e w' => e = .returned (.tuple #[.slice none 0 0, .int .i64 90]) ∧ Kept [] w w' := by
  refine C_enter Try.func11 rfl 26 Try.ntmps11 (Nat.le_of_ble_eq_true rfl) (fun a F => ?_)
  have H := Hp.start1 [] hx
  replace F : Fm 26 [] [(0, pt xb 0)] a := F.weak _ (subL_of kr)
  refine C_seqK (fun K1 hK1 => ?_)
  refine C_region ?_
  refine T_k F H (.slice none 0 0) ?_
  clear F; intro a F
  refine T_k F H (ni 0) ?_
  clear F; intro a F
  refine wpList_nil ?_
  refine hK1 _ _ ?_
  clear hK1
  try clear K1
  refine C_seqK (fun K2 hK2 => ?_)
  refine C_seqK (fun K3 hK3 => ?_)
  refine C_region ?_
  refine T_k F H (pt xb 0) ?_
  clear F; intro a F
  refine T_k F H (pt xb 0) ?_
  clear F; intro a F
  refine T_k F H (pt xb 1) ?_
  clear F; intro a F
  refine T_val F H kr (.slice ua 0 c) (R_cell  0 rfl 26 (.tmp 7) rfl 1 kr (.slice ua 0 c) kr _ Try.underlying26 rfl) ?_
  clear F; intro a F
  refine T_k F H (ni 0) ?_
  clear F; intro a F
  refine T_k F H (.bool true) ?_
  clear F; intro a F
  refine wpList_nil ?_
  refine hK3 _ _ ?_
  clear hK3
  try clear K3
  refine C_if F true rfl rfl ?_
  refine C_seqK (fun K4 hK4 => ?_)
  refine C_region ?_
  refine T_k F H (.slice none 0 0) ?_
  clear F; intro a F
  refine T_k F H (ni 90) ?_
  clear F; intro a F
  refine wpList_nil ?_
  refine hK4 _ _ ?_
  clear hK4
  try clear K4
  refine wp_ret ?_
  repeat (first | with_reducible refine then_ret ?_ | with_reducible refine inB_ret ?_)
  exact C_ret F H (rs := [.tmp 2, .tmp 3]) rfl (vs := [.slice none 0 0, ni 90]) (.tmp rfl (.tmp rfl .nil)) (.tuple #[.slice none 0 0, ni 90]) rfl ⟨rfl, H.kept⟩

set_option maxRecDepth 100000 in
set_option maxHeartbeats 4000000 in
theorem fetch_one (xb n : Nat) (r : SlR) (v0 : Value) (vs : List Value) (hv : Value) (w : World) (hx : w.heap[xb]? = some (.cells #[hv, .slice (some ⟨r.g, r.n, none⟩) (n + 1) r.cap] 28 (0, 0))) (hg : w.heap[r.g]? = some (.cells r.rest.toArray 30 (0, 0))) (hO : OwnO (v0 :: vs) r (n + 1)) (hne : xb ≠ r.g) : Calls Try.prog 11 #[.pointer (some ⟨xb, 0, none⟩)] w fun e w' => e = .returned (.tuple #[v0, .int .i64 0]) ∧ Hp [xb] w [⟨true, xb, .cells #[hv, .slice (if r.cap = 1 then some ⟨r.g, r.n, none⟩ else some ⟨r.g, r.n + 1, none⟩) n (r.cap - 1)] 28 (0, 0)⟩] w' := by
  refine C_enter Try.func11 rfl 26 Try.ntmps11 (Nat.le_of_ble_eq_true rfl) (fun a F => ?_)
  have H : Hp [xb] w [bk xb #[hv, sc r.g r.n (n + 1) r.cap] 28, br r.g (r.rest.toArray) 30] w := Hp.startWR hx hg hne
  replace F : Fm 26 [] [(0, pt xb 0)] a := F.weak _ (subL_of kr)
  refine C_seqK (fun K1 hK1 => ?_)
  refine C_region ?_
  refine T_k F H (.slice none 0 0) ?_
  clear F; intro a F
  refine T_k F H (ni 0) ?_
  clear F; intro a F
  refine wpList_nil ?_
  refine hK1 _ _ ?_
  clear hK1
  try clear K1
  refine C_seqK (fun K2 hK2 => ?_)
  refine C_seqK (fun K3 hK3 => ?_)
  refine C_region ?_
  refine T_k F H (pt xb 0) ?_
  clear F; intro a F
  refine T_k F H (pt xb 0) ?_
  clear F; intro a F
  refine T_k F H (pt xb 1) ?_
  clear F; intro a F
  refine T_val F H kr (sc r.g r.n (n + 1) r.cap) (R_cell (own := true) (g := xb) (all := #[hv, sc r.g r.n (n + 1) r.cap]) (t := 28) (fr := (0, 0)) 0 kr 26 (.tmp 7) rfl 1 kr (sc r.g r.n (n + 1) r.cap) kr _ Try.underlying26 rfl) ?_
  clear F; intro a F
  refine T_k F H (ni (n + 1)) ?_
  clear F; intro a F
  refine T_val F H kr (.bool false) (fun w _ => R_bin (x := (.tmp 9)) (y := (.const (.int .i64 0))) rfl (k := .i64) (a := (((n + 1) : Nat) : Int)) (b := ((0 : Nat) : Int)) kr kr (i_eqd.trans (by rw [decide_eq_false (by omega)])) w) ?_
  clear F; intro a F
  refine wpList_nil ?_
  refine hK3 _ _ ?_
  clear hK3
  try clear K3
  refine C_if F false rfl rfl ?_
  refine wp_skip ?_
  refine hK2 _ _ ?_
  clear hK2
  try clear K2
  refine C_seqK (fun K4 hK4 => ?_)
  refine C_region ?_
  refine T_k F H (pt xb 0) ?_
  clear F; intro a F
  refine T_k F H (pt xb 0) ?_
  clear F; intro a F
  refine T_k F H (pt xb 1) ?_
  clear F; intro a F
  refine T_val F H kr (sc r.g r.n (n + 1) r.cap) (R_cell (own := true) (g := xb) (all := #[hv, sc r.g r.n (n + 1) r.cap]) (t := 28) (fr := (0, 0)) 0 kr 26 (.tmp 13) rfl 1 kr (sc r.g r.n (n + 1) r.cap) kr _ Try.underlying26 rfl) ?_
  clear F; intro a F
  refine T_val F H kr (pt r.g (r.n + (0) * 1)) (fun w _ => R_indexS (k := .i64) (g := r.g) (off := r.n) (len := (n + 1)) (cap := r.cap) (x := (.tmp 14)) (y := (.const (.int .i64 0))) rfl Try.underlying26 kr (0) kr (by omega) (sz := 1) kr w) ?_
  clear F; intro a F
  refine T_val F H kr (v0) (R_cell (own := false) (g := r.g) (all := (r.rest.toArray)) (t := 30) (fr := (0, 0)) 1 kr 30 (.tmp 15) rfl (r.n + (0) * 1) kr v0 (hO.at_ (k := 0) rfl) _ Try.underlying30 rfl) ?_
  clear F; intro a F
  refine T_k F H (v0) ?_
  clear F; intro a F
  refine wpList_nil ?_
  refine hK4 _ _ ?_
  clear hK4
  try clear K4
  refine C_seqK (fun K5 hK5 => ?_)
  refine C_region ?_
  refine T_k F H (pt xb 0) ?_
  clear F; intro a F
  refine T_k F H (pt xb 0) ?_
  clear F; intro a F
  refine T_k F H (pt xb 0) ?_
  clear F; intro a F
  refine T_k F H (pt xb 1) ?_
  clear F; intro a F
  refine T_val F H kr (sc r.g r.n (n + 1) r.cap) (R_cell (own := true) (g := xb) (all := #[hv, sc r.g r.n (n + 1) r.cap]) (t := 28) (fr := (0, 0)) 0 kr 26 (.tmp 20) rfl 1 kr (sc r.g r.n (n + 1) r.cap) kr _ Try.underlying26 rfl) ?_
  clear F; intro a F
  refine T_val F H kr (.slice (if r.cap = 1 then some ⟨r.g, r.n, none⟩ else some ⟨r.g, r.n + 1, none⟩) n (r.cap - 1)) (fun w _ => R_slice (x := (.tmp 21)) (lo := (some (.const (.int .i64 1)))) (hi := none) rfl Try.underlying26 (ad := some ⟨r.g, r.n, none⟩) (len := (n + 1)) (cap := r.cap) kr (1) ((n + 1)) ⟨.i64, kr⟩ rfl (by omega) hO.le (sz := 1) kr _ sliceOne w) ?_
  clear F; intro a F
  refine T_k F H (pt xb 0) ?_
  clear F; intro a F
  refine T_k F H (pt xb 1) ?_
  clear F; intro a F
  refine T_set F H kr rfl 0 rfl _ (S_cell 0 rfl 26 (.tmp 24) (.tmp 22) rfl 1 kr (.slice (if r.cap = 1 then some ⟨r.g, r.n, none⟩ else some ⟨r.g, r.n + 1, none⟩) n (r.cap - 1)) kr rfl (Nat.le_of_ble_eq_true rfl) _ Try.underlying26 rfl kr) [bk xb #[hv, .slice (if r.cap = 1 then some ⟨r.g, r.n, none⟩ else some ⟨r.g, r.n + 1, none⟩) n (r.cap - 1)] 28, br r.g (r.rest.toArray) 30] rfl ?_
  clear F H; intro a v F H
  refine wpList_nil ?_
  refine hK5 _ _ ?_
  clear hK5
  try clear K5
  refine C_seqK (fun K6 hK6 => ?_)
  refine C_region ?_
  refine T_k F H (v0) ?_
  clear F; intro a F
  refine T_k F H (v0) ?_
  clear F; intro a F
  refine T_k F H (ni 0) ?_
  clear F; intro a F
  refine wpList_nil ?_
  refine hK6 _ _ ?_
  clear hK6
  try clear K6
  refine wp_ret ?_
  exact C_ret F H (rs := [.tmp 2, .tmp 3]) rfl (vs := [v0, ni 0]) (.tmp rfl (.tmp rfl .nil)) (.tuple #[v0, ni 0]) rfl ⟨rfl, H.pick [0] kr _ rfl⟩

set_option maxRecDepth 100000 in
set_option maxHeartbeats 4000000 in
theorem unread_none (xb c : Nat) (ua : Option Addr) (hv : Value) (w : World) (hx : w.heap[xb]? = some (.cells #[hv, .slice ua 0 c] 28 (0, 0))) : Calls Try.prog 13 #[.pointer (some ⟨xb, 0, none⟩)] w fun e w' => e = .returned (.slice none 0 0) ∧ Kept [] w w' := by
  refine C_enter Try.func13 rfl 22 Try.ntmps13 (Nat.le_of_ble_eq_true rfl) (fun a F => ?_)
  have H := Hp.start1 [] hx
  replace F : Fm 22 [] [(0, pt xb 0)] a := F.weak _ (subL_of kr)
  refine C_seqK (fun K1 hK1 => ?_)
  refine C_region ?_
  refine T_k F H (.slice none 0 0) ?_
  clear F; intro a F
  refine wpList_nil ?_
  refine hK1 _ _ ?_
  clear hK1
  try clear K1
  refine C_seqK (fun K2 hK2 => ?_)
  refine C_region ?_
  refine T_k F H (.slice none 0 0) ?_
  clear F; intro a F
  refine wpList_nil ?_
  refine hK2 _ _ ?_
  clear hK2
  try clear K2
  refine C_seqK (fun K3 hK3 => ?_)
  refine C_seqK (fun K4 hK4 => ?_)
  refine C_region ?_
  refine T_k F H (pt xb 0) ?_
  clear F; intro a F
  refine T_k F H (pt xb 0) ?_
  clear F; intro a F
  refine T_k F H (pt xb 1) ?_
  clear F; intro a F
  refine T_val F H kr (.slice ua 0 c) (R_cell  0 rfl 26 (.tmp 8) rfl 1 kr (.slice ua 0 c) kr _ Try.underlying26 rfl) ?_
  clear F; intro a F
  refine T_k F H (ni 0) ?_
  clear F; intro a F
  refine T_k F H (ni 0) ?_
  clear F; intro a F
  refine wpList_nil ?_
  refine hK4 _ _ ?_
  clear hK4
  try clear K4
  replace F : Fm 22 [] [(11, ni 0), (10, ni 0), (3, .slice none 0 0)] a := F.weak _ (subL_of kr)
  refine wp_block ?_
  refine C_loop (fun m a v => Fm 22 [] [(11, ni 0), (10, ni 0), (3, .slice none 0 0)] a ∧ Hp [] w [br xb #[hv, .slice ua 0 c] 28] v) 0 ⟨F, H⟩ ?_
  clear F H
  intro m a v ⟨F, H⟩
  refine C_seqK (fun K5 hK5 => ?_)
  refine C_region ?_
  refine T_k F H (.bool false) ?_
  clear F; intro a F
  refine wpList_nil ?_
  refine hK5 _ _ ?_
  clear hK5
  try clear K5
  refine C_seqK (fun K6 hK6 => ?_)
  refine C_if F false rfl rfl ?_
  refine wp_exit ?_
  refine hK3 _ _ ?_
  clear hK3
  try clear K3
  refine C_seqK (fun K7 hK7 => ?_)
  refine C_region ?_
  refine T_k F H (.slice none 0 0) ?_
  clear F; intro a F
  refine T_k F H (.slice none 0 0) ?_
  clear F; intro a F
  refine wpList_nil ?_
  refine hK7 _ _ ?_
  clear hK7
  try clear K7
  refine wp_ret ?_
  exact C_ret F H (rs := [.tmp 2]) rfl (vs := [.slice none 0 0]) (.tmp rfl .nil) (.slice none 0 0) rfl ⟨rfl, H.kept⟩

set_option maxRecDepth 100000 in
set_option maxHeartbeats 4000000 in
theorem unread_any (xb n : Nat) (r : SlR) (cs : List Cl) (hv : Value) (hn8 : n ≤ 8) (w : World) (hx : w.heap[xb]? = some (.cells #[hv, .slice (some ⟨r.g, r.n, none⟩) n r.cap] 28 (0, 0))) (hg : w.heap[r.g]? = some (.cells r.rest.toArray 30 (0, 0))) (hO : OwnO (cs.map Cl.v) r n) (hne : xb ≠ r.g) (hcs : ∀ c ∈ cs, c.ok ∧ c.sv.Rd w) : Calls Try.prog 13 #[.pointer (some ⟨xb, 0, none⟩)] w fun e w' => ∃ o : Ls, e = .returned o.v ∧ o.ok ∧ o.ls = cs.map (·.l) ∧ o.cs.length = n ∧ Hp [] w o.blks w' := by
  refine C_enter Try.func13 rfl 22 Try.ntmps13 (Nat.le_of_ble_eq_true rfl) (fun a F => ?_)
  have H : Hp [] w [br xb #[hv, sc r.g r.n n r.cap] 28, br r.g (r.rest.toArray) 30] w := Hp.start22 hx hg hne
  have hlen : cs.length = n := by have := hO.len; rwa [List.length_map] at this
  replace F : Fm 22 [] [(0, pt xb 0)] a := F.weak _ (subL_of kr)
  refine C_seqK (fun K1 hK1 => ?_)
  refine C_region ?_
  refine T_k F H (.slice none 0 0) ?_
  clear F; intro a F
  refine wpList_nil ?_
  refine hK1 _ _ ?_
  clear hK1
  try clear K1
  refine C_seqK (fun K2 hK2 => ?_)
  refine C_region ?_
  refine T_k F H (.slice none 0 0) ?_
  clear F; intro a F
  refine wpList_nil ?_
  refine hK2 _ _ ?_
  clear hK2
  try clear K2
  refine C_seqK (fun K3 hK3 => ?_)
  refine C_seqK (fun K4 hK4 => ?_)
  refine C_region ?_
  refine T_k F H (pt xb 0) ?_
  clear F; intro a F
  refine T_k F H (pt xb 0) ?_
  clear F; intro a F
  refine T_k F H (pt xb 1) ?_
  clear F; intro a F
  refine T_val F H kr (sc r.g r.n n r.cap) (R_cell (own := false) (g := xb) (all := #[hv, sc r.g r.n n r.cap]) (t := 28) (fr := (0, 0)) 0 kr 26 (.tmp 8) rfl 1 kr (sc r.g r.n n r.cap) kr _ Try.underlying26 rfl) ?_
  clear F; intro a F
  refine T_k F H (ni n) ?_
  clear F; intro a F
  refine T_k F H (ni 0) ?_
  clear F; intro a F
  refine wpList_nil ?_
  refine hK4 _ _ ?_
  clear hK4
  try clear K4
  replace F : Fm 22 [] [(11, ni 0), (10, ni n), (9, sc r.g r.n n r.cap), (3, .slice none 0 0)] a := F.weak _ (subL_of kr)
  replace H : Hp [] w [br r.g (r.rest.toArray) 30] w := H.pick [1] kr _ rfl
  refine wp_block ?_
  refine C_loop (fun m a v => ∃ (k : Nat) (o : Ls), k + m = n ∧ (o.ok ∧ o.ls = (cs.take k).map (·.l) ∧ o.cs.length = k) ∧ Fm 22 [] [(11, ni k), (10, ni n), (9, sc r.g r.n n r.cap), (3, (o.v))] a ∧ Hp [] w ((br r.g (r.rest.toArray) 30) :: o.blks) v) n ⟨0, ⟨true, 0, 0, [], []⟩, Nat.zero_add _, ⟨⟨fun _ => rfl, (fun e => by cases e), fun c hc => by cases hc⟩, rfl, rfl⟩, F, H⟩ ?_
  clear F H
  intro m a v ⟨k, o, hk, hI, F, H⟩
  obtain ⟨ho, hls, hcn⟩ := hI
  rcases m with _ | m
  rotate_left
  · obtain ⟨ck, hck⟩ : ∃ ck, cs[k]? = some ck := ⟨_, List.getElem?_eq_getElem (show k < cs.length by omega)⟩
    obtain ⟨hckok, hckr⟩ := hcs ck (List.mem_of_getElem? hck)
    obtain ⟨cnl, bg, bc, br_, l⟩ := ck
    obtain ⟨onl, og, oc, orest, cs0⟩ := o
    have hck2 : (cs.take (k + 1)).map (·.l) = (cs.take k).map (·.l) ++ [l] := by rw [List.take_add_one, hck, List.map_append]; rfl
    cases onl <;> cases cnl
    · skip
      have hOo : Own (cs0.map Cl.v) orest cs0.length oc 1 := ho.own rfl
      replace hcn : cs0.length = k := hcn
      replace F : Fm 22 [] [(11, ni k), (10, ni n), (9, sc r.g r.n n r.cap), (3, sc og 0 cs0.length oc)] a := F
      replace H : Hp [] w ((br r.g (r.rest.toArray) 30) :: (bk og (sl (cs0.map Cl.v) orest) 30) :: clB cs0) v := H
      refine C_seqK (fun K5 hK5 => ?_)
      refine C_region ?_
      refine T_val F H kr (.bool true) (fun w _ => R_bin (x := (.tmp 11)) (y := (.tmp 10)) rfl (k := .i64) (a := ((k : Nat) : Int)) (b := ((n : Nat) : Int)) kr kr (i_lt (by omega)) w) ?_
      clear F; intro a F
      refine wpList_nil ?_
      refine hK5 _ _ ?_
      clear hK5
      try clear K5
      refine C_seqK (fun K6 hK6 => ?_)
      refine C_if F true rfl rfl ?_
      refine wp_skip ?_
      refine hK6 _ _ ?_
      clear hK6
      try clear K6
      refine C_seqK (fun K7 hK7 => ?_)
      refine wp_block ?_
      refine C_seqK (fun K8 hK8 => ?_)
      refine C_region ?_
      refine T_val F H kr (pt r.g (r.n + (k) * 1)) (fun w _ => R_indexS (k := .i64) (g := r.g) (off := r.n) (len := n) (cap := r.cap) (x := (.tmp 9)) (y := (.tmp 11)) rfl Try.underlying26 kr (k) kr (by omega) (sz := 1) kr w) ?_
      clear F; intro a F
      refine T_val F H kr (sc bg 0 l.length bc) (R_cell (own := false) (g := r.g) (all := (r.rest.toArray)) (t := 30) (fr := (0, 0)) 0 kr 30 (.tmp 13) rfl (r.n + (k) * 1) kr (sc bg 0 l.length bc) (by rw [Nat.mul_one]; exact hO.at_ (k := k) (by rw [List.getElem?_map, hck]; rfl)) _ Try.underlying30 rfl) ?_
      clear F; intro a F
      refine T_k F H (sc bg 0 l.length bc) ?_
      clear F; intro a F
      refine wpList_nil ?_
      refine hK8 _ _ ?_
      clear hK8
      try clear K8
      refine C_region ?_
      refine T_k F H (sc og 0 cs0.length oc) ?_
      clear F; intro a F
      refine T_k F H (sc bg 0 l.length bc) ?_
      clear F; intro a F
      refine T_callX (α := SlR) F H kr 29 #[sc bg 0 l.length bc] (fun rX => sc rX.g 0 l.length rX.cap) (fun rX => ((bk rX.g (sl (oct (l)) rX.rest) 5) :: (br r.g (r.rest.toArray) 30) :: (bk og (sl (cs0.map Cl.v) orest) 30) :: clB cs0)) (fun rX => Own (oct (l)) rX.rest (l.length) rX.cap 1) (fun w => kr) (fun w H => callsX_newV H (clone_some ⟨bg, 0, none⟩ l.length bc l rfl hckok.big _ ((hckr.kept H.kept).rds rfl))) ?_
      clear F H; intro rq9 a v Qrq9 F H
      refine T_new F H kr (fun ad => sc ad 0 1 1) (ce #[sc rq9.g 0 l.length rq9.cap] 30) (fun w => R_buildS (len := 1) rfl Try.underlying26 (#[sc rq9.g 0 l.length rq9.cap]) kr w) ?_
      clear F H; intro aq10 a v F H
      refine T_app F H kr 26 30 (.tmp 15) (.tmp 18) rfl 1 24 kr kr 3 rfl hOo kr (1) ([sc rq9.g 0 l.length rq9.cap]) (fun w hk hl => (RdS.all (hl.at_ (k := 0) rfl) (Nat.le_refl _))) rfl (by intro u hu; simp only [List.mem_cons, List.not_mem_nil, or_false] at hu; first | (subst hu; rfl) | (rcases hu with rfl | rfl | rfl <;> rfl)) (by simp only [maxLen]; omega) (by omega) _ rfl ?_
      clear F H; intro rq11 a v Qrq11 F H
      refine T_k F H (sc rq11.g 0 (cs0.length + 1) rq11.cap) ?_
      clear F; intro a F
      refine wpList_nil ?_
      refine hK7 _ _ ?_
      clear hK7
      try clear K7
      refine C_region ?_
      refine T_val F H kr (ni (k + 1)) (fun w _ => R_bin (x := (.tmp 11)) (y := (.const (.int .i64 1))) rfl (k := .i64) (a := ((k : Nat) : Int)) (b := ((1 : Nat) : Int)) kr kr (i_addn64 (a := k) (b := 1) (by omega)) w) ?_
      clear F; intro a F
      refine T_k F H (ni (k + 1)) ?_
      clear F; intro a F
      refine wpList_nil ?_
      replace H : Hp [] w ((br r.g (r.rest.toArray) 30) :: (bk rq11.g (sl ((cs0.map Cl.v) ++ ([sc rq9.g 0 l.length rq9.cap])) rq11.rest) 30) :: (bk rq9.g (sl (oct (l)) rq9.rest) 5) :: clB cs0) v := Hp.pickT (A := [bk rq11.g (sl ((cs0.map Cl.v) ++ ([sc rq9.g 0 l.length rq9.cap])) rq11.rest) 30, bk aq10 #[sc rq9.g 0 l.length rq9.cap] 30, bk rq9.g (sl (oct (l)) rq9.rest) 5, br r.g (r.rest.toArray) 30]) (R := clB cs0) H [3, 0, 2] kr _ rfl
      refine ⟨m, Nat.lt_succ_self m, k + 1, (⟨false, rq11.g, rq11.cap, rq11.rest, cs0 ++ [(⟨false, rq9.g, rq9.cap, rq9.rest, l⟩ : Cl)]⟩ : Ls), by omega, ⟨⟨(fun e => by cases e), (fun _ => by rw [List.map_append, List.length_append]; exact Qrq11), (fun c hc => (List.mem_append.1 hc).elim (ho.each c) (fun hc => by rw [List.mem_singleton.1 hc]; exact ⟨hckok.big, (fun e => by cases e), fun _ => Qrq9⟩))⟩, ?_, ?_⟩, ?_, ?_⟩
      · rw [hck2, ← hls]; unfold Ls.ls; rw [List.map_append]; rfl
      · show (cs0 ++ [(⟨false, rq9.g, rq9.cap, rq9.rest, l⟩ : Cl)]).length = k + 1
        rw [List.length_append]
        show cs0.length + 1 = k + 1
        omega
      · show Fm 22 [] [(11, ni (k + 1)), (10, ni n), (9, sc r.g r.n n r.cap), (3, sc rq11.g 0 (cs0 ++ [(⟨false, rq9.g, rq9.cap, rq9.rest, l⟩ : Cl)]).length rq11.cap)] a
        rw [List.length_append]
        exact F.weak _ (subL_of kr)
      · refine Hp.tailC (A := [br r.g (r.rest.toArray) 30, bk rq11.g (sl ((cs0 ++ [(⟨false, rq9.g, rq9.cap, rq9.rest, l⟩ : Cl)]).map Cl.v) rq11.rest) 30]) (c := (⟨false, rq9.g, rq9.cap, rq9.rest, l⟩ : Cl)) (cs := cs0) ?_
        rw [List.map_append]
        exact H
    · skip
      have hOo : Own (cs0.map Cl.v) orest cs0.length oc 1 := ho.own rfl
      replace hcn : cs0.length = k := hcn
      have h1 : l = [] := hckok.nil rfl
      subst h1
      replace F : Fm 22 [] [(11, ni k), (10, ni n), (9, sc r.g r.n n r.cap), (3, sc og 0 cs0.length oc)] a := F
      replace H : Hp [] w ((br r.g (r.rest.toArray) 30) :: (bk og (sl (cs0.map Cl.v) orest) 30) :: clB cs0) v := H
      refine C_seqK (fun K12 hK12 => ?_)
      refine C_region ?_
      refine T_val F H kr (.bool true) (fun w _ => R_bin (x := (.tmp 11)) (y := (.tmp 10)) rfl (k := .i64) (a := ((k : Nat) : Int)) (b := ((n : Nat) : Int)) kr kr (i_lt (by omega)) w) ?_
      clear F; intro a F
      refine wpList_nil ?_
      refine hK12 _ _ ?_
      clear hK12
      try clear K12
      refine C_seqK (fun K13 hK13 => ?_)
      refine C_if F true rfl rfl ?_
      refine wp_skip ?_
      refine hK13 _ _ ?_
      clear hK13
      try clear K13
      refine C_seqK (fun K14 hK14 => ?_)
      refine wp_block ?_
      refine C_seqK (fun K15 hK15 => ?_)
      refine C_region ?_
      refine T_val F H kr (pt r.g (r.n + (k) * 1)) (fun w _ => R_indexS (k := .i64) (g := r.g) (off := r.n) (len := n) (cap := r.cap) (x := (.tmp 9)) (y := (.tmp 11)) rfl Try.underlying26 kr (k) kr (by omega) (sz := 1) kr w) ?_
      clear F; intro a F
      refine T_val F H kr (.slice none 0 0) (R_cell (own := false) (g := r.g) (all := (r.rest.toArray)) (t := 30) (fr := (0, 0)) 0 kr 30 (.tmp 13) rfl (r.n + (k) * 1) kr (.slice none 0 0) (by rw [Nat.mul_one]; exact hO.at_ (k := k) (by rw [List.getElem?_map, hck]; rfl)) _ Try.underlying30 rfl) ?_
      clear F; intro a F
      refine T_k F H (.slice none 0 0) ?_
      clear F; intro a F
      refine wpList_nil ?_
      refine hK15 _ _ ?_
      clear hK15
      try clear K15
      refine C_region ?_
      refine T_k F H (sc og 0 cs0.length oc) ?_
      clear F; intro a F
      refine T_k F H (.slice none 0 0) ?_
      clear F; intro a F
      refine T_call F H kr 29 #[.slice none 0 0] (.slice none 0 0) (fun w => kr) (clone_nil _) ?_
      clear F H; intro a v F H
      refine T_new F H kr (fun ad => sc ad 0 1 1) (ce #[.slice none 0 0] 30) (fun w => R_buildS (len := 1) rfl Try.underlying26 (#[.slice none 0 0]) kr w) ?_
      clear F H; intro aq16 a v F H
      refine T_app F H kr 26 30 (.tmp 15) (.tmp 18) rfl 1 24 kr kr 2 rfl hOo kr (1) ([.slice none 0 0]) (fun w hk hl => (RdS.all (hl.at_ (k := 0) rfl) (Nat.le_refl _))) rfl (by intro u hu; simp only [List.mem_cons, List.not_mem_nil, or_false] at hu; first | (subst hu; rfl) | (rcases hu with rfl | rfl | rfl <;> rfl)) (by simp only [maxLen]; omega) (by omega) _ rfl ?_
      clear F H; intro rq17 a v Qrq17 F H
      refine T_k F H (sc rq17.g 0 (cs0.length + 1) rq17.cap) ?_
      clear F; intro a F
      refine wpList_nil ?_
      refine hK14 _ _ ?_
      clear hK14
      try clear K14
      refine C_region ?_
      refine T_val F H kr (ni (k + 1)) (fun w _ => R_bin (x := (.tmp 11)) (y := (.const (.int .i64 1))) rfl (k := .i64) (a := ((k : Nat) : Int)) (b := ((1 : Nat) : Int)) kr kr (i_addn64 (a := k) (b := 1) (by omega)) w) ?_
      clear F; intro a F
      refine T_k F H (ni (k + 1)) ?_
      clear F; intro a F
      refine wpList_nil ?_
      replace H : Hp [] w ((br r.g (r.rest.toArray) 30) :: (bk rq17.g (sl ((cs0.map Cl.v) ++ ([.slice none 0 0])) rq17.rest) 30) :: clB cs0) v := Hp.pickT (A := [bk rq17.g (sl ((cs0.map Cl.v) ++ ([.slice none 0 0])) rq17.rest) 30, bk aq16 #[.slice none 0 0] 30, br r.g (r.rest.toArray) 30]) (R := clB cs0) H [2, 0] kr _ rfl
      refine ⟨m, Nat.lt_succ_self m, k + 1, (⟨false, rq17.g, rq17.cap, rq17.rest, cs0 ++ [(⟨true, 0, 0, [], []⟩ : Cl)]⟩ : Ls), by omega, ⟨⟨(fun e => by cases e), (fun _ => by rw [List.map_append, List.length_append]; exact Qrq17), (fun c hc => (List.mem_append.1 hc).elim (ho.each c) (fun hc => by rw [List.mem_singleton.1 hc]; exact ⟨Nat.zero_le _, fun _ => rfl, fun e => by cases e⟩))⟩, ?_, ?_⟩, ?_, ?_⟩
      · rw [hck2, ← hls]; unfold Ls.ls; rw [List.map_append]; rfl
      · show (cs0 ++ [(⟨true, 0, 0, [], []⟩ : Cl)]).length = k + 1
        rw [List.length_append]
        show cs0.length + 1 = k + 1
        omega
      · show Fm 22 [] [(11, ni (k + 1)), (10, ni n), (9, sc r.g r.n n r.cap), (3, sc rq17.g 0 (cs0 ++ [(⟨true, 0, 0, [], []⟩ : Cl)]).length rq17.cap)] a
        rw [List.length_append]
        exact F.weak _ (subL_of kr)
      · refine Hp.tailC (A := [br r.g (r.rest.toArray) 30, bk rq17.g (sl ((cs0 ++ [(⟨true, 0, 0, [], []⟩ : Cl)]).map Cl.v) rq17.rest) 30]) (c := (⟨true, 0, 0, [], []⟩ : Cl)) (cs := cs0) ?_
        rw [List.map_append]
        exact H
    · skip
      have h0 : cs0 = [] := ho.nil rfl
      subst h0
      replace F : Fm 22 [] [(11, ni k), (10, ni n), (9, sc r.g r.n n r.cap), (3, .slice none 0 0)] a := F
      replace H : Hp [] w [br r.g (r.rest.toArray) 30] v := H
      refine C_seqK (fun K18 hK18 => ?_)
      refine C_region ?_
      refine T_val F H kr (.bool true) (fun w _ => R_bin (x := (.tmp 11)) (y := (.tmp 10)) rfl (k := .i64) (a := ((k : Nat) : Int)) (b := ((n : Nat) : Int)) kr kr (i_lt (by omega)) w) ?_
      clear F; intro a F
      refine wpList_nil ?_
      refine hK18 _ _ ?_
      clear hK18
      try clear K18
      refine C_seqK (fun K19 hK19 => ?_)
      refine C_if F true rfl rfl ?_
      refine wp_skip ?_
      refine hK19 _ _ ?_
      clear hK19
      try clear K19
      refine C_seqK (fun K20 hK20 => ?_)
      refine wp_block ?_
      refine C_seqK (fun K21 hK21 => ?_)
      refine C_region ?_
      refine T_val F H kr (pt r.g (r.n + (k) * 1)) (fun w _ => R_indexS (k := .i64) (g := r.g) (off := r.n) (len := n) (cap := r.cap) (x := (.tmp 9)) (y := (.tmp 11)) rfl Try.underlying26 kr (k) kr (by omega) (sz := 1) kr w) ?_
      clear F; intro a F
      refine T_val F H kr (sc bg 0 l.length bc) (R_cell (own := false) (g := r.g) (all := (r.rest.toArray)) (t := 30) (fr := (0, 0)) 0 kr 30 (.tmp 13) rfl (r.n + (k) * 1) kr (sc bg 0 l.length bc) (by rw [Nat.mul_one]; exact hO.at_ (k := k) (by rw [List.getElem?_map, hck]; rfl)) _ Try.underlying30 rfl) ?_
      clear F; intro a F
      refine T_k F H (sc bg 0 l.length bc) ?_
      clear F; intro a F
      refine wpList_nil ?_
      refine hK21 _ _ ?_
      clear hK21
      try clear K21
      refine C_region ?_
      refine T_k F H (.slice none 0 0) ?_
      clear F; intro a F
      refine T_k F H (sc bg 0 l.length bc) ?_
      clear F; intro a F
      refine T_callX (α := SlR) F H kr 29 #[sc bg 0 l.length bc] (fun rX => sc rX.g 0 l.length rX.cap) (fun rX => [bk rX.g (sl (oct (l)) rX.rest) 5, br r.g (r.rest.toArray) 30]) (fun rX => Own (oct (l)) rX.rest (l.length) rX.cap 1) (fun w => kr) (fun w H => callsX_newV H (clone_some ⟨bg, 0, none⟩ l.length bc l rfl hckok.big _ ((hckr.kept H.kept).rds rfl))) ?_
      clear F H; intro rq22 a v Qrq22 F H
      refine T_new F H kr (fun ad => sc ad 0 1 1) (ce #[sc rq22.g 0 l.length rq22.cap] 30) (fun w => R_buildS (len := 1) rfl Try.underlying26 (#[sc rq22.g 0 l.length rq22.cap]) kr w) ?_
      clear F H; intro aq23 a v F H
      refine T_appN F H kr 26 30 (.tmp 15) (.tmp 18) rfl 1 24 kr kr kr (1) ([sc rq22.g 0 l.length rq22.cap]) (fun w hk hl => (RdS.all (hl.at_ (k := 0) rfl) (Nat.le_refl _))) rfl (by decide) (by simp only [maxLen]; decide) (by decide) ?_
      clear F H; intro rq24 a v Qrq24 F H
      refine T_k F H (sc rq24.g 0 1 rq24.cap) ?_
      clear F; intro a F
      refine wpList_nil ?_
      refine hK20 _ _ ?_
      clear hK20
      try clear K20
      refine C_region ?_
      refine T_val F H kr (ni (k + 1)) (fun w _ => R_bin (x := (.tmp 11)) (y := (.const (.int .i64 1))) rfl (k := .i64) (a := ((k : Nat) : Int)) (b := ((1 : Nat) : Int)) kr kr (i_addn64 (a := k) (b := 1) (by omega)) w) ?_
      clear F; intro a F
      refine T_k F H (ni (k + 1)) ?_
      clear F; intro a F
      refine wpList_nil ?_
      replace H : Hp [] w [br r.g (r.rest.toArray) 30, bk rq24.g (sl ([sc rq22.g 0 l.length rq22.cap]) rq24.rest) 30, bk rq22.g (sl (oct (l)) rq22.rest) 5] v := H.pick [3, 0, 2] kr _ rfl
      refine ⟨m, Nat.lt_succ_self m, k + 1, (⟨false, rq24.g, rq24.cap, rq24.rest, [] ++ [(⟨false, rq22.g, rq22.cap, rq22.rest, l⟩ : Cl)]⟩ : Ls), by omega, ⟨⟨(fun e => by cases e), (fun _ => by rw [List.nil_append]; exact Qrq24), (fun c hc => by rw [List.mem_singleton.1 hc]; exact ⟨hckok.big, (fun e => by cases e), fun _ => Qrq22⟩)⟩, ?_, ?_⟩, ?_, ?_⟩
      · rw [hck2, ← hls]; unfold Ls.ls; rw [List.map_append]; rfl
      · show ([] ++ [(⟨false, rq22.g, rq22.cap, rq22.rest, l⟩ : Cl)]).length = k + 1
        rw [List.length_append]
        show 0 + 1 = k + 1
        rw [← hcn]; rfl
      · show Fm 22 [] [(11, ni (k + 1)), (10, ni n), (9, sc r.g r.n n r.cap), (3, sc rq24.g 0 ([] ++ [(⟨false, rq22.g, rq22.cap, rq22.rest, l⟩ : Cl)]).length rq24.cap)] a
        exact F.weak _ (subL_of kr)
      · exact Hp.tailC (A := [br r.g (r.rest.toArray) 30, bk rq24.g (sl (([] ++ [(⟨false, rq22.g, rq22.cap, rq22.rest, l⟩ : Cl)]).map Cl.v) rq24.rest) 30]) (c := (⟨false, rq22.g, rq22.cap, rq22.rest, l⟩ : Cl)) (cs := []) H
    · skip
      have h0 : cs0 = [] := ho.nil rfl
      subst h0
      have h1 : l = [] := hckok.nil rfl
      subst h1
      replace F : Fm 22 [] [(11, ni k), (10, ni n), (9, sc r.g r.n n r.cap), (3, .slice none 0 0)] a := F
      replace H : Hp [] w [br r.g (r.rest.toArray) 30] v := H
      refine C_seqK (fun K25 hK25 => ?_)
      refine C_region ?_
      refine T_val F H kr (.bool true) (fun w _ => R_bin (x := (.tmp 11)) (y := (.tmp 10)) rfl (k := .i64) (a := ((k : Nat) : Int)) (b := ((n : Nat) : Int)) kr kr (i_lt (by omega)) w) ?_
      clear F; intro a F
      refine wpList_nil ?_
      refine hK25 _ _ ?_
      clear hK25
      try clear K25
      refine C_seqK (fun K26 hK26 => ?_)
      refine C_if F true rfl rfl ?_
      refine wp_skip ?_
      refine hK26 _ _ ?_
      clear hK26
      try clear K26
      refine C_seqK (fun K27 hK27 => ?_)
      refine wp_block ?_
      refine C_seqK (fun K28 hK28 => ?_)
      refine C_region ?_
      refine T_val F H kr (pt r.g (r.n + (k) * 1)) (fun w _ => R_indexS (k := .i64) (g := r.g) (off := r.n) (len := n) (cap := r.cap) (x := (.tmp 9)) (y := (.tmp 11)) rfl Try.underlying26 kr (k) kr (by omega) (sz := 1) kr w) ?_
      clear F; intro a F
      refine T_val F H kr (.slice none 0 0) (R_cell (own := false) (g := r.g) (all := (r.rest.toArray)) (t := 30) (fr := (0, 0)) 0 kr 30 (.tmp 13) rfl (r.n + (k) * 1) kr (.slice none 0 0) (by rw [Nat.mul_one]; exact hO.at_ (k := k) (by rw [List.getElem?_map, hck]; rfl)) _ Try.underlying30 rfl) ?_
      clear F; intro a F
      refine T_k F H (.slice none 0 0) ?_
      clear F; intro a F
      refine wpList_nil ?_
      refine hK28 _ _ ?_
      clear hK28
      try clear K28
      refine C_region ?_
      refine T_k F H (.slice none 0 0) ?_
      clear F; intro a F
      refine T_k F H (.slice none 0 0) ?_
      clear F; intro a F
      refine T_call F H kr 29 #[.slice none 0 0] (.slice none 0 0) (fun w => kr) (clone_nil _) ?_
      clear F H; intro a v F H
      refine T_new F H kr (fun ad => sc ad 0 1 1) (ce #[.slice none 0 0] 30) (fun w => R_buildS (len := 1) rfl Try.underlying26 (#[.slice none 0 0]) kr w) ?_
      clear F H; intro aq29 a v F H
      refine T_appN F H kr 26 30 (.tmp 15) (.tmp 18) rfl 1 24 kr kr kr (1) ([.slice none 0 0]) (fun w hk hl => (RdS.all (hl.at_ (k := 0) rfl) (Nat.le_refl _))) rfl (by decide) (by simp only [maxLen]; decide) (by decide) ?_
      clear F H; intro rq30 a v Qrq30 F H
      refine T_k F H (sc rq30.g 0 1 rq30.cap) ?_
      clear F; intro a F
      refine wpList_nil ?_
      refine hK27 _ _ ?_
      clear hK27
      try clear K27
      refine C_region ?_
      refine T_val F H kr (ni (k + 1)) (fun w _ => R_bin (x := (.tmp 11)) (y := (.const (.int .i64 1))) rfl (k := .i64) (a := ((k : Nat) : Int)) (b := ((1 : Nat) : Int)) kr kr (i_addn64 (a := k) (b := 1) (by omega)) w) ?_
      clear F; intro a F
      refine T_k F H (ni (k + 1)) ?_
      clear F; intro a F
      refine wpList_nil ?_
      replace H : Hp [] w [br r.g (r.rest.toArray) 30, bk rq30.g (sl ([.slice none 0 0]) rq30.rest) 30] v := H.pick [2, 0] kr _ rfl
      refine ⟨m, Nat.lt_succ_self m, k + 1, (⟨false, rq30.g, rq30.cap, rq30.rest, [] ++ [(⟨true, 0, 0, [], []⟩ : Cl)]⟩ : Ls), by omega, ⟨⟨(fun e => by cases e), (fun _ => by rw [List.nil_append]; exact Qrq30), (fun c hc => by rw [List.mem_singleton.1 hc]; exact ⟨Nat.zero_le _, fun _ => rfl, fun e => by cases e⟩)⟩, ?_, ?_⟩, ?_, ?_⟩
      · rw [hck2, ← hls]; unfold Ls.ls; rw [List.map_append]; rfl
      · show ([] ++ [(⟨true, 0, 0, [], []⟩ : Cl)]).length = k + 1
        rw [List.length_append]
        show 0 + 1 = k + 1
        rw [← hcn]; rfl
      · show Fm 22 [] [(11, ni (k + 1)), (10, ni n), (9, sc r.g r.n n r.cap), (3, sc rq30.g 0 ([] ++ [(⟨true, 0, 0, [], []⟩ : Cl)]).length rq30.cap)] a
        exact F.weak _ (subL_of kr)
      · exact Hp.tailC (A := [br r.g (r.rest.toArray) 30, bk rq30.g (sl (([] ++ [(⟨true, 0, 0, [], []⟩ : Cl)]).map Cl.v) rq30.rest) 30]) (c := (⟨true, 0, 0, [], []⟩ : Cl)) (cs := []) H
  have hkt : k = cs.length := by omega
  rw [hkt, List.take_length] at hls
  refine C_seqK (fun K31 hK31 => ?_)
  refine C_region ?_
  refine T_val F H kr (.bool false) (fun w _ => R_bin (x := (.tmp 11)) (y := (.tmp 10)) rfl (k := .i64) (a := ((k : Nat) : Int)) (b := ((n : Nat) : Int)) kr kr (i_nlt (by omega)) w) ?_
  clear F; intro a F
  refine wpList_nil ?_
  refine hK31 _ _ ?_
  clear hK31
  try clear K31
  refine C_seqK (fun K32 hK32 => ?_)
  refine C_if F false rfl rfl ?_
  refine wp_exit ?_
  refine hK3 _ _ ?_
  clear hK3
  try clear K3
  refine C_seqK (fun K33 hK33 => ?_)
  refine C_region ?_
  refine T_k F H ((o.v)) ?_
  clear F; intro a F
  refine T_k F H ((o.v)) ?_
  clear F; intro a F
  refine wpList_nil ?_
  refine hK33 _ _ ?_
  clear hK33
  try clear K33
  refine wp_ret ?_
  exact C_ret F H (rs := [.tmp 2]) rfl (vs := [(o.v)]) (.tmp rfl .nil) ((o.v)) rfl ⟨o, rfl, ho, hls, by omega, Hp.pickT (A := [_]) (R := o.blks) H [] kr _ rfl⟩
end Go.Proofs.Ytlnlppmhiobgjaa
