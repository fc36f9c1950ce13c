/- Walks: keys of keys: chains. -/
import Derived.Test.YtdejhenkdbjakaaDoorW7
import Derived.Lib.ConvBytes
set_option linter.unusedVariables false
set_option linter.unusedSimpArgs false
namespace Go.Proofs.YtdejhenkdbjakaaDoor
open Go Go.RowKit
theorem run_bytes {P : Program} {o : Oper} {V : List (Nat × Value)} {w : World} {src dst : TypeId} {x : Operand} (ho : o.op = .convert src dst x) {u : TypeDesc} (hs : P.underlying src = some u) (hd : P.underlying dst = some (.slice 5)) (he : P.underlying 5 = some (.int .u8)) {s : ByteArray} (hx : evV V x = .string s) {lb : List Nat} (hl : (s.data.map fun b => Value.int .u8 b.toNat) = (oct lb).toArray) (hn : s.size = lb.length) :
    ∃ (r : SlR) (w' : World), (execOp (evV V) o).run P w = .ok (.value (.slice (some ⟨r.g, 0, none⟩) lb.length r.cap)) w' ∧ lb.length ≤ r.cap ∧ w.heap.size ≤ r.g ∧ w'.heap[r.g]? = some (.cells (sl (oct lb) r.rest) 5 (r.n, r.n + 1)) ∧ Kept [] w w' := by
  have hr := Lib.run_convert_string_bytes (P := P) w src dst 5 s hs hd he
  rw [hn] at hr
  refine ⟨⟨w.heap.size, grownCap w lb.length 0 5, List.replicate (grownCap w lb.length 0 5 - lb.length) (.int .u8 0), (Lib.bytesCells w 5 s).size⟩, Lib.bytesWorld w 5 s, ?_, grownCap_ge _ _ _ _, Nat.le_refl _, ?_, ⟨rfl, rfl, rfl, by rw [Lib.bytesWorld_size]; omega, fun k hk _ => Lib.bytesWorld_at_old w 5 s k hk⟩⟩
  · unfold execOp
    simp only [ho, hx, Sem.run_bind, hr, Result.andThen_ok, Sem.run_pure]
  · rw [Lib.bytesWorld_at_new]
    have e : Lib.bytesCells w 5 s = sl (oct lb) (List.replicate (grownCap w lb.length 0 5 - lb.length) (.int .u8 0)) := by
      unfold Lib.bytesCells sl
      rw [hl, hn]
      simp
    rw [e]
theorem T_newG {P : Program} {ops : Array Oper} {Q : Exit → Act → World → Prop} {rest : List Oper} {o : Oper} {a : Act} {w w0 : World} {n : Nat} {ds : List Deferred} {V : List (Nat × Value)} {X : List Nat} {L : List Blk} (F : Fm n ds V a) (H : Hp X w0 L w) (hc0 : opB ops V n o = true) (v : SlR → Value) (Z : SlR → Obj) (q : SlR → Prop)
    (hr : ∀ w, HeldL L w → ∃ (r : SlR) (w' : World), (execOp (evV V) o).run P w = .ok (.value (v r)) w' ∧ q r ∧ w.heap.size ≤ r.g ∧ w'.heap[r.g]? = some (Z r) ∧ Kept [] w w')
    (h : ∀ r a w, q r → Fm n ds (upV V o.dst (v r)) a → Hp X w0 (⟨true, r.g, Z r⟩ :: L) w → wpList P ops Q rest a w) : wpList P ops Q (o :: rest) a w := by
  obtain ⟨hg, hk, hd0⟩ := opB_spec hc0
  refine T_core F hg hk fun K hK => ?_
  obtain ⟨r, w', h1, h2, h3, h4, h5⟩ := hr w ⟨H.held⟩
  rw [h1, Oper.upon_value]
  exact hK _ _ (h r _ _ h2 (F.put _ _ hd0) (H.fresh h5 h3 h4))
def infK (lb : List Nat) (ps : List SlP) : Nat → List Nat
  | 0 => lb.length :: lb
  | k + 1 => infK lb ps k ++ (highL (ps.getD k p0).n 4 ++ (ps.getD k p0).l)
theorem infK_len (lb : List Nat) (ps : List SlP) : ∀ k, (infK lb ps k).length = 1 + lb.length + 4 * k + (catK ps k).length
  | 0 => by simp [infK, catK]; omega
  | k + 1 => by rw [infK, List.length_append, infK_len lb ps k, catK, List.length_append, List.length_append, highL_len]; omega
theorem infK_lt {lb : List Nat} (hb : ∀ x ∈ lb, x < 256) (hl : lb.length < 256) {ps : List SlP} (hp : ∀ x ∈ catP ps, x < 256) : ∀ k, k ≤ ps.length → ∀ x ∈ infK lb ps k, x < 256
  | 0, _, x, hx => by
    rcases List.mem_cons.1 hx with rfl | hx
    · exact hl
    · exact hb x hx
  | k + 1, hk, x, hx => by
    rw [infK] at hx
    rcases List.mem_append.1 hx with hx | hx
    · exact infK_lt hb hl hp k (by omega) x hx
    · rcases List.mem_append.1 hx with hx | hx
      · exact highL_lt _ _ x hx
      · have h1 : x ∈ catK ps (k + 1) := by rw [catK]; exact List.mem_append_right _ hx
        rw [catK_take ps _ hk] at h1
        refine hp x ?_
        unfold catP at h1 ⊢
        obtain ⟨l, hl1, hl2⟩ := List.mem_flatten.1 h1
        obtain ⟨q, hq1, rfl⟩ := List.mem_map.1 hl1
        exact List.mem_flatten.2 ⟨_, List.mem_map_of_mem (List.mem_of_mem_take hq1), hl2⟩
theorem infK_take (lb : List Nat) {ps : List SlP} (hn : ∀ k, k < ps.length → (ps.getD k p0).l.length = (ps.getD k p0).n) : ∀ k, k ≤ ps.length → infK lb ps k = infoL lb ((ps.take k).map (·.l))
  | 0, _ => by simp [infK, infoL]
  | k + 1, h => by
    have hk : k < ps.length := by omega
    have e : (ps.getD k p0) = ps[k] := by rw [List.getD_eq_getElem?_getD, List.getElem?_eq_getElem hk, Option.getD_some]
    rw [infK, infK_take lb hn k (by omega), ← hn k hk, e, List.take_add_one, List.getElem?_eq_getElem hk, Option.toList_some]
    unfold infoL
    rw [List.map_append, List.map_append, List.flatten_append]
    simp only [List.map_cons, List.map_nil, List.flatten_cons, List.flatten_nil, List.append_nil, List.append_assoc, List.cons_append]
theorem infK_all (lb : List Nat) {ps : List SlP} (hn : ∀ k, k < ps.length → (ps.getD k p0).l.length = (ps.getD k p0).n) : infK lb ps ps.length = infoL lb (ps.map (·.l)) := by
  rw [infK_take lb hn _ (Nat.le_refl _), List.take_length]

theorem macsum_to (gm n : Nat) (p : SlP) (hbk : ∀ x ∈ p.l, x < 256) (hn : p.l.length = p.n) (h64 : p.n ≤ 64) (ps : List SlP) (L : List Nat) (hL : catP ps = L) (hs : 0 < L.length ∧ L.length < 549755813888 ∧ ps.length < 1000000) (ad cp : Nat) (arr : Array Value) (ty : Nat) (ha : arr = (ps.map SlP.v).toArray) (w : World) (hrds : AllR w ps) (hblk : w.heap[ad]? = some (.cells arr ty (0, 0))) (hrd : RdS w p.v p.n (oct p.l)) (hb : ∀ x ∈ L, x < 256) (hW : Laid w) (hm : w.heap[gm]? = some (.cells (mtr n) 91 (0, 0))) : Calls Tryd.prog 90 #[.pointer (some ⟨gm, 0, none⟩), .slice p.ad p.n p.c, .slice (some ⟨ad, 0, none⟩) ps.length cp] w fun e w' => ∃ r : SlR, e = .returned (.agg (arrF .u8 32 (macK p.l L))) ∧ r.n = n + 2 ∧ Kept [gm] w w' ∧ w'.heap[gm]? = some (.cells (mtr r.n) 91 (0, 0)) := by
  subst hL
  exact macsum_any gm n p hbk hn h64 ps hs.1 hs.2.1 hs.2.2 ad cp arr ty (arr_of ps ha) w hrds hblk hrd hb hW hm

set_option maxRecDepth 100000 in
set_option maxHeartbeats 4000000 in
theorem der_chain (gm n : Nat) (key : Nat → Nat) (hkey : ∀ i, i < 32 → key i < 256) (ps : List SlP) (h1 : 4 * ps.length + (catP ps).length < 1073741824) (ad cp : Nat) (arr : Array Value) (ty : Nat) (ha : ∀ k, k < ps.length → arr[k]? = some (ps.getD k p0).v) (w : World) (hrds : AllR w ps) (hblk : w.heap[ad]? = some (.cells arr ty (0, 0))) (hb : ∀ x ∈ catP ps, x < 256) (hW : Laid w) (hm : w.heap[gm]? = some (.cells (mtr n) 91 (0, 0))) : Calls Tryd.prog 85 #[.pointer (some ⟨gm, 0, none⟩), .agg (arrF .u8 32 key), .string ⟨#[99, 104, 97, 105, 110]⟩, .slice (some ⟨ad, 0, none⟩) ps.length cp] w fun e w' => ∃ r : SlR, e = .returned (.agg (arrF .u8 32 (derK key [99, 104, 97, 105, 110] (ps.map (·.l))))) ∧ r.n = n + 2 ∧ Kept [gm] w w' ∧ w'.heap[gm]? = some (.cells (mtr r.n) 91 (0, 0)) := by
  obtain ⟨h00, h01⟩ := hW.apart hm
  have hlb : ∀ x ∈ ([99, 104, 97, 105, 110] : List Nat), x < 256 := by decide
  have hcl := fun k (h : k ≤ ps.length) => catK_len ps h
  have hil : ∀ k, (infK [99, 104, 97, 105, 110] ps k).length = 1 + 5 + 4 * k + (catK ps k).length := infK_len [99, 104, 97, 105, 110] ps
  have hnn := fun k (h : k < ps.length) => (hrds.at_ h).2
  have hall := infK_all [99, 104, 97, 105, 110] hnn
  obtain ⟨fk, hfk⟩ : ∃ fk, fk = derK key [99, 104, 97, 105, 110] (ps.map (·.l)) := ⟨_, rfl⟩
  rw [← hfk]
  refine C_enter Tryd.func85 rfl 46 Tryd.ntmps85 (Nat.le_of_ble_eq_true rfl) (fun a F => ?_)
  have H := Hp.start1 [] hblk
  replace F : Fm 46 [] [(0, pt gm 0), (1, kyV key), (2, .string ⟨#[99, 104, 97, 105, 110]⟩), (3, sc ad 0 ps.length cp)] a := F.weak _ (subL_of kr)
  refine C_seqK (fun K1 hK1 => ?_)
  refine C_region ?_
  refine T_new F H kr (fun ad => pt ad 0) (ce (arrF .u8 32 key) 23) (fun w => kr) ?_
  clear F H; intro aq2 a v F H
  refine T_new F H kr (fun ad => pt ad 0) (ce z8 23) (fun w => kr) ?_
  clear F H; intro aq3 a v F H
  refine wpList_nil ?_
  refine hK1 _ _ ?_
  clear hK1
  try clear K1
  refine C_seqK (fun K4 hK4 => ?_)
  refine C_region ?_
  refine T_k F H (.string ⟨#[99, 104, 97, 105, 110]⟩) ?_
  clear F; intro a F
  refine T_k F H (.string ⟨#[99, 104, 97, 105, 110]⟩) ?_
  clear F; intro a F
  refine T_k F H (ni 5) ?_
  clear F; intro a F
  refine T_k F H (ni 5) ?_
  clear F; intro a F
  refine T_k F H (.string ⟨#[99, 104, 97, 105, 110]⟩) ?_
  clear F; intro a F
  refine T_k F H (.string ⟨#[99, 104, 97, 105, 110]⟩) ?_
  clear F; intro a F
  refine wpList_nil ?_
  refine hK4 _ _ ?_
  clear hK4
  try clear K4
  refine C_seqK (fun K5 hK5 => ?_)
  refine C_region ?_
  refine T_k F H (.string ⟨#[99, 104, 97, 105, 110]⟩) ?_
  clear F; intro a F
  refine T_k F H (ni 5) ?_
  clear F; intro a F
  refine T_val F H kr (nb 5) (fun w _ => R_conv (x := (.tmp 18)) rfl (k0 := .i64) kr kr (k := .i64) (a := ((5 : Nat) : Int)) kr (wr8 (a := 5) (by omega)) w) ?_
  clear F; intro a F
  refine T_new F H kr (fun ad => sc ad 0 1 1) (ce (sl (ints .u8 [5]) []) 5) (fun w => R_buildS (len := 1) rfl Tryd.underlying54 ((sl (ints .u8 [5]) [])) kr w) ?_
  clear F H; intro aq6 a v F H
  refine T_k F H (.string ⟨#[99, 104, 97, 105, 110]⟩) ?_
  clear F; intro a F
  refine T_newG F H kr (fun r => sc r.g 0 5 r.cap) (fun r => .cells (sl (oct [99, 104, 97, 105, 110]) r.rest) 5 (r.n, r.n + 1)) (fun r => 5 ≤ r.cap) (fun w hl => run_bytes (x := (.tmp 21)) rfl Tryd.underlying9 Tryd.underlying54 Tryd.underlying5 (s := ⟨#[99, 104, 97, 105, 110]⟩) kr (lb := [99, 104, 97, 105, 110]) kr kr) ?_
  clear F H; intro rq7 a v Qrq7 F H
  refine T_new F H kr (fun ad => sc ad 0 2 2) (ce #[sc aq6 0 1 1, sc rq7.g 0 5 rq7.cap] 54) (fun w => R_buildS (len := 2) rfl Tryd.underlying30 (#[sc aq6 0 1 1, sc rq7.g 0 5 rq7.cap]) kr w) ?_
  clear F H; intro aq8 a v F H
  refine T_callX (α := SlR) F H kr 71 #[sc aq8 0 2 2] (fun rX => sc rX.g 0 (infK [99, 104, 97, 105, 110] ps 0).length rX.cap) (fun rX => [bk rX.g (sl (oct (infK [99, 104, 97, 105, 110] ps 0)) rX.rest) 5, bk aq8 #[sc aq6 0 1 1, sc rq7.g 0 5 rq7.cap] 54, ⟨true, rq7.g, .cells (sl (oct [99, 104, 97, 105, 110]) rq7.rest) 5 (rq7.n, rq7.n + 1)⟩, bk aq6 (sl (ints .u8 [5]) []) 5, bk aq3 z8 23, bk aq2 (arrF .u8 32 key) 23, br ad arr ty]) (fun rX => Own (oct (infK [99, 104, 97, 105, 110] ps 0)) rX.rest ((infK [99, 104, 97, 105, 110] ps 0).length) rX.cap 1) (fun w => kr) (fun w H => callsX_newV H (concat_to [⟨some ⟨aq6, 0, none⟩, 1, 1, [5]⟩, ⟨some ⟨rq7.g, 0, none⟩, 5, rq7.cap, [99, 104, 97, 105, 110]⟩] (infK [99, 104, 97, 105, 110] ps 0) ((infK [99, 104, 97, 105, 110] ps 0).length) (by simp [catP, infK]) rfl ⟨by simp [infK], by simp [infK], by simp⟩ _ _ (#[sc aq6 0 1 1, sc rq7.g 0 5 rq7.cap]) _ kr _ ⟨(RdS.all (H.at_ (k := 2) rfl) (Nat.le_refl _)), (by first | rfl | simp [highL_len, hb_len, kl_len]), ⟨(RdS.all (H.at_ (k := 1) rfl) Qrq7), (by first | rfl | simp [highL_len, hb_len, kl_len]), trivial⟩⟩ (H.at_ (k := 0) rfl))) ?_
  clear F H; intro rq9 a v Qrq9 F H
  refine T_k F H (sc rq9.g 0 (infK [99, 104, 97, 105, 110] ps 0).length rq9.cap) ?_
  clear F; intro a F
  refine wpList_nil ?_
  refine hK5 _ _ ?_
  clear hK5
  try clear K5
  refine C_seqK (fun K10 hK10 => ?_)
  refine C_seqK (fun K11 hK11 => ?_)
  refine C_region ?_
  refine T_k F H (sc ad 0 ps.length cp) ?_
  clear F; intro a F
  refine T_k F H (ni ps.length) ?_
  clear F; intro a F
  refine T_k F H (ni 0) ?_
  clear F; intro a F
  refine wpList_nil ?_
  replace F : Fm 46 [] [(27, ni 0), (26, ni ps.length), (25, sc ad 0 ps.length cp), (9, sc rq9.g 0 (infK [99, 104, 97, 105, 110] ps 0).length rq9.cap), (0, pt gm 0), (5, pt aq2 0), (8, pt aq3 0)] a := F.weak _ (subL_of kr)
  replace H : Hp [] w [bk rq9.g (sl (oct (infK [99, 104, 97, 105, 110] ps 0)) rq9.rest) 5, bk aq2 (arrF .u8 32 key) 23, bk aq3 z8 23, br ad arr ty] v := H.pick [0, 5, 4, 6] kr _ rfl
  refine hK11 _ _ ?_
  clear hK11
  try clear K11
  refine wp_block ?_
  refine C_loop (fun m a v => ∃ (k : Nat) (r : SlR), k + m = ps.length ∧ Own (oct (infK [99, 104, 97, 105, 110] ps k)) r.rest (infK [99, 104, 97, 105, 110] ps k).length r.cap 1 ∧ Fm 46 [] [(27, ni k), (26, ni ps.length), (25, sc ad 0 ps.length cp), (9, sc r.g 0 (infK [99, 104, 97, 105, 110] ps k).length r.cap), (0, pt gm 0), (5, pt aq2 0), (8, pt aq3 0)] a ∧ Hp [] w [bk r.g (sl (oct (infK [99, 104, 97, 105, 110] ps k)) r.rest) 5, bk aq2 (arrF .u8 32 key) 23, bk aq3 z8 23, br ad arr ty] v) (ps.length) ⟨0, rq9, Nat.zero_add _, Qrq9, F, H⟩ ?_
  clear F H
  intro m a v ⟨k, r, hk, hO, F, H⟩
  rcases m with _ | m
  rotate_left
  · skip
    have hc1 := hcl (k + 1) (by omega)
    have hnl := hnn k (by omega)
    have hc2 : (catK ps (k + 1)).length = (catK ps k).length + (ps.getD k p0).n := by rw [catK, List.length_append, hnl]
    refine C_seqK (fun K12 hK12 => ?_)
    refine C_region ?_
    refine T_val F H kr (.bool true) (fun w _ => R_bin (x := (.tmp 27)) (y := (.tmp 26)) rfl (k := .i64) (a := ((k : Nat) : Int)) (b := ((ps.length : Nat) : Int)) kr kr (i_lt (by omega)) w) ?_
    clear F; intro a F
    refine wpList_nil ?_
    refine hK12 _ _ ?_
    clear hK12
    try clear K12
    refine C_seqK (fun K13 hK13 => ?_)
    refine C_if F true rfl rfl ?_
    refine wp_skip ?_
    refine hK13 _ _ ?_
    clear hK13
    try clear K13
    refine C_seqK (fun K14 hK14 => ?_)
    refine wp_block ?_
    refine C_seqK (fun K15 hK15 => ?_)
    refine C_region ?_
    refine T_val F H kr (pt ad (0 + (k) * 1)) (fun w _ => R_indexS (k := .i64) (g := ad) (off := 0) (len := ps.length) (cap := cp) (x := (.tmp 25)) (y := (.tmp 27)) rfl Tryd.underlying30 kr (k) kr (by omega) (sz := 1) kr w) ?_
    clear F; intro a F
    refine T_val F H kr (.slice (ps.getD k p0).ad (ps.getD k p0).n (ps.getD k p0).c) (R_cell 3 rfl 54 (.tmp 29) rfl (0 + (k) * 1) kr (.slice (ps.getD k p0).ad (ps.getD k p0).n (ps.getD k p0).c) ((congrArg (fun q => arr[q]?) (show 0 + k * 1 = k by omega)).trans (ha k (by omega))) _ Tryd.underlying54 rfl) ?_
    clear F; intro a F
    refine T_k F H (.slice (ps.getD k p0).ad (ps.getD k p0).n (ps.getD k p0).c) ?_
    clear F; intro a F
    refine wpList_nil ?_
    refine hK15 _ _ ?_
    clear hK15
    try clear K15
    refine C_region ?_
    refine T_k F H (sc r.g 0 (infK [99, 104, 97, 105, 110] ps k).length r.cap) ?_
    clear F; intro a F
    refine T_k F H (.slice (ps.getD k p0).ad (ps.getD k p0).n (ps.getD k p0).c) ?_
    clear F; intro a F
    refine T_k F H (ni ((ps.getD k p0).n)) ?_
    clear F; intro a F
    refine T_val F H kr (nu ((ps.getD k p0).n)) (fun w _ => R_conv (x := (.tmp 33)) rfl (k0 := .i64) kr kr (k := .i64) (a := (((ps.getD k p0).n : Nat) : Int)) kr (wru64 (a := (ps.getD k p0).n) (by omega)) w) ?_
    clear F; intro a F
    refine T_callX (α := SlR) F H kr 49 #[nu ((ps.getD k p0).n), ni 4] (fun rX => sc rX.g 0 4 rX.cap) (fun rX => [bk rX.g (sl (oct (highL (ps.getD k p0).n 4)) rX.rest) 5, bk r.g (sl (oct (infK [99, 104, 97, 105, 110] ps k)) r.rest) 5, bk aq2 (arrF .u8 32 key) 23, bk aq3 z8 23, br ad arr ty]) (fun rX => Own (oct (highL (ps.getD k p0).n 4)) rX.rest (4) rX.cap 1) (fun w => kr) (fun w H => callsX_newV H (high_any (ps.getD k p0).n 4 (by omega) (by omega) _)) ?_
    clear F H; intro rq16 a v Qrq16 F H
    refine T_k F H (.slice (ps.getD k p0).ad (ps.getD k p0).n (ps.getD k p0).c) ?_
    clear F; intro a F
    refine T_new F H kr (fun ad => sc ad 0 3 3) (ce #[sc r.g 0 (infK [99, 104, 97, 105, 110] ps k).length r.cap, sc rq16.g 0 4 rq16.cap, .slice (ps.getD k p0).ad (ps.getD k p0).n (ps.getD k p0).c] 54) (fun w => R_buildS (len := 3) rfl Tryd.underlying30 (#[sc r.g 0 (infK [99, 104, 97, 105, 110] ps k).length r.cap, sc rq16.g 0 4 rq16.cap, .slice (ps.getD k p0).ad (ps.getD k p0).n (ps.getD k p0).c]) kr w) ?_
    clear F H; intro aq17 a v F H
    refine T_callX (α := SlR) F H kr 71 #[sc aq17 0 3 3] (fun rX => sc rX.g 0 (infK [99, 104, 97, 105, 110] ps (k + 1)).length rX.cap) (fun rX => [bk rX.g (sl (oct (infK [99, 104, 97, 105, 110] ps (k + 1))) rX.rest) 5, bk aq17 #[sc r.g 0 (infK [99, 104, 97, 105, 110] ps k).length r.cap, sc rq16.g 0 4 rq16.cap, .slice (ps.getD k p0).ad (ps.getD k p0).n (ps.getD k p0).c] 54, bk rq16.g (sl (oct (highL (ps.getD k p0).n 4)) rq16.rest) 5, bk r.g (sl (oct (infK [99, 104, 97, 105, 110] ps k)) r.rest) 5, bk aq2 (arrF .u8 32 key) 23, bk aq3 z8 23, br ad arr ty]) (fun rX => Own (oct (infK [99, 104, 97, 105, 110] ps (k + 1))) rX.rest ((infK [99, 104, 97, 105, 110] ps (k + 1)).length) rX.cap 1) (fun w => kr) (fun w H => callsX_newV H (concat_to [⟨some ⟨r.g, 0, none⟩, (infK [99, 104, 97, 105, 110] ps k).length, r.cap, infK [99, 104, 97, 105, 110] ps k⟩, ⟨some ⟨rq16.g, 0, none⟩, 4, rq16.cap, highL (ps.getD k p0).n 4⟩, (ps.getD k p0)] (infK [99, 104, 97, 105, 110] ps (k + 1)) ((infK [99, 104, 97, 105, 110] ps (k + 1)).length) (by simp [catP, infK]) rfl ⟨by rw [hil]; omega, by rw [hil]; omega, by simp⟩ _ _ (#[sc r.g 0 (infK [99, 104, 97, 105, 110] ps k).length r.cap, sc rq16.g 0 4 rq16.cap, .slice (ps.getD k p0).ad (ps.getD k p0).n (ps.getD k p0).c]) _ kr _ ⟨(RdS.all (H.at_ (k := 2) rfl) (Own.le hO)), (by first | rfl | simp [highL_len, hb_len, kl_len]), ⟨(RdS.all (H.at_ (k := 1) rfl) (Own.le Qrq16)), (highL_len _ _), ⟨((hrds.at_ (by omega)).1.kept H.kept (fun _ _ _ _ => List.not_mem_nil)), (hnn k (by omega)), trivial⟩⟩⟩ (H.at_ (k := 0) rfl))) ?_
    clear F H; intro rq18 a v Qrq18 F H
    refine T_k F H (sc rq18.g 0 (infK [99, 104, 97, 105, 110] ps (k + 1)).length rq18.cap) ?_
    clear F; intro a F
    refine wpList_nil ?_
    replace H : Hp [] w [bk rq18.g (sl (oct (infK [99, 104, 97, 105, 110] ps (k + 1))) rq18.rest) 5, bk aq2 (arrF .u8 32 key) 23, bk aq3 z8 23, br ad arr ty] v := H.pick [0, 4, 5, 6] kr _ rfl
    refine hK14 _ _ ?_
    clear hK14
    try clear K14
    refine C_region ?_
    refine T_val F H kr (ni (k + 1)) (fun w _ => R_bin (x := (.tmp 27)) (y := (.const (.int .i64 1))) rfl (k := .i64) (a := ((k : Nat) : Int)) (b := ((1 : Nat) : Int)) kr kr (i_addn64 (a := k) (b := 1) (by omega)) w) ?_
    clear F; intro a F
    refine T_k F H (ni (k + 1)) ?_
    clear F; intro a F
    refine wpList_nil ?_
    replace F : Fm 46 [] [(27, ni (k + 1)), (26, ni ps.length), (25, sc ad 0 ps.length cp), (9, sc rq18.g 0 (infK [99, 104, 97, 105, 110] ps (k + 1)).length rq18.cap), (0, pt gm 0), (5, pt aq2 0), (8, pt aq3 0)] a := F.weak _ (subL_of kr)
    replace H : Hp [] w [bk rq18.g (sl (oct (infK [99, 104, 97, 105, 110] ps (k + 1))) rq18.rest) 5, bk aq2 (arrF .u8 32 key) 23, bk aq3 z8 23, br ad arr ty] v := H
    exact ⟨m, Nat.lt_succ_self m, k + 1, rq18, by omega, Qrq18, F, H⟩
  have hkt : k = ps.length := by omega
  rw [hkt] at F H hO
  clear hk
  refine C_seqK (fun K19 hK19 => ?_)
  refine C_region ?_
  refine T_val F H kr (.bool false) (fun w _ => R_bin (x := (.tmp 27)) (y := (.tmp 26)) rfl (k := .i64) (a := ((ps.length : Nat) : Int)) (b := ((ps.length : Nat) : Int)) kr kr (i_nlt (by omega)) w) ?_
  clear F; intro a F
  refine wpList_nil ?_
  refine hK19 _ _ ?_
  clear hK19
  try clear K19
  refine C_seqK (fun K20 hK20 => ?_)
  refine C_if F false rfl rfl ?_
  refine wp_exit ?_
  refine hK10 _ _ ?_
  clear hK10
  try clear K10
  refine C_seqK (fun K21 hK21 => ?_)
  have hil9 := hil ps.length
  have hcl9 := hcl ps.length (Nat.le_refl _)
  have hlt9 := infK_lt hlb (by decide) hb ps.length (Nat.le_refl _)
  refine C_region ?_
  refine T_k F H (pt gm 0) ?_
  clear F; intro a F
  refine T_k F H (sc aq2 0 32 32) ?_
  clear F; intro a F
  refine T_k F H (sc r.g 0 (infK [99, 104, 97, 105, 110] ps ps.length).length r.cap) ?_
  clear F; intro a F
  refine T_new F H kr (fun ad => sc ad 0 1 1) (ce (sl (ints .u8 [1]) []) 5) (fun w => R_buildS (len := 1) rfl Tryd.underlying54 ((sl (ints .u8 [1]) [])) kr w) ?_
  clear F H; intro aq22 a v F H
  refine T_new F H kr (fun ad => sc ad 0 2 2) (ce #[sc r.g 0 (infK [99, 104, 97, 105, 110] ps ps.length).length r.cap, sc aq22 0 1 1] 54) (fun w => R_buildS (len := 2) rfl Tryd.underlying30 (#[sc r.g 0 (infK [99, 104, 97, 105, 110] ps ps.length).length r.cap, sc aq22 0 1 1]) kr w) ?_
  clear F H; intro aq23 a v F H
  replace H : Hp [] w [bk aq23 #[sc r.g 0 (infK [99, 104, 97, 105, 110] ps ps.length).length r.cap, sc aq22 0 1 1] 54, bk aq22 (sl (ints .u8 [1]) []) 5, bk r.g (sl (oct (infK [99, 104, 97, 105, 110] ps ps.length)) r.rest) 5, bk aq2 (arrF .u8 32 key) 23, bk aq3 z8 23] v := H.pick [0, 1, 2, 3, 4] kr _ rfl
  replace H := H.addX (H.kept.at_ hm) hm kr
  replace H : Hp [gm] w [bk gm (mtr n) 91, bk aq23 #[sc r.g 0 (infK [99, 104, 97, 105, 110] ps ps.length).length r.cap, sc aq22 0 1 1] 54, bk aq22 (sl (ints .u8 [1]) []) 5, bk r.g (sl (oct (infK [99, 104, 97, 105, 110] ps ps.length)) r.rest) 5, bk aq2 (arrF .u8 32 key) 23, bk aq3 z8 23] v := H
  refine T_callX (α := SlR) F H kr 90 #[pt gm 0, sc aq2 0 32 32, sc aq23 0 2 2] (fun rX => kyV fk) (fun rX => [bk gm (mtr rX.n) 91, bk aq23 #[sc r.g 0 (infK [99, 104, 97, 105, 110] ps ps.length).length r.cap, sc aq22 0 1 1] 54, bk aq22 (sl (ints .u8 [1]) []) 5, bk r.g (sl (oct (infK [99, 104, 97, 105, 110] ps ps.length)) r.rest) 5, bk aq2 (arrF .u8 32 key) 23, bk aq3 z8 23]) (fun rX => rX.n = n + 2) (fun w => kr) (fun w H => callsX_putV H (k := 0) rfl ((macsum_to gm n ⟨some ⟨aq2, 0, none⟩, 32, 32, kl key⟩ (kl_lt hkey) (kl_len key) (by show 32 ≤ 64; omega) [⟨some ⟨r.g, 0, none⟩, (infK [99, 104, 97, 105, 110] ps ps.length).length, r.cap, infK [99, 104, 97, 105, 110] ps ps.length⟩, ⟨some ⟨aq22, 0, none⟩, 1, 1, [1]⟩] (infK [99, 104, 97, 105, 110] ps ps.length ++ [1]) (by simp [catP]) ⟨by simp, by rw [List.length_append, hil9]; simp; omega, by simp⟩ _ _ (#[sc r.g 0 (infK [99, 104, 97, 105, 110] ps ps.length).length r.cap, sc aq22 0 1 1]) _ kr _ ⟨(RdS.all (H.at_ (k := 3) rfl) (Own.le hO)), (by first | rfl | simp [highL_len, hb_len, kl_len]), ⟨(RdS.all (H.at_ (k := 2) rfl) (Nat.le_refl _)), (by first | rfl | simp [highL_len, hb_len, kl_len]), trivial⟩⟩ (H.at_ (k := 1) rfl) (RdS.of (H.at_ (k := 4) rfl) (Nat.le_refl _) (rd_key key)) (fun x hx => (List.mem_append.1 hx).elim (hlt9 x) (fun h => by simp at h; omega)) (hW.kept H.kept h00 h01) (H.at_ (k := 0) rfl)).mono (fun _ _ ⟨r, q1, q2⟩ => ⟨r, by rw [q1, hfk, hall]; rfl, q2⟩))) ?_
  clear F H; intro rq24 a v Qrq24 F H
  refine T_set F H kr rfl 5 rfl (arrF .u8 32 fk) (S_row 5 rfl 23 (.tmp 8) (.tmp 45) rfl kr (arrF .u8 32 fk) kr (by rw [arrF_size]; kernel_rfl) (by rw [arrF_size]; kernel_rfl) (arrF_one _ _ _)) [bk gm (mtr rq24.n) 91, bk aq23 #[sc r.g 0 (infK [99, 104, 97, 105, 110] ps ps.length).length r.cap, sc aq22 0 1 1] 54, bk aq22 (sl (ints .u8 [1]) []) 5, bk r.g (sl (oct (infK [99, 104, 97, 105, 110] ps ps.length)) r.rest) 5, bk aq2 (arrF .u8 32 key) 23, bk aq3 (arrF .u8 32 fk) 23] rfl ?_
  clear F H; intro a v F H
  refine wpList_nil ?_
  refine hK21 _ _ ?_
  clear hK21
  try clear K21
  refine wp_ret ?_
  exact C_ret F H (rs := [.cell 8 23]) rfl (vs := [kyV fk]) (.row 5 rfl rfl _ Tryd.underlying23 rfl kr .nil) (kyV fk) rfl ⟨rq24, rfl, Qrq24, H.kept, H.at_ (k := 0) rfl⟩
end Go.Proofs.YtdejhenkdbjakaaDoor
