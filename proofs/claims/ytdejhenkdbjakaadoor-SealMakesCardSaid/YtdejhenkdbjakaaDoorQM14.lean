/- W5 -/
import Derived.Test.YtdejhenkdbjakaaDoorQM13
set_option linter.unusedVariables false
set_option linter.unusedSimpArgs false
set_option maxRecDepth 100000
set_option maxHeartbeats 4000000
namespace Go.Proofs.YtdejhenkdbjakaaDoor
open Go Go.RowKit
theorem arr_of (ps : List SlP) {arr : Array Value} (ha : arr = (ps.map SlP.v).toArray) : ∀ k, k < ps.length → arr[k]? = some (ps.getD k p0).v := fun k hk => by
  subst ha
  rw [List.getElem?_toArray, List.getElem?_map, List.getD_eq_getElem?_getD, List.getElem?_eq_getElem hk]; rfl
theorem concat_to (ps : List SlP) (L : List Nat) (n : Nat) (hL : catP ps = L) (hn : L.length = n) (hb : 0 < n ∧ n < 70368744177664 ∧ ps.length < 1000000) (ad cp : Nat) (arr : Array Value) (ty : Nat) (ha : arr = (ps.map SlP.v).toArray) (w : World) (hrd : AllR w ps) (hblk : w.heap[ad]? = some (.cells arr ty (0, 0))) : Calls Tryd.prog 71 #[.slice (some ⟨ad, 0, none⟩) ps.length cp] w (MadeS [] 5 1 n (oct L) w) := by
  subst hL hn
  exact concat_any ps hb.1 hb.2.1 hb.2.2 ad cp arr ty (arr_of ps ha) w hrd hblk

theorem AllR.kept {w w' : World} : ∀ {ps : List SlP}, AllR w ps → Kept [] w w' → AllR w' ps
  | [], _, _ => trivial
  | p :: ps, h, k => ⟨h.1.kept k (fun _ _ _ _ => List.not_mem_nil), h.2.1, AllR.kept h.2.2 k⟩

theorem join_any (ps : List SlP) (h0 : 0 < (catP ps).length) (h1 : (catP ps).length < 70368744177664) (h2 : ps.length < 1000000) (ad cp : Nat) (arr : Array Value) (ty : Nat) (ha : ∀ k, k < ps.length → arr[k]? = some (ps.getD k p0).v) (w : World) (hrd : AllR w ps) (hblk : w.heap[ad]? = some (.cells arr ty (0, 0))) : Calls Tryd.prog 74 #[.slice (some ⟨ad, 0, none⟩) ps.length cp] w (MadeS [] 5 1 (catP ps).length (oct (catP ps)) w) := by
  refine C_enter Tryd.func74 rfl 5 Tryd.ntmps74 (Nat.le_of_ble_eq_true rfl) (fun a F => ?_)
  have H := Hp.start1 [] hblk
  replace F : Fm 5 [] [(0, sc ad 0 ps.length cp)] a := F.weak _ (subL_of kr);refine C_seqK fun K1 hK1 => C_region ?_;refine T_k F H (.slice none 0 0) ?_;clear F; intro a F;refine wpList_nil (hK1 _ _ ?_);clear hK1;refine C_seqK fun K2 hK2 => C_region ?_;refine T_k F H (sc ad 0 ps.length cp) ?_;clear F; intro a F;refine T_callX (α := SlR) F H kr 71 #[sc ad 0 ps.length cp] (fun rX => sc rX.g 0 (catP ps).length rX.cap) (fun rX => [bk rX.g (sl (oct (catP ps)) rX.rest) 5, br ad arr ty]) (fun rX => Own (oct (catP ps)) rX.rest ((catP ps).length) rX.cap 1) (fun w => kr) (fun w H => callsX_newV H (concat_any ps h0 h1 h2 ad cp arr ty ha _ (hrd.kept H.kept) (H.at_ (k := 0) rfl))) ?_;clear F H; intro rq3 a v Qrq3 F H;refine T_k F H (sc rq3.g 0 (catP ps).length rq3.cap) ?_;clear F; intro a F;refine wpList_nil (hK2 _ _ ?_);clear hK2;refine wp_ret ?_
  exact C_ret F H (rs := [.tmp 2]) rfl (vs := [sc rq3.g 0 (catP ps).length rq3.cap]) (.tmp rfl .nil) (sc rq3.g 0 (catP ps).length rq3.cap) rfl (made_ret H (k := 0) rfl Qrq3)

theorem pad_any (n : Nat) (hn : n < 1099511627776) (w : World) : Calls Tryd.prog 95 #[.int .i64 (n : Nat)] w (MadeS [] 5 1 (padL n).length (oct (padL n)) w) := by
  refine C_enter Tryd.func95 rfl 19 Tryd.ntmps95 (Nat.le_of_ble_eq_true rfl) (fun a F => ?_)
  have H := Hp.start [] w
  replace F : Fm 19 [] [(0, ni n)] a := F.weak _ (subL_of kr);refine C_seqK fun K1 hK1 => C_region ?_;refine T_k F H (.slice none 0 0) ?_;clear F; intro a F;refine wpList_nil (hK1 _ _ ?_);clear hK1;refine C_seqK (fun K2 hK2 => ?_);refine C_seqK fun K3 hK3 => C_region ?_;refine T_k F H (ni n) ?_;clear F; intro a F;refine T_val F H kr (.bool false) (fun w _ => R_bin rfl (k := .i64) (a := (n : Nat)) (b := (0 : Nat)) kr kr (i_nlt (by omega)) w) ?_;clear F; intro a F;refine wpList_nil (hK3 _ _ ?_);clear hK3;refine C_if F false rfl rfl ?_;refine wp_skip ?_;refine hK2 _ _ ?_;clear hK2;refine C_seqK fun K4 hK4 => C_region ?_;refine T_k F H (ni n) ?_;clear F; intro a F;refine T_val F H kr (ni (n % 64)) (fun w _ => R_bin rfl (k := .i64) (a := (n : Nat)) (b := (64 : Nat)) kr kr (i_rem64 (a := n) (b := 64) (by omega)) w) ?_;clear F; intro a F;refine T_val F H kr (ni (119 - (n % 64))) (fun w _ => R_bin rfl (k := .i64) (a := (119 : Nat)) (b := ((n % 64) : Nat)) kr kr (i_subn64 (a := 119) (b := (n % 64)) (by omega) (by omega)) w) ?_;clear F; intro a F;refine T_val F H kr (ni ((119 - (n % 64)) % 64)) (fun w _ => R_bin rfl (k := .i64) (a := ((119 - (n % 64)) : Nat)) (b := (64 : Nat)) kr kr (i_rem64 (a := (119 - (n % 64))) (b := 64) (by omega)) w) ?_;clear F; intro a F;refine T_k F H (ni ((119 - (n % 64)) % 64)) ?_;clear F; intro a F;refine wpList_nil (hK4 _ _ ?_);clear hK4;refine C_seqK (fun K5 hK5 => ?_);refine E_region F H (fun β => [(10, sc ((β 0).g) 0 1 1), (11, ni ((119 - (n % 64)) % 64)), (12, sc ((β 2).g) 0 ((119 - (n % 64)) % 64) ((119 - (n % 64)) % 64)), (13, ni n), (14, nu n), (15, nu (((n) <<< (3)) % 18446744073709551616)), (16, sc ((β 6).g) 0 8 (β 6).cap), (17, sc ((β 7).g) 0 3 3), (18, sc ((β 8).g) 0 (padL n).length (β 8).cap), (2, sc ((β 8).g) 0 (padL n).length (β 8).cap)]) [10, 11, 12, 13, 14, 15, 16, 17, 18, 2] [⟨some 0, none, 0, [], fun q_ => ce (sl (ints .u8 [128]) []) 5, gT, []⟩,
    ⟨some 2, none, 0, [], fun q_ => ce (sl (ints .u8 (List.replicate (((119 - (n % 64)) % 64)) 0)) []) 5, gT, []⟩,
    ⟨some 6, none, 0, [6], fun q_ => ce (sl (oct (highL ((((n) <<< (3)) % 18446744073709551616)) 8)) (gh q_ 0).rest) 5, fun q_ => Own (oct (highL ((((n) <<< (3)) % 18446744073709551616)) 8)) (gh q_ 0).rest (8) (gh q_ 0).cap 1, []⟩,
    ⟨some 7, none, 0, [0, 2, 6], fun q_ => ce #[sc ((gh q_ 0).g) 0 1 1, sc ((gh q_ 1).g) 0 ((119 - (n % 64)) % 64) ((119 - (n % 64)) % 64), sc ((gh q_ 2).g) 0 8 (gh q_ 2).cap] 54, gT, []⟩,
    ⟨some 8, none, 0, [8], fun q_ => ce (sl (oct (padL n)) (gh q_ 0).rest) 5, fun q_ => Own (oct (padL n)) (gh q_ 0).rest ((padL n).length) (gh q_ 0).cap 1, []⟩] [] [] 2 [] kr kr kr (fun β => rfl) ⟨fun h _ => Bool.noConfusion h, ⟨fun h _ => Bool.noConfusion h, ⟨fun h _ => Bool.noConfusion h, ⟨fun h _ => Bool.noConfusion h, ⟨fun h _ => Bool.noConfusion h, trivial⟩⟩⟩⟩⟩ ⟨?_, ?_, ?_, ?_, ?_, ?_, ?_, ?_, ?_, ?_, trivial⟩ ?_
  · exact E_new 19 kq (fun β => sc ((β 0).g) 0 1 1) 10 rfl kq 2 (fun β r => offAt2_of kr kr) 2 [] 0 _ rfl kr kr rfl (fun β w hk hl hq => ⟨⟨w.heap.size, 0, [], 0⟩, _, (R_buildS (len := 1) rfl Tryd.underlying54 ((sl (ints .u8 [128]) [])) kr w), trivial, Nat.le_refl _, heap_alloc_new _ _, Kept.alloc _ _⟩)
  · exact E_k 19 (fun β => ni ((119 - (n % 64)) % 64)) 11 2
  · exact E_new 19 kq (fun β => sc ((β 2).g) 0 ((119 - (n % 64)) % 64) ((119 - (n % 64)) % 64)) 12 rfl kq 2 (fun β r => offAt2_of kr kr) 2 [] 1 _ rfl kr kr rfl (fun β w hk hl hq => ⟨⟨w.heap.size, 0, [], 0⟩, _, (R_makeI rfl Tryd.underlying54 (m := ((119 - (n % 64)) % 64)) (k := .i64) (k' := .i64) kr kr .u8 (bytes := 1) kr kr (by omega) (by simp only [maxLen]; omega) w), trivial, Nat.le_refl _, heap_alloc_new _ _, Kept.alloc _ _⟩)
  · exact E_k 19 (fun β => ni n) 13 2
  · exact E_v 19 (fun β => nu n) 14 2 [] (fun β w hk hl hq => R_conv rfl (k0 := .i64) kr kr (k := .i64) (a := (n : Nat)) kr (wru64 (a := n) (by omega)) w)
  · exact E_v 19 (fun β => nu (((n) <<< (3)) % 18446744073709551616)) 15 2 [] (fun β w hk hl hq => R_shl rfl (k := .u64) (yk := .u64) (a := (n : Nat)) (b := (3 : Nat)) kr kr (Int.natCast_nonneg _) (shl64_val (by omega)) w)
  · exact E_callS 19 kq (fun β => sc ((β 6).g) 0 8 (β 6).cap) 16 rfl kq 2 (fun β r => offAt2_of kr kr) 49 (fun β => #[nu (((n) <<< (3)) % 18446744073709551616), ni 8]) (fun β w => kr) 2 [] 2 _ rfl kr kr rfl (fun β w hk hl hq => high_any ((((n) <<< (3)) % 18446744073709551616)) 8 (by omega) (by omega) _)
  · exact E_new 19 kq (fun β => sc ((β 7).g) 0 3 3) 17 rfl kq 2 (fun β r => offAt2_of kr kr) 2 [] 3 _ rfl kr kr rfl (fun β w hk hl hq => ⟨⟨w.heap.size, 0, [], 0⟩, _, (R_buildS (len := 3) rfl Tryd.underlying30 (#[sc ((β 0).g) 0 1 1, sc ((β 2).g) 0 ((119 - (n % 64)) % 64) ((119 - (n % 64)) % 64), sc ((β 6).g) 0 8 (β 6).cap]) kr w), trivial, Nat.le_refl _, heap_alloc_new _ _, Kept.alloc _ _⟩)
  · exact E_callS 19 kq (fun β => sc ((β 8).g) 0 (padL n).length (β 8).cap) 18 rfl kq 2 (fun β r => offAt2_of kr kr) 71 (fun β => #[sc ((β 7).g) 0 3 3]) (fun β w => kr) 2 [(0, 0), (1, 0), (2, 0), (3, 0)] 4 _ rfl kr kr rfl (fun β w hk hl hq => concat_to [⟨some ⟨(β 0).g, 0, none⟩, 1, 1, [128]⟩, ⟨some ⟨(β 2).g, 0, none⟩, ((119 - (n % 64)) % 64), ((119 - (n % 64)) % 64), List.replicate (((119 - (n % 64)) % 64)) 0⟩, ⟨some ⟨(β 6).g, 0, none⟩, 8, (β 6).cap, highL ((((n) <<< (3)) % 18446744073709551616)) 8⟩] (padL n) ((padL n).length) (by simp [catP, padL, Nat.shiftLeft_eq]) rfl ⟨by rw [padL_len]; omega, by rw [padL_len]; omega, by simp⟩ _ _ (#[sc ((β 0).g) 0 1 1, sc ((β 2).g) 0 ((119 - (n % 64)) % 64) ((119 - (n % 64)) % 64), sc ((β 6).g) 0 8 (β 6).cap]) _ kr _ ⟨(RdS.all (hl.at_ (k := 0) rfl) (Nat.le_refl _)), (by first | rfl | simp [highL_len, hb_len, kl_len]), ⟨(RdS.all (hl.at_ (k := 1) rfl) (Nat.le_refl _)), (by first | rfl | simp [highL_len, hb_len, kl_len]), ⟨(RdS.all (hl.at_ (k := 2) rfl) (Own.le hq.2.2.1.1)), (by first | rfl | simp [highL_len, hb_len, kl_len]), trivial⟩⟩⟩ (hl.at_ (k := 3) rfl))
  · exact E_k 19 (fun β => sc ((β 8).g) 0 (padL n).length (β 8).cap) 2 2
  clear F H; intro β a v Q F H;replace H : Hp [] w [bk ((β 0).g) (sl (ints .u8 [128]) []) 5, bk ((β 2).g) (sl (ints .u8 (List.replicate (((119 - (n % 64)) % 64)) 0)) []) 5, bk ((β 6).g) (sl (oct (highL ((((n) <<< (3)) % 18446744073709551616)) 8)) (β 6).rest) 5, bk ((β 7).g) #[sc ((β 0).g) 0 1 1, sc ((β 2).g) 0 ((119 - (n % 64)) % 64) ((119 - (n % 64)) % 64), sc ((β 6).g) 0 8 (β 6).cap] 54, bk ((β 8).g) (sl (oct (padL n)) (β 8).rest) 5] v := H;replace F : Fm 19 [] [(2, sc ((β 8).g) 0 (padL n).length (β 8).cap), (18, sc ((β 8).g) 0 (padL n).length (β 8).cap), (17, sc ((β 7).g) 0 3 3), (16, sc ((β 6).g) 0 8 (β 6).cap), (15, nu (((n) <<< (3)) % 18446744073709551616)), (14, nu n), (13, ni n), (12, sc ((β 2).g) 0 ((119 - (n % 64)) % 64) ((119 - (n % 64)) % 64)), (11, ni ((119 - (n % 64)) % 64)), (10, sc ((β 0).g) 0 1 1), (3, ni ((119 - (n % 64)) % 64)), (9, ni ((119 - (n % 64)) % 64)), (8, ni (119 - (n % 64))), (7, ni (n % 64)), (6, ni n), (5, .bool false), (4, ni n), (0, ni n)] a := F.weak _ (subL_of kr)
  have Qh10_2 : Own (oct (highL ((((n) <<< (3)) % 18446744073709551616)) 8)) (β 6).rest (8) (β 6).cap 1 := Q.2.2.2.2.1
  have Qh10_4 : Own (oct (padL n)) (β 8).rest ((padL n).length) (β 8).cap 1 := Q.2.2.2.2.2.2.2.2.1
  clear Q
  generalize β 0 = rq6 at F H Qh10_2 Qh10_4
  generalize β 2 = rq7 at F H Qh10_2 Qh10_4
  generalize β 6 = rq8 at F H Qh10_2 Qh10_4
  generalize β 7 = rq9 at F H Qh10_2 Qh10_4
  generalize β 8 = rq10 at F H Qh10_2 Qh10_4
  skip
  refine ?_;refine hK5 _ _ ?_;clear hK5;refine wp_ret ?_
  exact C_ret F H (rs := [.tmp 2]) rfl (vs := [sc rq10.g 0 (padL n).length rq10.cap]) (.tmp rfl .nil) (sc rq10.g 0 (padL n).length rq10.cap) rfl (made_ret H (k := 4) rfl Qh10_4)

theorem arrF_splice {f g : Nat → Nat} {N off : Nat} {l : List Nat} (ho : off + l.length ≤ N) (h : ∀ j, j < N → g j = if j < off then f j else if j < off + l.length then l.getD (j - off) 0 else f j) : ((arrF .u8 N f).toList.take off ++ oct l ++ (arrF .u8 N f).toList.drop (off + (oct l).length)).toArray = arrF .u8 N g := by
  have e1 : ∀ (f : Nat → Nat) (j : Nat), (arrF .u8 N f).toList[j]? = if j < N then some (.int .u8 (f j : Nat)) else none := fun f j => by
    rw [Array.getElem?_toList]
    split
    · rename_i h; exact arrF_get f h
    · rename_i h; exact Array.getElem?_eq_none (by rw [arrF_size]; omega)
  refine Array.ext_getElem? fun j => ?_
  rw [List.getElem?_toArray, ← Array.getElem?_toList, e1 g]
  have hs : (arrF .u8 N f).toList.length = N := by rw [Array.length_toList, arrF_size]
  have ht : ((arrF .u8 N f).toList.take off).length = off := by rw [List.length_take, hs]; omega
  rcases Nat.lt_or_ge j off with h1 | h1
  · rw [List.append_assoc, List.getElem?_append_left (by rw [ht]; exact h1), List.getElem?_take, if_pos h1, e1 f, if_pos (by omega), if_pos (by omega), h j (by omega), if_pos h1]
  · rcases Nat.lt_or_ge j (off + l.length) with h2 | h2
    · rw [List.append_assoc, List.getElem?_append_right (by rw [ht]; exact h1), ht, List.getElem?_append_left (by rw [ints_len]; omega), if_pos (by omega), h j (by omega), if_neg (by omega), if_pos h2]
      have h3 : j - off < l.length := by omega
      rw [ints_get (List.getElem?_eq_getElem h3), List.getD_eq_getElem?_getD, List.getElem?_eq_getElem h3]; rfl
    · rw [List.append_assoc, List.getElem?_append_right (by rw [ht]; exact h1), ht, List.getElem?_append_right (by rw [ints_len]; omega), List.getElem?_drop, ints_len, e1 f]
      have h4 : off + l.length + (j - off - l.length) = j := by omega
      rw [h4]
      split
      · rename_i h5; rw [h j h5, if_neg (by omega), if_neg (by omega)]
      · rfl
theorem P_copy {P : Program} {o : Oper} {V : List (Nat × Value)} {w : World} {t e : TypeId} {s x : Operand} (ho : o.op = .call { callee := .builtin .copy, args := #[s, x], argTypes := #[t, t] }) (hu : P.underlying t = some (.slice e)) (hsz : (P.info? e).map (·.size) = some 1) {g off dLen cap : Nat} (hs : evV V s = .slice (some ⟨g, off, none⟩) dLen cap) {m : Nat} {cs : List Value} {xv : Value} (hx : evV V x = xv) (hr : RdS w xv m cs) (hn : cs.length = m) (hm : m ≤ dLen) {cur : Array Value} {ty : TypeId} (hg : w.heap[g]? = some (.cells cur ty (0, 0))) (hfit : off + m ≤ cur.size) (h1 : ∀ u ∈ cs, u.oneCell' = true) (new : Array Value) (hnew : (cur.toList.take off ++ cs ++ cur.toList.drop (off + cs.length)).toArray = new) :
    ∃ w', (execOp (evV V) o).run P w = .ok (.value (.int .i64 (m : Nat))) w' ∧ Kept [g] w w' ∧ w'.heap[g]? = some (.cells new ty (0, 0)) := by
  subst hnew
  rcases hr with ⟨rfl, rfl, rfl⟩ | ⟨ad, c, rfl, hmc, hc⟩
  · have hr := run_copy_nil (P := P) w t t o.type e ⟨g, off, none⟩ dLen cap hu (by rw [hsz]; rfl)
    refine ⟨w, ?_, Kept.refl _ _, ?_⟩
    · unfold execOp
      simp only [ho, resolve, invoke, builtin, Sem.run_bind, Sem.run_pure, Result.andThen_ok, List.map_toArray, List.map_cons, List.map_nil, hs, hx, hr]
      rfl
    · rw [hg]
      simp
  · have hr := run_copy_row (P := P) w t t o.type e g off dLen cap ad m c cur ty cs hu hsz hg (by rw [hn]; exact (Nat.min_eq_left hm).symm) hc (by omega) h1
    refine ⟨_, ?_, Kept.setRow _ _ _, setRow_heap _ _ _ _ _ _ hg⟩
    unfold execOp
    simp only [ho, resolve, invoke, builtin, Sem.run_bind, Sem.run_pure, Result.andThen_ok, List.map_toArray, List.map_cons, List.map_nil, hs, hx, hr]
    rw [hn]; rfl
theorem T_putV {P : Program} {ops : Array Oper} {Q : Exit → Act → World → Prop} {rest : List Oper} {o : Oper} {a : Act} {w w0 : World} {n : Nat} {ds : List Deferred} {V : List (Nat × Value)} {X : List Nat} {L : List Blk} (F : Fm n ds V a) (H : Hp X w0 L w) (hc0 : opB ops V n o = true) (v : Value) (k : Nat) {ad : Nat} {Z R : Obj} (hl : L[k]? = some ⟨true, ad, Z⟩)
    (hr : ∀ w, Kept X w0 w → HeldL L w → ∃ w', (execOp (evV V) o).run P w = .ok (.value v) w' ∧ Kept [ad] w w' ∧ w'.heap[ad]? = some R) (L' : List Blk) (hL : L.set k ⟨true, ad, R⟩ = L')
    (h : ∀ a w, Fm n ds (upV V o.dst v) a → Hp X w0 L' w → wpList P ops Q rest a w) : wpList P ops Q (o :: rest) a w := by
  obtain ⟨hg, hk, hd0⟩ := opB_spec hc0
  refine T_core F hg hk fun K hK => ?_
  obtain ⟨w', h1, h2, h3⟩ := hr w H.kept ⟨H.held⟩
  rw [h1, Oper.upon_value]
  exact hK _ _ (h _ _ (F.put _ _ hd0) (hL ▸ H.put hl h2 h3))
theorem R_sliceAl {P : Program} {o : Oper} {V : List (Nat × Value)} {t e : TypeId} {x ylo : Operand} (ho : o.op = .slice t x (some ylo) none none) {n : Nat} (hu : P.underlying t = some (.array n e)) {g off : Nat} (hx : evV V x = .pointer (some ⟨g, off, none⟩)) {k1 : IntKind} (l : Nat) (hlo : evV V ylo = .int k1 l) (h3 : l < n) (hs : (P.info? e).map (·.size) = some 1) (w : World) : (execOp (evV V) o).run P w = .ok (.value (.slice (some ⟨g, off + l, none⟩) (n - l) (n - l))) w := by
  have hsz : (sizeOf e).run P w = .ok 1 w := by
    cases hq : P.info? e with
    | none => simp [hq] at hs
    | some j =>
      have hs' : j.size = 1 := by simpa [hq] using hs
      simp [sizeOf, typeInfo, hq, hs', Sem.run_bind, go_sem]
  have hel : P.elem t = e := by simp [Program.elem, hu]
  have hal : P.arrayLen t = n := by simp [Program.arrayLen, hu]
  have hu' : P.underlying t = some (.array (P.arrayLen t) (P.elem t)) := by rw [hel, hal, hu]
  have hadd : (⟨g, off, none⟩ : Addr).add (l * 1) = ⟨g, off + l, none⟩ := by rw [Nat.mul_one]; unfold Addr.add; split <;> simp_all
  have hr := run_sliceAt_array_l (P := P) w t ⟨g, off, none⟩ hu' k1 l (by omega) (by rw [hal]; omega)
  rw [hel, hsz, hal] at hr
  simp only [Result.andThen_ok, slicedAt, Int.toNat_natCast] at hr
  rw [if_neg (by omega), hadd] at hr
  unfold execOp
  simp only [ho, hx, hlo, Option.map_some, Option.map_none, Sem.run_bind, hr, Result.andThen_ok, Sem.run_pure]
def outP (h : Nat → Nat) (k : Nat) : Nat → Nat := fun j => if j < 4 * k then (h (j / 4) >>> (24 - 8 * (j % 4))) % 256 else 0
theorem outP_step (h : Nat → Nat) (k : Nat) (hk : k < 8) : ((arrF .u8 32 (outP h k)).toList.take (4 * k) ++ oct (highL (h k) 4) ++ (arrF .u8 32 (outP h k)).toList.drop (4 * k + (oct (highL (h k) 4)).length)).toArray = arrF .u8 32 (outP h (k + 1)) := by
  refine arrF_splice (by rw [highL_len]; omega) fun j hj => ?_
  rw [highL_len]
  unfold outP
  by_cases h1 : j < 4 * k
  · rw [if_pos (by omega), if_pos h1, if_pos h1]
  · rw [if_neg h1]
    by_cases h2 : j < 4 * k + 4
    · rw [if_pos (by omega), if_pos h2, List.getD_eq_getElem?_getD, highL_get _ _ _ (by omega)]
      have e1 : j / 4 = k := by omega
      have e2 : 24 - 8 * (j % 4) = 8 * (4 - 1 - (j - 4 * k)) := by omega
      rw [e1, e2]; rfl
    · rw [if_neg (by omega), if_neg h2, if_neg h1]
theorem outP_all (l : List Nat) : arrF .u8 32 (outP (hashP l) 8) = arrF .u8 32 (shaK l) := arrF_congr fun i hi => by
  unfold outP shaK
  rw [if_pos (by omega)]
theorem blk_part (p : List Nat) (rest : List Value) (k : Nat) (h : 64 * k + 64 ≤ p.length) : ∀ j v, (arrF .u8 64 (blkF p k))[j]? = some v → (sl (oct p) rest)[64 * k + j]? = some v := fun j v hv => by
  have hj : j < 64 := by
    have := (Array.getElem?_eq_some_iff.1 hv).1
    rwa [arrF_size] at this
  rw [arrF_get _ hj] at hv
  refine sl_get ?_
  have h3 : 64 * k + j < p.length := by omega
  rw [ints_get (List.getElem?_eq_getElem h3), ← hv]
  unfold blkF
  rw [List.getD_eq_getElem?_getD, List.getElem?_eq_getElem h3]; rfl
/-- What the package's variables hold. -/
structure Laid (w : World) : Prop where
  rounds : w.heap[1]? = some (.cells (arrF .u32 64 kF) 159 (0, 0))
  start : w.heap[0]? = some (.cells (arrF .u32 8 st0) 144 (0, 0))
theorem Laid.kept {w w' : World} {X : List Nat} (h : Laid w) (k : Kept X w w') (h0 : 0 ∉ X) (h1 : 1 ∉ X) : Laid w' :=
  ⟨(k.block _ (heap_in h.rounds) h1).trans h.rounds, (k.block _ (heap_in h.start) h0).trans h.start⟩
theorem Hp.start2 {w : World} (h : Laid w) : Hp [] w [⟨false, 1, .cells (arrF .u32 64 kF) 159 (0, 0)⟩, ⟨false, 0, .cells (arrF .u32 8 st0) 144 (0, 0)⟩] w :=
  ⟨Kept.refl _ _, (fun p hp => by
    simp only [List.mem_cons, List.not_mem_nil, or_false] at hp
    rcases hp with rfl | rfl
    · exact h.rounds
    · exact h.start), (fun p hp ho => by
    simp only [List.mem_cons, List.not_mem_nil, or_false] at hp
    rcases hp with rfl | rfl
    · cases ho
    · cases ho), by
    refine List.pairwise_cons.2 ⟨fun q hq => ?_, List.pairwise_singleton _ _⟩
    simp only [List.mem_singleton] at hq
    subst hq
    show 1 ≠ 0
    omega⟩

theorem padL_lt (n : Nat) : ∀ x ∈ padL n, x < 256 := by
  intro x hx
  unfold padL at hx
  rcases List.mem_cons.1 hx with rfl | hx
  · omega
  · rcases List.mem_append.1 hx with hx | hx
    · rw [(List.mem_replicate.1 hx).2]; omega
    · exact highL_lt _ _ x hx

theorem sum_any (p : SlP) (hb : ∀ x ∈ p.l, x < 256) (hn : p.l.length = p.n) (hl : p.n < 1099511627776) (w : World) (hW : Laid w) (hrd : RdS w p.v p.n (oct p.l)) : Calls Tryd.prog 75 #[.slice p.ad p.n p.c] w fun e w' => e = .returned (.agg (arrF .u8 32 (shaK p.l))) ∧ Kept [] w w' := by
  have hpl : (p.l ++ padL p.n).length = 64 * nBlk p.n := by rw [List.length_append, hn, ← nBlk_len]
  have hpb : 0 < 64 * nBlk p.n ∧ 64 * nBlk p.n < 70368744177664 ∧ 2 < 1000000 := by rw [← nBlk_len, padL_len]; omega
  have hpo : ∀ x ∈ p.l ++ padL p.n, x < 256 := fun x hx => (List.mem_append.1 hx).elim (hb x) (padL_lt _ x)
  obtain ⟨fk, hfk⟩ : ∃ fk, fk = shaK p.l := ⟨_, rfl⟩
  rw [← hfk]
  refine C_enter Tryd.func75 rfl 39 Tryd.ntmps75 (Nat.le_of_ble_eq_true rfl) (fun a F => ?_)
  have H := Hp.start2 hW
  replace F : Fm 39 [] [(0, .slice p.ad p.n p.c)] a := F.weak _ (subL_of kr);refine C_seqK fun K1 hK1 => C_region ?_;refine T_new F H kr (fun ad => pt ad 0) (ce z8 23) (fun w => kr) ?_;clear F H; intro aq2 a v F H;refine wpList_nil (hK1 _ _ ?_);clear hK1;refine C_seqK fun K3 hK3 => C_region ?_;refine T_k F H (.slice p.ad p.n p.c) ?_;clear F; intro a F;refine T_k F H (.slice p.ad p.n p.c) ?_;clear F; intro a F;refine T_k F H (ni p.n) ?_;clear F; intro a F;refine T_callX (α := SlR) F H kr 95 #[ni p.n] (fun rX => sc rX.g 0 (padL p.n).length rX.cap) (fun rX => [bk rX.g (sl (oct (padL p.n)) rX.rest) 5, bk aq2 z8 23, br 1 (arrF .u32 64 kF) 159, br 0 (arrF .u32 8 st0) 144]) (fun rX => Own (oct (padL p.n)) rX.rest ((padL p.n).length) rX.cap 1) (fun w => kr) (fun w H => callsX_newV H (pad_any p.n hl _)) ?_;clear F H; intro rq4 a v Qrq4 F H;refine T_new F H kr (fun ad => sc ad 0 2 2) (ce #[.slice p.ad p.n p.c, sc rq4.g 0 (padL p.n).length rq4.cap] 54) (fun w => R_buildS (len := 2) rfl Tryd.underlying30 (#[.slice p.ad p.n p.c, sc rq4.g 0 (padL p.n).length rq4.cap]) kr w) ?_;clear F H; intro aq5 a v F H;refine T_callX (α := SlR) F H kr 71 #[sc aq5 0 2 2] (fun rX => sc rX.g 0 (64 * nBlk p.n) rX.cap) (fun rX => [bk rX.g (sl (oct (p.l ++ padL p.n)) rX.rest) 5, bk aq5 #[.slice p.ad p.n p.c, sc rq4.g 0 (padL p.n).length rq4.cap] 54, bk rq4.g (sl (oct (padL p.n)) rq4.rest) 5, bk aq2 z8 23, br 1 (arrF .u32 64 kF) 159, br 0 (arrF .u32 8 st0) 144]) (fun rX => Own (oct (p.l ++ padL p.n)) rX.rest ((64 * nBlk p.n)) rX.cap 1) (fun w => kr) (fun w H => callsX_newV H (concat_to [p, ⟨some ⟨rq4.g, 0, none⟩, (padL p.n).length, rq4.cap, padL p.n⟩] (p.l ++ padL p.n) ((64 * nBlk p.n)) (by simp [catP]) hpl hpb _ _ (#[.slice p.ad p.n p.c, sc rq4.g 0 (padL p.n).length rq4.cap]) _ kr _ ⟨(hrd.kept H.kept (fun _ _ _ _ => List.not_mem_nil)), hn, ⟨(RdS.all (H.at_ (k := 1) rfl) (Own.le Qrq4)), (by first | rfl | simp [highL_len, hb_len, kl_len]), trivial⟩⟩ (H.at_ (k := 0) rfl))) ?_;clear F H; intro rq6 a v Qrq6 F H;refine T_k F H (sc rq6.g 0 (64 * nBlk p.n) rq6.cap) ?_;clear F; intro a F;refine wpList_nil (hK3 _ _ ?_);clear hK3;refine C_seqK fun K7 hK7 => C_region ?_;refine T_val F H kr (.agg (arrF .u32 8 st0)) (R_load (own := false) (g := 0) (all := (arrF .u32 8 st0)) (t := 144) (fr := (0, 0)) 5 kr 144 (.global 0) rfl 0 kr (arrF .u32 8 st0) (part_all _) _ Tryd.underlying144 rfl (by rw [arrF_size]; kernel_rfl)) ?_;clear F; intro a F;refine T_new F H kr (fun ad => pt ad 0) (ce #[.int .u32 0, .int .u32 0, .int .u32 0, .int .u32 0, .int .u32 0, .int .u32 0, .int .u32 0, .int .u32 0] 144) (fun w => kr) ?_;clear F H; intro aq8 a v F H;refine T_set F H kr rfl 0 rfl (arrF .u32 8 st0) (S_row 0 rfl 144 (.tmp 3) (.tmp 13) rfl kr (arrF .u32 8 st0) kr (by rw [arrF_size]; kernel_rfl) (by rw [arrF_size]; kernel_rfl) (arrF_one _ _ _)) [bk aq8 (arrF .u32 8 st0) 144, bk rq6.g (sl (oct (p.l ++ padL p.n)) rq6.rest) 5, bk aq5 #[.slice p.ad p.n p.c, sc rq4.g 0 (padL p.n).length rq4.cap] 54, bk rq4.g (sl (oct (padL p.n)) rq4.rest) 5, bk aq2 z8 23, br 1 (arrF .u32 64 kF) 159, br 0 (arrF .u32 8 st0) 144] rfl ?_;clear F H; intro a v F H;refine wpList_nil ?_;replace F : Fm 39 [] [(0, sc rq6.g 0 (64 * nBlk p.n) rq6.cap), (3, pt aq8 0), (2, pt aq2 0)] a := F.weak _ (subL_of kr);replace H : Hp [] w [bk aq8 (arrF .u32 8 st0) 144, bk rq6.g (sl (oct (p.l ++ padL p.n)) rq6.rest) 5, bk aq2 z8 23, br 1 (arrF .u32 64 kF) 159] v := H.pick [0, 1, 4, 5] kr _ rfl
  have hQ := Qrq6.tot
  have hQl := Qrq6.le
  rw [ints_len, hpl] at hQ
  refine hK7 _ _ ?_;clear hK7;refine C_seqK (fun K9 hK9 => ?_);refine wp_block ?_;refine C_loop (fun m a v => ∃ (k : Nat) (r : Nat), k + m = (nBlk p.n) ∧ (k < nBlk p.n → r = 64 * k) ∧ Fm 39 [] [(0, sc rq6.g r (64 * nBlk p.n - 64 * k) (rq6.cap - 64 * k)), (3, pt aq8 0), (2, pt aq2 0)] a ∧ Hp [] w [bk aq8 (arrF .u32 8 (hashN (p.l ++ padL p.n) k)) 144, bk rq6.g (sl (oct (p.l ++ padL p.n)) rq6.rest) 5, bk aq2 z8 23, br 1 (arrF .u32 64 kF) 159] v) ((nBlk p.n)) ⟨0, 0, Nat.zero_add _, fun _ => rfl, F, H⟩ ?_;clear F H;intro m a v ⟨k, r, hk, hr0, F, H⟩
  rcases m with _ | m
  rotate_left
  · skip
    have hr := hr0 (by omega)
    subst hr
    refine C_seqK (fun K10 hK10 => ?_);refine C_seqK fun K11 hK11 => C_region ?_;refine T_k F H (sc rq6.g (64 * k) (64 * nBlk p.n - 64 * k) (rq6.cap - 64 * k)) ?_;clear F; intro a F;refine T_k F H (ni (64 * nBlk p.n - 64 * k)) ?_;clear F; intro a F;refine T_val F H kr (.bool true) (fun w _ => R_bin rfl (k := .i64) (a := ((64 * nBlk p.n - 64 * k) : Nat)) (b := (0 : Nat)) kr kr (i_gtn (by omega)) w) ?_;clear F; intro a F;refine wpList_nil (hK11 _ _ ?_);clear hK11;refine C_if F true rfl rfl ?_;refine wp_skip ?_;refine hK10 _ _ ?_;clear hK10;refine C_seqK (fun K12 hK12 => ?_);refine wp_block ?_;refine E_region F H (fun β => [(19, .agg (arrF .u32 8 (hashN (p.l ++ padL p.n) k))), (20, sc rq6.g (64 * k) (64 * nBlk p.n - 64 * k) (rq6.cap - 64 * k)), (21, sc rq6.g (64 * k) 64 (rq6.cap - 64 * k)), (22, pt rq6.g (64 * k)), (23, .agg (arrF .u8 64 (blkF (p.l ++ padL p.n) k))), (24, .agg (arrF .u32 8 (hashN (p.l ++ padL p.n) (k + 1))))]) [19, 20, 21, 22, 23, 24] [⟨none, none, aq8, [], fun q_ => ce (arrF .u32 8 (hashN (p.l ++ padL p.n) k)) 144, gT, [⟨6, [], fun q_ => ce (arrF .u32 8 (hashN (p.l ++ padL p.n) (k + 1))) 144, gT⟩]⟩] [bk rq6.g (sl (oct (p.l ++ padL p.n)) rq6.rest) 5, bk aq2 z8 23, br 1 (arrF .u32 64 kF) 159] [0, 1, 2, 3] 2 [] kr kr kr (fun β => rfl) ⟨fun _ _ => trivial, trivial⟩ ⟨?_, ?_, ?_, ?_, ?_, ?_, ?_, trivial⟩ ?_
    · exact E_v 39 (fun β => .agg (arrF .u32 8 (hashN (p.l ++ padL p.n) k))) 19 2 [(0, 0)] (fun β w hk hl hq => R_loadH hl (own := true) (g := aq8) (all := (arrF .u32 8 (hashN (p.l ++ padL p.n) k))) (t := 144) (fr := (0, 0)) 0 kr 144 (.tmp 3) rfl 0 kr (arrF .u32 8 (hashN (p.l ++ padL p.n) k)) (part_all _) _ Tryd.underlying144 rfl (by rw [arrF_size]; kernel_rfl))
    · exact E_k 39 (fun β => sc rq6.g (64 * k) (64 * nBlk p.n - 64 * k) (rq6.cap - 64 * k)) 20 2
    · exact E_v 39 (fun β => sc rq6.g (64 * k) 64 (rq6.cap - 64 * k)) 21 2 [] (fun β w hk hl hq => R_slice (lo := none) (hi := (some (.const (.int .i64 64)))) rfl Tryd.underlying54 (ad := some ⟨rq6.g, (64 * k), none⟩) (len := (64 * nBlk p.n - 64 * k)) (cap := (rq6.cap - 64 * k)) kr (0) (64) rfl ⟨.i64, kr⟩ (by omega) (by omega) (sz := 1) kr _ slice0 w)
    · exact E_v 39 (fun β => pt rq6.g (64 * k)) 22 2 [] (fun β w hk hl hq => R_arrayAt rfl Tryd.underlying140 (ad := some ⟨rq6.g, (64 * k), none⟩) (len := 64) (cap := (rq6.cap - 64 * k)) kr (by omega) w)
    · exact E_v 39 (fun β => .agg (arrF .u8 64 (blkF (p.l ++ padL p.n) k))) 23 2 [] (fun β w hk hl hq => R_loadH hl (own := true) (g := rq6.g) (all := (sl (oct (p.l ++ padL p.n)) rq6.rest)) (t := 5) (fr := (0, 0)) 0 kr 140 (.tmp 22) rfl (64 * k) kr (arrF .u8 64 (blkF (p.l ++ padL p.n) k)) (blk_part (p.l ++ padL p.n) _ k (by rw [hpl]; omega)) _ Tryd.underlying140 rfl kr)
    · exact E_call 39 kq (fun β => .agg (arrF .u32 8 (hashN (p.l ++ padL p.n) (k + 1)))) 24 rfl kq 96 (fun β => #[.agg (arrF .u32 8 (hashN (p.l ++ padL p.n) k)), .agg (arrF .u8 64 (blkF (p.l ++ padL p.n) k))]) (fun β w => kr) 2 [] kr rfl (fun β w hk hl hq => block_any (hashN (p.l ++ padL p.n) k) (blkF (p.l ++ padL p.n) k) (hashN_lt _ k) (blkF_lt hpo k) _ (hl.at_ (k := 2) rfl))
    · exact E_store 39 kq rfl 2 [] 0 0 _ _ rfl rfl kr rfl (fun _ => trivial) (fun β w hk hl hq hm => let ⟨w', h1, h2, h3⟩ := P_row (cs := (arrF .u32 8 (hashN (p.l ++ padL p.n) (k + 1)))) (old := (arrF .u32 8 (hashN (p.l ++ padL p.n) k))) rfl rfl (ty := 144) rfl kr kr (by rw [arrF_size]; kernel_rfl) ((arrF_size _ _ _).trans (arrF_size _ _ _).symm) (arrF_one _ _ _) hm; ⟨w', h1, h2, h3⟩)
    clear F H; intro β a v Q F H;replace H : Hp [] w [bk aq8 (arrF .u32 8 (hashN (p.l ++ padL p.n) (k + 1))) 144, bk rq6.g (sl (oct (p.l ++ padL p.n)) rq6.rest) 5, bk aq2 z8 23, br 1 (arrF .u32 64 kF) 159] v := H;replace F : Fm 39 [] [(24, .agg (arrF .u32 8 (hashN (p.l ++ padL p.n) (k + 1)))), (23, .agg (arrF .u8 64 (blkF (p.l ++ padL p.n) k))), (22, pt rq6.g (64 * k)), (21, sc rq6.g (64 * k) 64 (rq6.cap - 64 * k)), (20, sc rq6.g (64 * k) (64 * nBlk p.n - 64 * k) (rq6.cap - 64 * k)), (19, .agg (arrF .u32 8 (hashN (p.l ++ padL p.n) k))), (16, .bool true), (15, ni (64 * nBlk p.n - 64 * k)), (14, sc rq6.g (64 * k) (64 * nBlk p.n - 64 * k) (rq6.cap - 64 * k)), (0, sc rq6.g (64 * k) (64 * nBlk p.n - 64 * k) (rq6.cap - 64 * k)), (3, pt aq8 0), (2, pt aq2 0)] a := F.weak _ (subL_of kr);clear Q;refine ?_;refine hK12 _ _ ?_;clear hK12
    obtain ⟨r1, hr1, hr2⟩ : ∃ r1 : Nat, (Value.slice (if rq6.cap - 64 * k = 64 then (some ⟨rq6.g, 64 * k, none⟩ : Option Addr) else (some (⟨rq6.g, 64 * k, none⟩ : Addr)).map (·.add (64 * 1))) (64 * nBlk p.n - 64 * k - 64) (rq6.cap - 64 * k - 64)) = sc rq6.g r1 (64 * nBlk p.n - 64 * (k + 1)) (rq6.cap - 64 * (k + 1)) ∧ (k + 1 < nBlk p.n → r1 = 64 * (k + 1)) := by
      have e1 : 64 * nBlk p.n - 64 * k - 64 = 64 * nBlk p.n - 64 * (k + 1) := by omega
      have e2 : rq6.cap - 64 * k - 64 = rq6.cap - 64 * (k + 1) := by omega
      rw [e1, e2]
      by_cases hc : rq6.cap - 64 * k = 64
      · exact ⟨64 * k, by rw [if_pos hc], fun h => by omega⟩
      · have e : (⟨rq6.g, 64 * k, none⟩ : Addr).add (64 * 1) = ⟨rq6.g, 64 * (k + 1), none⟩ := by unfold Addr.add; split <;> simp_all <;> omega
        exact ⟨64 * (k + 1), by rw [if_neg hc, Option.map_some, e], fun _ => rfl⟩
    refine C_region ?_;refine T_k F H (sc rq6.g (64 * k) (64 * nBlk p.n - 64 * k) (rq6.cap - 64 * k)) ?_;clear F; intro a F;refine T_val F H kr (sc rq6.g r1 (64 * nBlk p.n - 64 * (k + 1)) (rq6.cap - 64 * (k + 1))) (fun w _ => R_slice (lo := (some (.const (.int .i64 64)))) (hi := none) rfl Tryd.underlying54 (ad := some ⟨rq6.g, (64 * k), none⟩) (len := (64 * nBlk p.n - 64 * k)) (cap := (rq6.cap - 64 * k)) kr (64) ((64 * nBlk p.n - 64 * k)) ⟨.i64, kr⟩ rfl (by omega) (by omega) (sz := 1) kr _ hr1 w) ?_;clear F; intro a F;refine T_k F H (sc rq6.g r1 (64 * nBlk p.n - 64 * (k + 1)) (rq6.cap - 64 * (k + 1))) ?_;clear F; intro a F;refine wpList_nil ?_;replace F : Fm 39 [] [(0, sc rq6.g r1 (64 * nBlk p.n - 64 * (k + 1)) (rq6.cap - 64 * (k + 1))), (3, pt aq8 0), (2, pt aq2 0)] a := F.weak _ (subL_of kr);replace H : Hp [] w [bk aq8 (arrF .u32 8 (hashN (p.l ++ padL p.n) (k + 1))) 144, bk rq6.g (sl (oct (p.l ++ padL p.n)) rq6.rest) 5, bk aq2 z8 23, br 1 (arrF .u32 64 kF) 159] v := H
    exact ⟨m, Nat.lt_succ_self m, k + 1, r1, by omega, hr2, F, H⟩
  have hkt : k = nBlk p.n := by omega
  rw [hkt] at F H
  clear hk;refine C_seqK (fun K13 hK13 => ?_);refine C_seqK fun K14 hK14 => C_region ?_;refine T_k F H (sc rq6.g r (64 * nBlk p.n - 64 * nBlk p.n) (rq6.cap - 64 * nBlk p.n)) ?_;clear F; intro a F;refine T_k F H (ni (64 * nBlk p.n - 64 * nBlk p.n)) ?_;clear F; intro a F;refine T_val F H kr (.bool false) (fun w _ => R_bin rfl (k := .i64) (a := ((64 * nBlk p.n - 64 * nBlk p.n) : Nat)) (b := (0 : Nat)) kr kr (i_ngtn (by omega)) w) ?_;clear F; intro a F;refine wpList_nil (hK14 _ _ ?_);clear hK14;refine C_if F false rfl rfl ?_;refine wp_exit ?_;refine hK9 _ _ ?_;clear hK9;refine C_seqK fun K15 hK15 => C_region ?_;refine T_new F H kr (fun ad => pt ad 0) (ce z8 23) (fun w => kr) ?_;clear F H; intro aq16 a v F H;refine wpList_nil ?_
  rw [show (z8 : Array Value) = (arrF .u8 32 (outP (hashP p.l) 0)) from kr] at H
  rw [show hashN (p.l ++ padL p.n) (nBlk p.n) = hashP p.l by unfold hashP; rw [hn]] at H
  replace H : Hp [] w [bk aq16 (arrF .u8 32 (outP (hashP p.l) 0)) 23, bk aq8 (arrF .u32 8 (hashP p.l)) 144, bk rq6.g (sl (oct (p.l ++ padL p.n)) rq6.rest) 5, bk aq2 (arrF .u8 32 (outP (hashP p.l) 0)) 23, br 1 (arrF .u32 64 kF) 159] v := H;refine hK15 _ _ ?_;clear hK15;refine C_seqK (fun K17 hK17 => ?_);refine C_seqK fun K18 hK18 => C_region ?_;refine T_val F H kr (.agg (arrF .u32 8 (hashP p.l))) (R_load (own := true) (g := aq8) (all := (arrF .u32 8 (hashP p.l))) (t := 144) (fr := (0, 0)) 1 kr 144 (.tmp 3) rfl 0 kr (arrF .u32 8 (hashP p.l)) (part_all _) _ Tryd.underlying144 rfl (by rw [arrF_size]; kernel_rfl)) ?_;clear F; intro a F;refine T_k F H (ni 0) ?_;clear F; intro a F;refine wpList_nil ?_;replace F : Fm 39 [] [(26, ni 0), (25, .agg (arrF .u32 8 (hashP p.l))), (4, pt aq16 0), (2, pt aq2 0)] a := F.weak _ (subL_of kr);replace H : Hp [] w [bk aq16 (arrF .u8 32 (outP (hashP p.l) 0)) 23, bk aq2 (arrF .u8 32 (outP (hashP p.l) 0)) 23] v := H.pick [0, 3] kr _ rfl
  have hhl := hashP_lt p.l
  have hoa := outP_all p.l
  rw [← hfk] at hoa
  generalize hashP p.l = hh at F H hhl hoa
  refine hK18 _ _ ?_;clear hK18;refine wp_block ?_;refine C_loop (fun m a v => ∃ k, k + m = 8 ∧ Fm 39 [] [(26, ni k), (25, .agg (arrF .u32 8 hh)), (4, pt aq16 0), (2, pt aq2 0)] a ∧ Hp [] w [bk aq16 (arrF .u8 32 (outP hh k)) 23, bk aq2 (arrF .u8 32 (outP hh 0)) 23] v) (8) ⟨0, Nat.zero_add _, F, H⟩ ?_;clear F H;intro m a v ⟨k, hk, F, H⟩
  rcases m with _ | m
  rotate_left
  · skip
    have hk9 := hhl k
    refine C_seqK fun K19 hK19 => C_region ?_;refine T_val F H kr (.bool true) (fun w _ => R_bin rfl (k := .i64) (a := (k : Nat)) (b := (8 : Nat)) kr kr (i_lt (by omega)) w) ?_;clear F; intro a F;refine wpList_nil (hK19 _ _ ?_);clear hK19;refine C_seqK (fun K20 hK20 => ?_);refine C_if F true rfl rfl ?_;refine wp_skip ?_;refine hK20 _ _ ?_;clear hK20;refine C_seqK (fun K21 hK21 => ?_);refine wp_block ?_;refine C_seqK fun K22 hK22 => C_region ?_;refine T_k F H (ni k) ?_;clear F; intro a F;refine T_val F H kr (nw (hh (k))) (fun w _ => R_indexV rfl Tryd.underlying144 Tryd.underlying53 rfl kr (cs := (arrF .u32 8 hh)) kr (k := .i64) (k) kr (by omega) (nw (hh (k))) (arrF_get hh (by omega)) w) ?_;clear F; intro a F;refine T_k F H (ni k) ?_;clear F; intro a F;refine T_k F H (nw (hh (k))) ?_;clear F; intro a F;refine wpList_nil (hK22 _ _ ?_);clear hK22;refine E_region F H (fun β => [(30, ni k), (31, ni (4 * k)), (32, sc aq16 (4 * k) (32 - 4 * k) (32 - 4 * k)), (33, nw (hh (k))), (34, nu (hh (k))), (35, sc ((β 5).g) 0 4 (β 5).cap), (36, ni 4)]) [30, 31, 32, 33, 34, 35, 36] [⟨some 5, none, 0, [5], fun q_ => ce (sl (oct (highL (hh (k)) 4)) (gh q_ 0).rest) 5, fun q_ => Own (oct (highL (hh (k)) 4)) (gh q_ 0).rest (4) (gh q_ 0).cap 1, []⟩,
      ⟨none, none, aq16, [], fun q_ => ce (arrF .u8 32 (outP hh k)) 23, gT, [⟨6, [], fun q_ => ce (arrF .u8 32 (outP hh (k + 1))) 23, gT⟩]⟩] [bk aq2 (arrF .u8 32 (outP hh 0)) 23] [0, 1] 2 [] kr kr kr (fun β => rfl) ⟨fun h _ => Bool.noConfusion h, ⟨fun _ _ => trivial, trivial⟩⟩ ⟨?_, ?_, ?_, ?_, ?_, ?_, ?_, trivial⟩ ?_
    · exact E_k 39 (fun β => ni k) 30 2
    · exact E_v 39 (fun β => ni (4 * k)) 31 2 [] (fun β w hk hl hq => R_bin rfl (k := .i64) (a := (4 : Nat)) (b := (k : Nat)) kr kr (i_muln64 (a := 4) (b := k) (by omega)) w)
    · exact E_v 39 (fun β => sc aq16 (4 * k) (32 - 4 * k) (32 - 4 * k)) 32 2 [] (fun β w hk hl hq => (R_sliceAl (ylo := (.tmp 31)) rfl Tryd.underlying23 (g := aq16) (off := 0) kr (k1 := .i64) (4 * k) kr (by omega) kr w).trans (by rw [Nat.zero_add]))
    · exact E_k 39 (fun β => nw (hh (k))) 33 2
    · exact E_v 39 (fun β => nu (hh (k))) 34 2 [] (fun β w hk hl hq => R_conv rfl (k0 := .u32) kr kr (k := .u32) (a := (hh (k) : Nat)) kr (wru64 (a := hh (k)) (by omega)) w)
    · exact E_callS 39 kq (fun β => sc ((β 5).g) 0 4 (β 5).cap) 35 rfl kq 2 (fun β r => offAt2_of kr kr) 49 (fun β => #[nu (hh (k)), ni 4]) (fun β w => kr) 2 [] 0 _ rfl kr kr rfl (fun β w hk hl hq => high_any (hh (k)) 4 (by omega) (by omega) _)
    · exact E_put 39 kq (fun β => ni 4) 36 rfl kq 2 (fun β r => offAt2_of kr kr) 2 [(0, 0)] 1 0 _ _ rfl rfl kr kr rfl (fun β w hk hl hq hm => let ⟨w', q1, q2, q3⟩ := P_copy (s := (.tmp 32)) (t := 54) (e := 5) rfl kr kr (g := aq16) (off := (4 * k)) (dLen := (32 - 4 * k)) (cap := (32 - 4 * k)) kr (xv := sc ((β 5).g) 0 4 (β 5).cap) kr (m := 4) (cs := oct (highL (hh (k)) 4)) (RdS.all (hl.at_ (k := 0) rfl) (Own.le hq.1.1)) (by rw [ints_len, highL_len]) (by omega) hm (by rw [arrF_size]; omega) (ints_one _ _) _ (outP_step hh k (by omega)); ⟨r0, w', q1, trivial, q2, q3⟩)
    clear F H; intro β a v Q F H;replace H : Hp [] w [bk ((β 5).g) (sl (oct (highL (hh (k)) 4)) (β 5).rest) 5, bk aq16 (arrF .u8 32 (outP hh (k + 1))) 23, bk aq2 (arrF .u8 32 (outP hh 0)) 23] v := H;replace F : Fm 39 [] [(36, ni 4), (35, sc ((β 5).g) 0 4 (β 5).cap), (34, nu (hh (k))), (33, nw (hh (k))), (32, sc aq16 (4 * k) (32 - 4 * k) (32 - 4 * k)), (31, ni (4 * k)), (30, ni k), (6, nw (hh (k))), (5, ni k), (29, nw (hh (k))), (28, ni k), (27, .bool true), (26, ni k), (25, .agg (arrF .u32 8 hh)), (4, pt aq16 0), (2, pt aq2 0)] a := F.weak _ (subL_of kr)
    have Qh23_0 : Own (oct (highL (hh (k)) 4)) (β 5).rest (4) (β 5).cap 1 := Q.1
    clear Q
    generalize β 5 = rq23 at F H Qh23_0
    skip
    refine ?_;replace H : Hp [] w [bk aq16 (arrF .u8 32 (outP hh (k + 1))) 23, bk aq2 (arrF .u8 32 (outP hh 0)) 23] v := H.pick [1, 2] kr _ rfl;refine hK21 _ _ ?_;clear hK21;refine C_region ?_;refine T_val F H kr (ni (k + 1)) (fun w _ => R_bin rfl (k := .i64) (a := (k : Nat)) (b := (1 : Nat)) kr kr (i_addn64 (a := k) (b := 1) (by omega)) w) ?_;clear F; intro a F;refine T_k F H (ni (k + 1)) ?_;clear F; intro a F;refine wpList_nil ?_;replace F : Fm 39 [] [(26, ni (k + 1)), (25, .agg (arrF .u32 8 hh)), (4, pt aq16 0), (2, pt aq2 0)] a := F.weak _ (subL_of kr);replace H : Hp [] w [bk aq16 (arrF .u8 32 (outP hh (k + 1))) 23, bk aq2 (arrF .u8 32 (outP hh 0)) 23] v := H
    exact ⟨m, Nat.lt_succ_self m, k + 1, by omega, F, H⟩
  have hkt : k = 8 := by omega
  try rw [hkt] at F
  try rw [hkt] at H
  clear hk;refine C_seqK fun K24 hK24 => C_region ?_;refine T_val F H kr (.bool false) (fun w _ => R_bin rfl (k := .i64) (a := (8 : Nat)) (b := (8 : Nat)) kr kr (i_nlt (by omega)) w) ?_;clear F; intro a F;refine wpList_nil (hK24 _ _ ?_);clear hK24;refine C_seqK (fun K25 hK25 => ?_);refine C_if F false rfl rfl ?_;refine wp_exit ?_;refine hK17 _ _ ?_;clear hK17;refine C_seqK (fun K26 hK26 => ?_)
  rw [hoa] at H
  refine C_region ?_;refine T_val F H kr (kyV fk) (R_load (own := true) (g := aq16) (all := (arrF .u8 32 fk)) (t := 23) (fr := (0, 0)) 0 kr 23 (.tmp 4) rfl 0 kr (arrF .u8 32 fk) (part_all _) _ Tryd.underlying23 rfl (by rw [arrF_size]; kernel_rfl)) ?_;clear F; intro a F;refine T_set F H kr rfl 1 rfl (arrF .u8 32 fk) (S_row 1 rfl 23 (.tmp 2) (.tmp 38) rfl kr (arrF .u8 32 fk) kr (by rw [arrF_size]; kernel_rfl) ((arrF_size _ _ _).trans (arrF_size _ _ _).symm) (arrF_one _ _ _)) [bk aq16 (arrF .u8 32 fk) 23, bk aq2 (arrF .u8 32 fk) 23] rfl ?_;clear F H; intro a v F H;refine wpList_nil (hK26 _ _ ?_);clear hK26;refine wp_ret ?_
  exact C_ret F H (rs := [.cell 2 23]) rfl (vs := [kyV fk]) (.row 1 rfl rfl _ Tryd.underlying23 rfl kr .nil) (kyV fk) rfl ⟨rfl, H.kept⟩

theorem Hp.start22 {w : World} {a b : Nat} {oa ob : Obj} (ha : w.heap[a]? = some oa) (hb : w.heap[b]? = some ob) (hne : a ≠ b) : Hp [] w [⟨false, a, oa⟩, ⟨false, b, ob⟩] w :=
  ⟨Kept.refl _ _, (fun p hp => by
    simp only [List.mem_cons, List.not_mem_nil, or_false] at hp
    rcases hp with rfl | rfl
    · exact ha
    · exact hb), (fun p hp ho => by
    simp only [List.mem_cons, List.not_mem_nil, or_false] at hp
    rcases hp with rfl | rfl
    · cases ho
    · cases ho), by
    refine List.pairwise_cons.2 ⟨fun q hq => ?_, List.pairwise_singleton _ _⟩
    simp only [List.mem_singleton] at hq
    subst hq
    exact hne⟩

theorem Hp.apart {X : List Nat} {w0 : World} {L : List Blk} {w : World} (H : Hp X w0 L w) {i j : Nat} {p q : Blk} (hi : L[i]? = some p) (hj : L[j]? = some q) (hne : i ≠ j) : p.ad ≠ q.ad := by
  obtain ⟨hi1, hi2⟩ := List.getElem?_eq_some_iff.1 hi
  obtain ⟨hj1, hj2⟩ := List.getElem?_eq_some_iff.1 hj
  have hp := List.pairwise_iff_getElem.1 H.far
  rcases Nat.lt_or_gt_of_ne hne with h | h
  · have := hp i j hi1 hj1 h; rw [hi2, hj2] at this; exact this
  · have := hp j i hj1 hi1 h; rw [hi2, hj2] at this; exact fun e => this e.symm

theorem ne_of_ty {w : World} {g g' : Nat} {a b : Array Value} {t t' : TypeId} {fr fr' : Nat × Nat} (h : w.heap[g]? = some (.cells a t fr)) (h' : w.heap[g']? = some (.cells b t' fr')) (ht : Nat.beq t t' = false) : g ≠ g' := by
  rintro rfl
  rw [h] at h'
  simp only [Option.some.injEq, Obj.cells.injEq] at h'
  exact Nat.ne_of_beq_eq_false ht h'.2.1
theorem Hp.startM {w : World} {gm s : Nat} {ob os : Obj} (hm : w.heap[gm]? = some ob) (hs : w.heap[s]? = some os) (hne : gm ≠ s) : Hp [gm] w [⟨true, gm, ob⟩, ⟨false, s, os⟩] w :=
  ⟨Kept.refl _ _, (fun p hp => by
    simp only [List.mem_cons, List.not_mem_nil, or_false] at hp
    rcases hp with rfl | rfl
    · exact hm
    · exact hs), (fun p hp ho => by
    simp only [List.mem_cons, List.not_mem_nil, or_false] at hp
    rcases hp with rfl | rfl
    · exact .inr (List.mem_singleton.2 rfl)
    · cases ho), List.pairwise_cons.2 ⟨(fun q hq => by simp only [List.mem_singleton] at hq; subst hq; exact hne), List.pairwise_singleton _ _⟩⟩

end Go.Proofs.YtdejhenkdbjakaaDoor
