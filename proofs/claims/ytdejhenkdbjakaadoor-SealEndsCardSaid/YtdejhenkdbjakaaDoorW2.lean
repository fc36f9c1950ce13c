/- Walks: bytes turned round, a number of bytes. -/
import Derived.Test.YtdejhenkdbjakaaDoorW1
set_option linter.unusedVariables false
set_option linter.unusedSimpArgs false
namespace Go.Proofs.YtdejhenkdbjakaaDoor
open Go Go.RowKit
theorem then_exit {Q : Exit → Act → World → Prop} {K : Act → World → Prop} {id : Nat} {a : Act} {w : World} (h : Q (.exit id) a w) : Exit.then K Q (.exit id) a w := h
theorem inB_exit {Q : Exit → Act → World → Prop} {id : Nat} {a : Act} {w : World} (h : Q .normal a w) : Exit.inBlock id Q (.exit id) a w := by
  unfold Exit.inBlock
  simpa using h
theorem Hp.startX {w : World} {ad : Nat} {ob : Obj} (h : w.heap[ad]? = some ob) : Hp [ad] w [⟨true, ad, ob⟩] w :=
  ⟨Kept.refl _ _, fun p hp => by simp only [List.mem_singleton] at hp; subst hp; exact h, fun p hp ho => by simp only [List.mem_singleton] at hp; subst hp; exact .inr (List.mem_singleton.2 rfl), List.pairwise_singleton _ _⟩
theorem own_same {cs cs' rest : List Value} {m cap size : Nat} (h : Own cs rest m cap size) (e : cs'.length = cs.length) : Own cs' rest m cap size := ⟨by rw [e]; exact h.len, by rw [e]; exact h.tot, h.le, h.max⟩
theorem slice0 {g off h cap sz : Nat} : (Value.slice (if cap = 0 then some ⟨g, off, none⟩ else (some (⟨g, off, none⟩ : Addr)).map (·.add (0 * sz))) (h - 0) (cap - 0)) = .slice (some ⟨g, off, none⟩) h cap := by
  have e : (⟨g, off, none⟩ : Addr).add (0 * sz) = ⟨g, off, none⟩ := by rw [Nat.zero_mul]; unfold Addr.add; split <;> simp_all
  by_cases h : cap = 0
  · rw [if_pos h]; subst h; rfl
  · rw [if_neg h, Option.map_some, e]; rfl
theorem sliceL {g off l h cap sz : Nat} (hl : l < cap) : (Value.slice (if cap = l then some ⟨g, off, none⟩ else (some (⟨g, off, none⟩ : Addr)).map (·.add (l * sz))) (h - l) (cap - l)) = .slice (some ⟨g, off + l * sz, none⟩) (h - l) (cap - l) := by
  have e : (⟨g, off, none⟩ : Addr).add (l * sz) = ⟨g, off + l * sz, none⟩ := by unfold Addr.add; split <;> simp_all
  rw [if_neg (by omega), Option.map_some, e]
theorem hi_step {f : Nat → Nat} (hf : ∀ i, f i < 256) (off : Nat) {k : Nat} (hk : k < 8) : ((hiW f off k <<< 8) % 18446744073709551616) ||| f (off + k) = hiW f off (k + 1) := by
  have h1 := hiW_lt hf (off := off) (k := k)
  have h2 : 256 ^ k ≤ 256 ^ 7 := Nat.pow_le_pow_right (by omega) (by omega)
  have h3 : (256 : Nat) ^ 7 = 72057594037927936 := by decide
  rw [h3] at h2
  have h4 := hf (off + k)
  have h5 : (hiW f off k <<< 8) = hiW f off k * 256 := by rw [Nat.shiftLeft_eq]
  rw [h5, Nat.mod_eq_of_lt (by omega), ← h5]
  have := (Nat.shiftLeft_add_eq_or_of_lt (i := 8) (b := f (off + k)) (by simpa using h4) (hiW f off k)).symm
  rw [this, h5]
  rfl

set_option maxRecDepth 100000 in
set_option maxHeartbeats 4000000 in
theorem rev_any (l : List Nat) (m : Nat) (hm : l.length = m) (h1 : 1 ≤ l.length) (h2 : l.length < 1099511627776) (ad cp : Nat) (rs : List Value) (w : World) (hblk : w.heap[ad]? = some (.cells (sl (oct l) rs) 5 (0, 0))) : Calls Tryd.prog 80 #[.slice (some ⟨ad, 0, none⟩) m cp] w fun e w' => e = .returned (.tuple #[]) ∧ Kept [ad] w w' ∧ w'.heap[ad]? = some (.cells (sl (oct l.reverse) rs) 5 (0, 0)) := by
  subst hm
  refine C_enter Tryd.func80 rfl 28 Tryd.ntmps80 (Nat.le_of_ble_eq_true rfl) (fun a F => ?_)
  have H := Hp.startX hblk
  replace F : Fm 28 [] [(0, .slice (some ⟨ad, 0, none⟩) l.length cp)] a := F.weak _ (subL_of kr)
  refine C_seqK (fun K1 hK1 => ?_)
  refine C_region ?_
  refine T_val F H kr (.slice (some ⟨ad, 0, none⟩) l.length cp) (fun _ _ => kr) ?_
  clear F; intro a F
  refine T_val F H kr (.int .i64 ((l.length : Nat) : Int)) (fun _ _ => kr) ?_
  clear F; intro a F
  refine T_val F H kr (.int .i64 (((l.length - 1 - 0) : Nat) : Int)) (fun w _ => R_bin (x := (.tmp 5)) (y := (.const (.int .i64 1))) rfl (k := .i64) (a := ((l.length : Nat) : Int)) (b := ((1 : Nat) : Int)) kr kr (i_subn64 (a := l.length) (b := 1) (by omega) (by omega)) w) ?_
  clear F; intro a F
  refine T_val F H kr (.int .i64 ((0 : Nat) : Int)) (fun _ _ => kr) ?_
  clear F; intro a F
  refine T_val F H kr (.int .i64 (((l.length - 1 - 0) : Nat) : Int)) (fun _ _ => kr) ?_
  clear F; intro a F
  refine wpList_nil ?_
  replace F : Fm 28 [] [(2, .int .i64 ((0 : Nat) : Int)), (3, .int .i64 (((l.length - 1 - 0) : Nat) : Int)), (0, .slice (some ⟨ad, 0, none⟩) l.length cp)] a := F.weak _ (subL_of kr)
  rw [← revP_zero l] at H
  skip
  refine hK1 _ _ ?_
  clear hK1
  try clear K1
  refine wp_block ?_
  refine C_loop (fun m a v => ∃ k, k + m = (l.length / 2) ∧ Fm 28 [] [(2, .int .i64 ((k : Nat) : Int)), (3, .int .i64 (((l.length - 1 - k) : Nat) : Int)), (0, .slice (some ⟨ad, 0, none⟩) l.length cp)] a ∧ Hp [ad] w [⟨true, ad, .cells (sl (oct (revP l (k))) rs) 5 (0, 0)⟩] v) ((l.length / 2)) ⟨0, Nat.zero_add _, F, H⟩ ?_
  clear F H
  intro m a v ⟨k, hk, F, H⟩
  rcases m with _ | m
  rotate_left
  · skip
    refine C_seqK (fun K2 hK2 => ?_)
    refine C_seqK (fun K3 hK3 => ?_)
    refine C_region ?_
    refine T_val F H kr (.int .i64 ((k : Nat) : Int)) (fun _ _ => kr) ?_
    clear F; intro a F
    refine T_val F H kr (.int .i64 (((l.length - 1 - k) : Nat) : Int)) (fun _ _ => kr) ?_
    clear F; intro a F
    refine T_val F H kr (.bool true) (fun w _ => R_bin (x := (.tmp 7)) (y := (.tmp 8)) rfl (k := .i64) (a := ((k : Nat) : Int)) (b := (((l.length - 1 - k) : Nat) : Int)) kr kr (i_lt (by omega)) w) ?_
    clear F; intro a F
    refine wpList_nil ?_
    refine hK3 _ _ ?_
    clear hK3
    try clear K3
    refine C_if F true rfl rfl ?_
    refine wp_skip ?_
    refine hK2 _ _ ?_
    clear hK2
    try clear K2
    refine C_seqK (fun K4 hK4 => ?_)
    refine wp_block ?_
    refine E_region F H (fun β => [(14, .slice (some ⟨ad, 0, none⟩) l.length cp), (15, .int .i64 ((k : Nat) : Int)), (16, .slice (some ⟨ad, 0, none⟩) l.length cp), (17, .int .i64 (((l.length - 1 - k) : Nat) : Int)), (18, .slice (some ⟨ad, 0, none⟩) l.length cp), (19, .int .i64 (((l.length - 1 - k) : Nat) : Int)), (20, .pointer (some ⟨ad, (0 + ((l.length - 1 - k)) * 1), none⟩)), (21, .int .u8 ((l.getD ((l.length - 1 - k)) 0 : Nat) : Int)), (22, .slice (some ⟨ad, 0, none⟩) l.length cp), (23, .int .i64 ((k : Nat) : Int)), (24, .pointer (some ⟨ad, (0 + (k) * 1), none⟩)), (25, .int .u8 ((l.getD (k) 0 : Nat) : Int)), (26, .pointer (some ⟨ad, (0 + (k) * 1), none⟩)), (27, .pointer (some ⟨ad, (0 + ((l.length - 1 - k)) * 1), none⟩))]) [14, 15, 16, 17, 18, 19, 20, 21, 22, 23, 24, 25, 26, 27] [⟨none, none, ad, [], fun gl_ => .cells (sl (oct (revP l (k))) rs) 5 (0, 0), fun gl_ => True, [⟨13, [], fun gl_ => .cells (sl (ints .u8 ((revP l (k)).set (k) (l.getD ((l.length - 1 - k)) 0))) rs) 5 (0, 0), fun gl_ => True⟩, ⟨15, [], fun gl_ => .cells (sl (ints .u8 (((revP l (k)).set (k) (l.getD ((l.length - 1 - k)) 0)).set ((l.length - 1 - k)) (l.getD (k) 0))) rs) 5 (0, 0), fun gl_ => True⟩]⟩] [] [0] 2 [] kr kr kr (fun β => rfl) ⟨fun _ _ => trivial, trivial⟩ ⟨?_, ?_, ?_, ?_, ?_, ?_, ?_, ?_, ?_, ?_, ?_, ?_, ?_, ?_, ?_, ?_, trivial⟩ ?_
    · exact E_val 28 (fun β => kr) (fun β => .slice (some ⟨ad, 0, none⟩) l.length cp) 14 rfl (fun β => kr) 2 [] kr rfl (fun β w hk hl hq => kr)
    · exact E_val 28 (fun β => kr) (fun β => .int .i64 ((k : Nat) : Int)) 15 rfl (fun β => kr) 2 [] kr rfl (fun β w hk hl hq => kr)
    · exact E_val 28 (fun β => kr) (fun β => .slice (some ⟨ad, 0, none⟩) l.length cp) 16 rfl (fun β => kr) 2 [] kr rfl (fun β w hk hl hq => kr)
    · exact E_val 28 (fun β => kr) (fun β => .int .i64 (((l.length - 1 - k) : Nat) : Int)) 17 rfl (fun β => kr) 2 [] kr rfl (fun β w hk hl hq => kr)
    · exact E_val 28 (fun β => kr) (fun β => .slice (some ⟨ad, 0, none⟩) l.length cp) 18 rfl (fun β => kr) 2 [] kr rfl (fun β w hk hl hq => kr)
    · exact E_val 28 (fun β => kr) (fun β => .int .i64 (((l.length - 1 - k) : Nat) : Int)) 19 rfl (fun β => kr) 2 [] kr rfl (fun β w hk hl hq => kr)
    · exact E_val 28 (fun β => kr) (fun β => .pointer (some ⟨ad, (0 + ((l.length - 1 - k)) * 1), none⟩)) 20 rfl (fun β => kr) 2 [] kr rfl (fun β w hk hl hq => R_indexS (k := .i64) (g := ad) (off := 0) (len := l.length) (cap := cp) (x := (.tmp 18)) (y := (.tmp 19)) rfl Tryd.underlying54 kr ((l.length - 1 - k)) kr (by omega) (sz := 1) kr w)
    · exact E_val 28 (fun β => kr) (fun β => .int .u8 ((l.getD ((l.length - 1 - k)) 0 : Nat) : Int)) 21 rfl (fun β => kr) 2 [(0, 0)] kr rfl (fun β w hk hl hq => R_cellH hl (own := true) (g := ad) (all := (sl (oct (revP l (k))) rs)) (t := 5) (fr := (0, 0)) 0 kr 5 (.tmp 20) rfl (0 + ((l.length - 1 - k)) * 1) kr (.int .u8 ((l.getD ((l.length - 1 - k)) 0 : Nat) : Int)) ((congrArg (fun q => ((sl (oct (revP l (k))) rs))[q]?) (show (0 + ((l.length - 1 - k)) * 1) = (l.length - 1 - k) by omega)).trans (sl_get (ints_get (revP_mid l k (by omega) (by omega))))) _ Tryd.underlying5 rfl)
    · exact E_val 28 (fun β => kr) (fun β => .slice (some ⟨ad, 0, none⟩) l.length cp) 22 rfl (fun β => kr) 2 [] kr rfl (fun β w hk hl hq => kr)
    · exact E_val 28 (fun β => kr) (fun β => .int .i64 ((k : Nat) : Int)) 23 rfl (fun β => kr) 2 [] kr rfl (fun β w hk hl hq => kr)
    · exact E_val 28 (fun β => kr) (fun β => .pointer (some ⟨ad, (0 + (k) * 1), none⟩)) 24 rfl (fun β => kr) 2 [] kr rfl (fun β w hk hl hq => R_indexS (k := .i64) (g := ad) (off := 0) (len := l.length) (cap := cp) (x := (.tmp 22)) (y := (.tmp 23)) rfl Tryd.underlying54 kr (k) kr (by omega) (sz := 1) kr w)
    · exact E_val 28 (fun β => kr) (fun β => .int .u8 ((l.getD (k) 0 : Nat) : Int)) 25 rfl (fun β => kr) 2 [(0, 0)] kr rfl (fun β w hk hl hq => R_cellH hl (own := true) (g := ad) (all := (sl (oct (revP l (k))) rs)) (t := 5) (fr := (0, 0)) 0 kr 5 (.tmp 24) rfl (0 + (k) * 1) kr (.int .u8 ((l.getD (k) 0 : Nat) : Int)) ((congrArg (fun q => ((sl (oct (revP l (k))) rs))[q]?) (show (0 + (k) * 1) = k by omega)).trans (sl_get (ints_get (revP_mid l k (by omega) (by omega))))) _ Tryd.underlying5 rfl)
    · exact E_val 28 (fun β => kr) (fun β => .pointer (some ⟨ad, (0 + (k) * 1), none⟩)) 26 rfl (fun β => kr) 2 [] kr rfl (fun β w hk hl hq => R_indexS (k := .i64) (g := ad) (off := 0) (len := l.length) (cap := cp) (x := (.tmp 14)) (y := (.tmp 15)) rfl Tryd.underlying54 kr (k) kr (by omega) (sz := 1) kr w)
    · exact E_store 28 (fun β => kr) rfl 2 [] 0 0 _ _ rfl rfl kr rfl (fun _ => trivial) (fun β w hk hl hq hm => let ⟨w', h1, h2, h3⟩ := P_cell (off := (0 + (k) * 1)) (old := (sl (oct (revP l (k))) rs)) (v := .int .u8 ((l.getD ((l.length - 1 - k)) 0 : Nat) : Int)) (Z := .cells (sl (oct (revP l (k))) rs) 5 (0, 0)) (R := .cells (sl (ints .u8 ((revP l (k)).set (k) (l.getD ((l.length - 1 - k)) 0))) rs) 5 (0, 0)) rfl (by rw [show (0 + (k) * 1) = k by omega, sl_set (by rw [ints_len]; first | (rw [revP_len]; omega) | (rw [List.length_set, revP_len]; omega)), ints_set]) (ty := 5) (x := (.tmp 26)) (y := (.tmp 21)) rfl kr kr rfl (by rw [sl_size, ints_len]; first | (rw [revP_len]; omega) | (rw [List.length_set, revP_len]; omega)) Tryd.underlying5 rfl kr hm; ⟨w', h1, h2, h3⟩)
    · exact E_val 28 (fun β => kr) (fun β => .pointer (some ⟨ad, (0 + ((l.length - 1 - k)) * 1), none⟩)) 27 rfl (fun β => kr) 2 [] kr rfl (fun β w hk hl hq => R_indexS (k := .i64) (g := ad) (off := 0) (len := l.length) (cap := cp) (x := (.tmp 16)) (y := (.tmp 17)) rfl Tryd.underlying54 kr ((l.length - 1 - k)) kr (by omega) (sz := 1) kr w)
    · exact E_store 28 (fun β => kr) rfl 2 [] 0 1 _ _ rfl rfl kr rfl (fun _ => trivial) (fun β w hk hl hq hm => let ⟨w', h1, h2, h3⟩ := P_cell (off := (0 + ((l.length - 1 - k)) * 1)) (old := (sl (ints .u8 ((revP l (k)).set (k) (l.getD ((l.length - 1 - k)) 0))) rs)) (v := .int .u8 ((l.getD (k) 0 : Nat) : Int)) (Z := .cells (sl (ints .u8 ((revP l (k)).set (k) (l.getD ((l.length - 1 - k)) 0))) rs) 5 (0, 0)) (R := .cells (sl (ints .u8 (((revP l (k)).set (k) (l.getD ((l.length - 1 - k)) 0)).set ((l.length - 1 - k)) (l.getD (k) 0))) rs) 5 (0, 0)) rfl (by rw [show (0 + ((l.length - 1 - k)) * 1) = (l.length - 1 - k) by omega, sl_set (by rw [ints_len]; first | (rw [revP_len]; omega) | (rw [List.length_set, revP_len]; omega)), ints_set]) (ty := 5) (x := (.tmp 27)) (y := (.tmp 25)) rfl kr kr rfl (by rw [sl_size, ints_len]; first | (rw [revP_len]; omega) | (rw [List.length_set, revP_len]; omega)) Tryd.underlying5 rfl kr hm; ⟨w', h1, h2, h3⟩)
    clear F H; intro β a v Q F H
    replace H : Hp [ad] w [⟨true, ad, .cells (sl (ints .u8 (((revP l (k)).set (k) (l.getD ((l.length - 1 - k)) 0)).set ((l.length - 1 - k)) (l.getD (k) 0))) rs) 5 (0, 0)⟩] v := H
    replace F : Fm 28 [] [(27, .pointer (some ⟨ad, (0 + ((l.length - 1 - k)) * 1), none⟩)), (26, .pointer (some ⟨ad, (0 + (k) * 1), none⟩)), (25, .int .u8 ((l.getD (k) 0 : Nat) : Int)), (24, .pointer (some ⟨ad, (0 + (k) * 1), none⟩)), (23, .int .i64 ((k : Nat) : Int)), (22, .slice (some ⟨ad, 0, none⟩) l.length cp), (21, .int .u8 ((l.getD ((l.length - 1 - k)) 0 : Nat) : Int)), (20, .pointer (some ⟨ad, (0 + ((l.length - 1 - k)) * 1), none⟩)), (19, .int .i64 (((l.length - 1 - k) : Nat) : Int)), (18, .slice (some ⟨ad, 0, none⟩) l.length cp), (17, .int .i64 (((l.length - 1 - k) : Nat) : Int)), (16, .slice (some ⟨ad, 0, none⟩) l.length cp), (15, .int .i64 ((k : Nat) : Int)), (14, .slice (some ⟨ad, 0, none⟩) l.length cp), (9, .bool true), (8, .int .i64 (((l.length - 1 - k) : Nat) : Int)), (7, .int .i64 ((k : Nat) : Int)), (2, .int .i64 ((k : Nat) : Int)), (3, .int .i64 (((l.length - 1 - k) : Nat) : Int)), (0, .slice (some ⟨ad, 0, none⟩) l.length cp)] a := F.weak _ (subL_of kr)
    clear Q
    refine ?_
    rw [revP_next l k (by omega)] at H
    refine hK4 _ _ ?_
    clear hK4
    try clear K4
    refine C_region ?_
    refine T_val F H kr (.int .i64 ((k : Nat) : Int)) (fun _ _ => kr) ?_
    clear F; intro a F
    refine T_val F H kr (.int .i64 ((k + 1 : Nat) : Int)) (fun w _ => R_bin (x := (.tmp 10)) (y := (.const (.int .i64 1))) rfl (k := .i64) (a := ((k : Nat) : Int)) (b := ((1 : Nat) : Int)) kr kr (i_addn64 (a := k) (b := 1) (by omega)) w) ?_
    clear F; intro a F
    refine T_val F H kr (.int .i64 (((l.length - 1 - k) : Nat) : Int)) (fun _ _ => kr) ?_
    clear F; intro a F
    refine T_val F H kr (.int .i64 (((l.length - 1 - (k + 1)) : Nat) : Int)) (fun w _ => R_bin (x := (.tmp 12)) (y := (.const (.int .i64 1))) rfl (k := .i64) (a := (((l.length - 1 - k) : Nat) : Int)) (b := ((1 : Nat) : Int)) kr kr ((i_subn64 (a := l.length - 1 - k) (b := 1) (by omega) (by omega)).trans (congrArg (fun q : Nat => some (Value.int .i64 (q : Int))) (show l.length - 1 - k - 1 = l.length - 1 - (k + 1) by omega))) w) ?_
    clear F; intro a F
    refine T_val F H kr (.int .i64 ((k + 1 : Nat) : Int)) (fun _ _ => kr) ?_
    clear F; intro a F
    refine T_val F H kr (.int .i64 (((l.length - 1 - (k + 1)) : Nat) : Int)) (fun _ _ => kr) ?_
    clear F; intro a F
    refine wpList_nil ?_
    replace F : Fm 28 [] [(2, .int .i64 ((k + 1 : Nat) : Int)), (3, .int .i64 (((l.length - 1 - (k + 1)) : Nat) : Int)), (0, .slice (some ⟨ad, 0, none⟩) l.length cp)] a := F.weak _ (subL_of kr)
    replace H : Hp [ad] w [⟨true, ad, .cells (sl (oct (revP l (k + 1))) rs) 5 (0, 0)⟩] v := H
    exact ⟨m, Nat.lt_succ_self m, k + 1, by omega, F, H⟩
  have hkt : k = (l.length / 2) := by omega
  try rw [hkt] at F
  try rw [hkt] at H
  clear hk
  refine C_seqK (fun K5 hK5 => ?_)
  refine C_seqK (fun K6 hK6 => ?_)
  refine C_region ?_
  refine T_val F H kr (.int .i64 (((l.length / 2) : Nat) : Int)) (fun _ _ => kr) ?_
  clear F; intro a F
  refine T_val F H kr (.int .i64 (((l.length - 1 - (l.length / 2)) : Nat) : Int)) (fun _ _ => kr) ?_
  clear F; intro a F
  refine T_val F H kr (.bool false) (fun w _ => R_bin (x := (.tmp 7)) (y := (.tmp 8)) rfl (k := .i64) (a := (((l.length / 2) : Nat) : Int)) (b := (((l.length - 1 - (l.length / 2)) : Nat) : Int)) kr kr (i_nlt (by omega)) w) ?_
  clear F; intro a F
  refine wpList_nil ?_
  refine hK6 _ _ ?_
  clear hK6
  try clear K6
  refine C_if F false rfl rfl ?_
  refine wp_exit ?_
  rw [revP_end l _ (by omega) (by omega)] at H
  repeat (first | with_reducible refine then_exit ?_ | with_reducible refine inB_exit ?_)
  exact C_end F rfl ⟨rfl, H.kept, H.at_ (k := 0) rfl⟩

set_option maxRecDepth 100000 in
set_option maxHeartbeats 4000000 in
theorem high_any (n sz : Nat) (h1 : 1 ≤ sz) (h2 : sz ≤ 8) (w : World) : Calls Tryd.prog 49 #[.int .u64 ((n : Nat) : Int), .int .i64 ((sz : Nat) : Int)] w (MadeS [] 5 1 sz (oct (highL n sz)) w) := by
  refine C_enter Tryd.func49 rfl 12 Tryd.ntmps49 (Nat.le_of_ble_eq_true rfl) (fun a F => ?_)
  have H := Hp.start [] w
  replace F : Fm 12 [] [(0, nu n), (1, ni sz)] a := F.weak _ (subL_of kr)
  refine C_seqK (fun K1 hK1 => ?_)
  refine C_region ?_
  refine T_k F H (.slice none 0 0) ?_
  clear F; intro a F
  refine wpList_nil ?_
  refine hK1 _ _ ?_
  clear hK1
  try clear K1
  refine C_seqK (fun K2 hK2 => ?_)
  refine C_region ?_
  refine T_k F H (nu n) ?_
  clear F; intro a F
  refine T_k F H (ni sz) ?_
  clear F; intro a F
  refine T_callX (α := SlR) F H kr 79 #[nu n, ni sz] (fun rX => sc rX.g 0 sz rX.cap) (fun rX => [bk rX.g (sl (oct (lowL n sz)) rX.rest) 5]) (fun rX => Own (oct (lowL n sz)) rX.rest (sz) rX.cap 1) (fun w => kr) (fun w H => callsX_newV H (low_any n sz h1 h2 _)) ?_
  clear F H; intro rq3 a v Qrq3 F H
  refine T_k F H (sc rq3.g 0 sz rq3.cap) ?_
  clear F; intro a F
  refine wpList_nil ?_
  refine hK2 _ _ ?_
  clear hK2
  try clear K2
  refine C_seqK (fun K4 hK4 => ?_)
  refine C_region ?_
  refine T_k F H (sc rq3.g 0 sz rq3.cap) ?_
  clear F; intro a F
  refine T_callX (α := SlR) F H kr 80 #[sc rq3.g 0 sz rq3.cap] (fun rX => .tuple #[]) (fun rX => [bk rq3.g (sl (oct (highL n sz)) rq3.rest) 5]) (fun rX => True) (fun w => kr) (fun w H => callsX_putV H (k := 0) rfl ((rev_any (lowL n sz) sz (lowL_len n sz) (by rw [lowL_len]; exact h1) (by rw [lowL_len]; omega) _ _ _ _ (H.at_ (k := 0) rfl)).mono (fun _ _ ⟨q1, q2, q3⟩ => ⟨r0, q1, trivial, q2, by rw [lowL_rev] at q3; exact q3⟩))) ?_
  clear F H; intro rq5 a v Qrq5 F H
  refine wpList_nil ?_
  refine hK4 _ _ ?_
  clear hK4
  try clear K4
  refine C_seqK (fun K6 hK6 => ?_)
  refine C_region ?_
  refine T_k F H (sc rq3.g 0 sz rq3.cap) ?_
  clear F; intro a F
  refine T_k F H (sc rq3.g 0 sz rq3.cap) ?_
  clear F; intro a F
  refine wpList_nil ?_
  refine hK6 _ _ ?_
  clear hK6
  try clear K6
  refine wp_ret ?_
  exact C_ret F H (rs := [.tmp 4]) rfl (vs := [sc rq3.g 0 sz rq3.cap]) (.tmp rfl .nil) (sc rq3.g 0 sz rq3.cap) rfl (made_ret H (k := 0) rfl (own_same Qrq3 (by rw [ints_len, ints_len, highL_len, lowL_len])))

set_option maxRecDepth 100000 in
set_option maxHeartbeats 4000000 in
theorem ofHigh4_any (bl : Nat → Nat) (hbl : ∀ i, bl i < 256) (ad off cp : Nat) (hcp : 4 ≤ cp) (arr : Array Value) (ty : Nat) (ha : ∀ j, j < 4 → arr[off + j]? = some (.int .u8 ((bl (off + j) : Nat) : Int))) (w : World) (hblk : w.heap[ad]? = some (.cells arr ty (0, 0))) : Calls Tryd.prog 125 #[.slice (some ⟨ad, off, none⟩) 4 cp] w fun e w' => e = .returned (.int .u64 ((hiW bl off 4 : Nat) : Int)) ∧ Kept [] w w' := by
  refine C_enter Tryd.func125 rfl 23 Tryd.ntmps125 (Nat.le_of_ble_eq_true rfl) (fun a F => ?_)
  have H := Hp.start1 [] hblk
  replace F : Fm 23 [] [(0, sc ad off 4 cp)] a := F.weak _ (subL_of kr)
  refine C_seqK (fun K1 hK1 => ?_)
  refine C_region ?_
  refine T_k F H (nu 0) ?_
  clear F; intro a F
  refine wpList_nil ?_
  refine hK1 _ _ ?_
  clear hK1
  try clear K1
  refine C_seqK (fun K2 hK2 => ?_)
  refine C_region ?_
  refine T_k F H (nu 0) ?_
  clear F; intro a F
  refine wpList_nil ?_
  refine hK2 _ _ ?_
  clear hK2
  try clear K2
  refine C_seqK (fun K3 hK3 => ?_)
  refine C_seqK (fun K4 hK4 => ?_)
  refine C_region ?_
  refine T_k F H (sc ad off 4 cp) ?_
  clear F; intro a F
  refine T_k F H (sc ad off 4 cp) ?_
  clear F; intro a F
  refine T_k F H (ni 4) ?_
  clear F; intro a F
  refine T_k F H (ni 4) ?_
  clear F; intro a F
  refine T_val F H kr (sc ad off 4 cp) (fun w _ => R_slice (x := (.tmp 6)) (lo := none) (hi := (some (.tmp 9))) rfl Tryd.underlying54 (ad := some ⟨ad, off, none⟩) (len := 4) (cap := cp) kr (0) (4) rfl ⟨.i64, kr⟩ (by omega) hcp (sz := 1) kr _ slice0 w) ?_
  clear F; intro a F
  refine T_k F H (ni 4) ?_
  clear F; intro a F
  refine T_k F H (ni 0) ?_
  clear F; intro a F
  refine wpList_nil ?_
  replace F : Fm 23 [] [(12, ni 0), (11, ni 4), (3, nu 0), (10, sc ad off 4 cp)] a := F.weak _ (subL_of kr)
  refine hK4 _ _ ?_
  clear hK4
  try clear K4
  refine wp_block ?_
  refine C_loop (fun m a v => ∃ k, k + m = 4 ∧ Fm 23 [] [(12, ni k), (11, ni 4), (3, nu (hiW bl off (k))), (10, sc ad off 4 cp)] a ∧ Hp [] w [br ad arr ty] v) (4) ⟨0, Nat.zero_add _, F, H⟩ ?_
  clear F H
  intro m a v ⟨k, hk, F, H⟩
  rcases m with _ | m
  rotate_left
  · skip
    have hb := hbl (off + k)
    have hh := hiW_lt hbl (off := off) (k := k)
    have h256 : 256 ^ k ≤ 256 ^ 3 := Nat.pow_le_pow_right (by omega) (by omega)
    have hs := hi_step hbl off (k := k) (by omega)
    refine C_seqK (fun K5 hK5 => ?_)
    refine C_region ?_
    refine T_val F H kr (.bool true) (fun w _ => R_bin (x := (.tmp 12)) (y := (.tmp 11)) rfl (k := .i64) (a := ((k : Nat) : Int)) (b := ((4 : Nat) : Int)) kr kr (i_lt (by omega)) w) ?_
    clear F; intro a F
    refine wpList_nil ?_
    refine hK5 _ _ ?_
    clear hK5
    try clear K5
    refine C_seqK (fun K6 hK6 => ?_)
    refine C_if F true rfl rfl ?_
    refine wp_skip ?_
    refine hK6 _ _ ?_
    clear hK6
    try clear K6
    refine C_seqK (fun K7 hK7 => ?_)
    refine wp_block ?_
    refine C_seqK (fun K8 hK8 => ?_)
    refine C_region ?_
    refine T_val F H kr (pt ad (off + (k) * 1)) (fun w _ => R_indexS (k := .i64) (g := ad) (off := off) (len := 4) (cap := cp) (x := (.tmp 10)) (y := (.tmp 12)) rfl Tryd.underlying54 kr (k) kr (by omega) (sz := 1) kr w) ?_
    clear F; intro a F
    refine T_val F H kr (nb (bl (off + k))) (R_cell 0 rfl 5 (.tmp 14) rfl (off + k * 1) kr (nb (bl (off + k))) ((congrArg (fun q => arr[q]?) (show off + k * 1 = off + k by omega)).trans (ha k (by omega))) _ Tryd.underlying5 rfl) ?_
    clear F; intro a F
    refine T_k F H (nb (bl (off + k))) ?_
    clear F; intro a F
    refine wpList_nil ?_
    refine hK8 _ _ ?_
    clear hK8
    try clear K8
    refine C_region ?_
    refine T_k F H (nu (hiW bl off (k))) ?_
    clear F; intro a F
    refine T_val F H kr (nu (((hiW bl off (k)) <<< (8)) % 18446744073709551616)) (fun w _ => R_shl (x := (.tmp 16)) (y := (.const (.int .u64 8))) rfl (k := .u64) (yk := .u64) (a := ((hiW bl off (k) : Nat) : Int)) (b := ((8 : Nat) : Int)) kr kr (Int.natCast_nonneg _) (shl64_val (by omega)) w) ?_
    clear F; intro a F
    refine T_k F H (nb (bl (off + k))) ?_
    clear F; intro a F
    refine T_val F H kr (nu (bl (off + k))) (fun w _ => R_conv (x := (.tmp 18)) rfl (k0 := .u8) kr kr (k := .u8) (a := ((bl (off + k) : Nat) : Int)) kr (wru64 (a := bl (off + k)) (by omega)) w) ?_
    clear F; intro a F
    refine T_val F H kr (nu (hiW bl off (k + 1))) (fun w _ => R_bin (x := (.tmp 17)) (y := (.tmp 19)) rfl (k := .u64) (a := (((((hiW bl off (k)) <<< (8)) % 18446744073709551616) : Nat) : Int)) (b := ((bl (off + k) : Nat) : Int)) kr kr ((i_or64 (a := (((hiW bl off (k)) <<< (8)) % 18446744073709551616)) (b := bl (off + k)) (Nat.mod_lt _ (by decide)) (by omega)).trans (congrArg (fun q : Nat => some (Value.int .u64 (q : Int))) hs)) w) ?_
    clear F; intro a F
    refine T_k F H (nu (hiW bl off (k + 1))) ?_
    clear F; intro a F
    refine wpList_nil ?_
    refine hK7 _ _ ?_
    clear hK7
    try clear K7
    refine C_region ?_
    refine T_val F H kr (ni (k + 1)) (fun w _ => R_bin (x := (.tmp 12)) (y := (.const (.int .i64 1))) rfl (k := .i64) (a := ((k : Nat) : Int)) (b := ((1 : Nat) : Int)) kr kr (i_addn64 (a := k) (b := 1) (by omega)) w) ?_
    clear F; intro a F
    refine T_k F H (ni (k + 1)) ?_
    clear F; intro a F
    refine wpList_nil ?_
    replace F : Fm 23 [] [(12, ni (k + 1)), (11, ni 4), (3, nu (hiW bl off (k + 1))), (10, sc ad off 4 cp)] a := F.weak _ (subL_of kr)
    replace H : Hp [] w [br ad arr ty] v := H
    exact ⟨m, Nat.lt_succ_self m, k + 1, by omega, F, H⟩
  have hkt : k = 4 := by omega
  try rw [hkt] at F
  try rw [hkt] at H
  clear hk
  refine C_seqK (fun K9 hK9 => ?_)
  refine C_region ?_
  refine T_val F H kr (.bool false) (fun w _ => R_bin (x := (.tmp 12)) (y := (.tmp 11)) rfl (k := .i64) (a := ((4 : Nat) : Int)) (b := ((4 : Nat) : Int)) kr kr (i_nlt (by omega)) w) ?_
  clear F; intro a F
  refine wpList_nil ?_
  refine hK9 _ _ ?_
  clear hK9
  try clear K9
  refine C_seqK (fun K10 hK10 => ?_)
  refine C_if F false rfl rfl ?_
  refine wp_exit ?_
  refine hK3 _ _ ?_
  clear hK3
  try clear K3
  refine C_seqK (fun K11 hK11 => ?_)
  refine C_region ?_
  refine T_k F H (nu (hiW bl off (4))) ?_
  clear F; intro a F
  refine T_k F H (nu (hiW bl off (4))) ?_
  clear F; intro a F
  refine wpList_nil ?_
  refine hK11 _ _ ?_
  clear hK11
  try clear K11
  refine wp_ret ?_
  exact C_ret F H (rs := [.tmp 2]) rfl (vs := [nu (hiW bl off (4))]) (.tmp rfl .nil) (nu (hiW bl off (4))) rfl ⟨rfl, H.kept⟩
end Go.Proofs.YtdejhenkdbjakaaDoor
