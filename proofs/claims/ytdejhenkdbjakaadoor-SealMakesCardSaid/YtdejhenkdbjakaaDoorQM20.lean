/- YL Z0 -/
import Derived.Test.YtdejhenkdbjakaaDoorQM18
import Derived.Test.YtdejhenkdbjakaaDoorQM10
set_option linter.unusedVariables false
set_option linter.unusedSimpArgs false
set_option maxRecDepth 100000
set_option maxHeartbeats 4000000
namespace Go.Proofs.YtdejhenkdbjakaaDoor
open Go Go.RowKit
section
variable {ops : Array Oper} {d : Array Bool} {β : Nat → SlR} {i : Nat} {T : List TB} {L : List Blk} {X : List Nat} {w0 w w' : World} {fu : Nat} {o : Oper} {r : SlR} {b b2 : TB} {k k2 m m2 : Nat} {s s2 : Sg}
theorem stgS_one : ∀ {l : List Sg} {m : Nat}, stgS ops fu i l m = true → l[m]? = some s → ∀ s' ∈ l, s'.i = i → s' = s := by
  intro l
  induction l with
  | nil => intro m h; simp [stgS] at h
  | cons a l ih =>
    intro m h hm s' hs' hi
    cases m with
    | zero =>
      simp only [stgS, Bool.and_eq_true, List.all_eq_true] at h
      simp only [List.getElem?_cons_zero, Option.some.injEq] at hm
      rcases List.mem_cons.1 hs' with rfl | hs'
      · exact hm
      · exact absurd hi (ne_beq (h.2 s' hs').2)
    | succ m =>
      simp only [stgS, Bool.and_eq_true] at h
      rcases List.mem_cons.1 hs' with rfl | hs'
      · exact absurd hi (ne_beq h.1.2)
      · exact ih h.2 (by simpa using hm) s' hs' hi
theorem J2.stage2 (h : J2 X w0 T L d β w) (hD : ∀ b ∈ T, DepF d β i r b) (hcl : Closed ops d) (ho : ops[i]? = some o) (hf : d.getD i true = false) (hdep : ∀ e ∈ o.after, Region.binds .any e = true → d.getD e.on false = true)
    (hk : T[k]? = some b) (hk2 : (T.eraseIdx k)[k2]? = some b2) (hrest : ((T.eraseIdx k).eraseIdx k2).all (freeB i) = true) (ha : alB ops fu i b = true) (hkl : klB ops fu i b = true) (hs : stgS ops fu i b.sts m = true) (hsm : b.sts[m]? = some s) (hq : s.qb (updS β i r))
    (ha2 : alB ops fu i b2 = true) (hkl2 : klB ops fu i b2 = true) (hs2 : stgS ops fu i b2.sts m2 = true) (hsm2 : b2.sts[m2]? = some s2) (hq2 : s2.qb (updS β i r))
    (k1 : Kept [b.adr β, b2.adr β] w w') (h1 : w'.heap[b.adr β]? = some (s.Rb (updS β i r))) (h2 : w'.heap[b2.adr β]? = some (s2.Rb (updS β i r))) : J2 X w0 T L (d.setIfInBounds i true) (updS β i r) w' := by
  have hb := born_at hcl ho hf hdep ha hkl
  have hbb := born_at hcl ho hf hdep ha2 hkl2
  have hal : b.al ≠ some i := by simp only [alB, Bool.and_eq_true] at ha; exact neO_spec ha.1
  have hkl' : b.kl ≠ some i := by simp only [klB, Bool.and_eq_true] at hkl; exact neO_spec hkl.1
  have hal2 : b2.al ≠ some i := by simp only [alB, Bool.and_eq_true] at ha2; exact neO_spec ha2.1
  have hkl2' : b2.kl ≠ some i := by simp only [klB, Bool.and_eq_true] at hkl2; exact neO_spec hkl2.1
  have hb' : b.born (d.setIfInBounds i true) = true := by rw [TB.born_free hal hkl']; exact hb
  have hbb' : b2.born (d.setIfInBounds i true) = true := by rw [TB.born_free hal2 hkl2']; exact hbb
  have hperm := (perm_erase hk).trans ((perm_erase hk2).cons b)
  refine h.q_next r hD (fun c hc hca => ?_) (fun c hc s' hs' hsi => ?_) ?_
  · rcases List.mem_cons.1 (hperm.mem_iff.1 hc) with rfl | hc
    · exact absurd hca hal
    · rcases List.mem_cons.1 hc with rfl | hc
      · exact absurd hca hal2
      · exact absurd hca (freeB_spec (List.all_eq_true.1 hrest c hc)).1
  · rcases List.mem_cons.1 (hperm.mem_iff.1 hc) with rfl | hc
    · rw [stgS_one hs hsm s' hs' hsi]; exact hq
    · rcases List.mem_cons.1 hc with rfl | hc
      · rw [stgS_one hs2 hsm2 s' hs' hsi]; exact hq2
      · exact absurd hsi ((freeB_spec (List.all_eq_true.1 hrest c hc)).2.2 s' hs')
  · have H1 := h.hp.perm (Lof_perm hperm)
    rw [Lof_born hb, Lof_born hbb] at H1
    have H2 := H1.put2 (k := 0) (k2 := 1) rfl rfl (by decide) k1 h1 h2
    refine Hp.perm ?_ (Lof_perm hperm).symm
    rw [Lof_born hb', Lof_born hbb', Lof_free hrest (fun c hc => hD c (hperm.mem_iff.2 (List.mem_cons_of_mem _ (List.mem_cons_of_mem _ hc))))]
    have e : b.blk (d.setIfInBounds i true) (updS β i r) = ⟨true, b.adr β, s.Rb (updS β i r)⟩ := by
      unfold TB.blk
      rw [TB.adr_free hal, contF_after hcl ho hf hdep hs hsm]
    have e2 : b2.blk (d.setIfInBounds i true) (updS β i r) = ⟨true, b2.adr β, s2.Rb (updS β i r)⟩ := by
      unfold TB.blk
      rw [TB.adr_free hal2, contF_after hcl ho hf hdep hs2 hsm2]
    rw [e, e2]
    exact H2
end
section
variable {P : Program} {ops : Array Oper} {W : (Nat → SlR) → List (Nat × Value)} {V : List (Nat × Value)} {exs : List (Nat × List Nat)} {X : List Nat} {w0 : World} {T : List TB} {L : List Blk} {i : Nat} {o : Oper}
theorem E_callPP (n : Nat) (hc0 : ∀ β, opB ops (rm (exAt exs i) (W β) ++ V) n o = true) (v : (Nat → SlR) → Value) (x : Nat) (hx : o.dst = some x) (hv : ∀ β, lk (W β ++ V) x = some (v β)) (lf : Nat) (ht : ∀ β r, offAt2 ops lf i x (W (updS β i r)) (W β)) (f : Nat) (args : (Nat → SlR) → Array Value) (he : ∀ β w, (execOp (evV (rm (exAt exs i) (W β) ++ V)) o).run P w = .ok (.enter f (args β)) w) (fu : Nat) (rd : List (Nat × Nat)) (k m k2 m2 : Nat) (b b2 : TB) (s s2 : Sg) (hk : T[k]? = some b) (hk2 : (T.eraseIdx k)[k2]? = some b2) (hs : b.sts[m]? = some s) (hs2 : b2.sts[m2]? = some s2) (hck : (rdB ops T fu i rd && ((T.eraseIdx k).eraseIdx k2).all (freeB i) && alB ops fu i b && klB ops fu i b && stgS ops fu i b.sts m && alB ops fu i b2 && klB ops fu i b2 && stgS ops fu i b2.sts m2) = true) (hdk : T.all (dOK ops fu i) = true) (ho : ops[i]? = some o)
    (hr : ∀ β w, Kept X w0 w → HeldL (rdL T β rd ++ L) w → QF T β rd → w.heap[b.adr β]? = some (contM β (b.z0 β) b.sts m) → w.heap[b2.adr β]? = some (contM β (b2.z0 β) b2.sts m2) → Calls P f (args β) w fun e w' => ∃ r, e = .returned (v (updS β i r)) ∧ s.qb (updS β i r) ∧ s2.qb (updS β i r) ∧ Kept [b.adr β, b2.adr β] w w' ∧ w'.heap[b.adr β]? = some (s.Rb (updS β i r)) ∧ w'.heap[b2.adr β]? = some (s2.Rb (updS β i r))) : StO2 P ops W V exs (J2 X w0 T L) i o := by
  simp only [Bool.and_eq_true] at hck
  obtain ⟨⟨⟨⟨⟨⟨⟨c1, c2⟩, c3⟩, c4⟩, c5⟩, c6⟩, c7⟩, c8⟩ := hck
  refine .callX (fun β => (opB_spec (hc0 β)).2.1) (fun β => (opB_spec (hc0 β)).1) v (fun β r t ht => by rw [hx] at ht; cases ht; exact hv _) (fun β r t hne => lk_off2 (ht β r) t (fun e => hne (by rw [hx, e]))) f args he fun d β w hcl hf hdep hJ => ?_
  obtain ⟨h1, h2⟩ := hJ.reads hcl ho hf hdep c1
  have own : ∀ {c : TB} {mm : Nat}, c ∈ T → alB ops fu i c = true → klB ops fu i c = true → stgS ops fu i c.sts mm = true → w.heap[c.adr β]? = some (contM β (c.z0 β) c.sts mm) := fun hm g3 g4 g5 => by
    have hmem := List.mem_append_left L (List.mem_map_of_mem (f := fun c : TB => c.blk d β) (List.mem_filter.2 ⟨hm, born_at hcl ho hf hdep g3 g4⟩))
    have := hJ.hp.held _ hmem
    unfold TB.blk at this
    rw [contF_before hcl ho hf hdep g5] at this
    exact this
  have o1 := own ((perm_erase hk).mem_iff.2 (List.mem_cons_self ..)) c3 c4 c5
  have o2 := own ((perm_erase hk).mem_iff.2 (List.mem_cons_of_mem _ (List.mem_of_getElem? hk2))) c6 c7 c8
  exact (hr β w hJ.hp.kept h1 h2 o1 o2).mono fun e w' ⟨r, h3, h4, h5, h6, h7, h8⟩ => ⟨r, h3, hJ.stage2 (fun c hc => dOK_spec hcl hf (List.all_eq_true.1 hdk c hc)) hcl ho hf hdep hk hk2 c2 c3 c4 c5 hs h4 c6 c7 c8 hs2 h5 h6 h7 h8⟩
end

end Go.Proofs.YtdejhenkdbjakaaDoor
namespace Go.Proofs.YtdejhenkdbjakaaDoor
open Go Go.RowKit
def rol (x n : Nat) : Nat := ((x <<< n) % 4294967296) ||| (x >>> (32 - n))
theorem rol_lt {x n : Nat} (h : x < 4294967296) : rol x n < 4294967296 := by
  unfold rol
  refine Nat.or_lt_two_pow (n := 32) (Nat.mod_lt _ (by omega)) ?_
  rw [Nat.shiftRight_eq_div_pow]
  exact Nat.lt_of_le_of_lt (Nat.div_le_self _ _) h
def sA (w : Nat → Nat) (a b : Nat) : Nat → Nat := upd w a (add32 (w a) (w b))
def sX (w : Nat → Nat) (d a n : Nat) : Nat → Nat := upd w d (rol (w d ^^^ w a) n)
def hq (w : Nat → Nat) (a b c d m n : Nat) : Nat → Nat := sX (sA (sX (sA w a b) d a m) c d) b c n
theorem upd_lt {w : Nat → Nat} {m : Nat} (h : ∀ i, w i < m) {k v : Nat} (hv : v < m) (i : Nat) : upd w k v i < m := by
  unfold upd; split
  · exact hv
  · exact h i
theorem sA_lt {w : Nat → Nat} (h : ∀ i, w i < 4294967296) (a b i : Nat) : sA w a b i < 4294967296 := upd_lt h (add32_lt _ _) i
theorem sX_lt {w : Nat → Nat} (h : ∀ i, w i < 4294967296) (d a n i : Nat) : sX w d a n i < 4294967296 := upd_lt h (rol_lt (Nat.xor_lt_two_pow (n := 32) (h d) (h a))) i
theorem hq_lt {w : Nat → Nat} (h : ∀ i, w i < 4294967296) (a b c d m n i : Nat) : hq w a b c d m n i < 4294967296 := sX_lt (sA_lt (sX_lt (sA_lt h a b) d a m) c d) b c n i
def tn1 (k : Nat) : Nat := if k = 0 then 16 else 8
def tn2 (k : Nat) : Nat := if k = 0 then 12 else 7
def qs (w : Nat → Nat) (a b c d : Nat) : Nat → Nat → Nat
  | 0 => w
  | k + 1 => hq (qs w a b c d k) a b c d (tn1 k) (tn2 k)
theorem qs_lt {w : Nat → Nat} (h : ∀ i, w i < 4294967296) (a b c d : Nat) : ∀ k i, qs w a b c d k i < 4294967296
  | 0, i => h i
  | k + 1, i => hq_lt (qs_lt h a b c d k) a b c d _ _ i
def qA (k : Nat) : Nat := k % 4
def qB (k : Nat) : Nat := 4 + (k + k / 4) % 4
def qC (k : Nat) : Nat := 8 + (k + 2 * (k / 4)) % 4
def qD (k : Nat) : Nat := 12 + (k + 3 * (k / 4)) % 4
def dr (w : Nat → Nat) : Nat → Nat → Nat
  | 0 => w
  | k + 1 => qs (dr w k) (qA k) (qB k) (qC k) (qD k) 2
theorem dr_lt {w : Nat → Nat} (h : ∀ i, w i < 4294967296) : ∀ k i, dr w k i < 4294967296
  | 0, i => h i
  | k + 1, i => qs_lt (dr_lt h k) _ _ _ _ 2 i
def rn (w : Nat → Nat) : Nat → Nat → Nat
  | 0 => w
  | k + 1 => dr (rn w k) 8
theorem rn_lt {w : Nat → Nat} (h : ∀ i, w i < 4294967296) : ∀ k i, rn w k i < 4294967296
  | 0, i => h i
  | k + 1, i => dr_lt (rn_lt h k) 8 i
def loS (b : Nat → Nat) (off : Nat) : Nat → Nat
  | 0 => 0
  | k + 1 => loS b off k + b (off + k) * 256 ^ k
theorem loS_lt {b : Nat → Nat} (h : ∀ i, b i < 256) (off : Nat) : ∀ k, loS b off k < 256 ^ k
  | 0 => by simp [loS]
  | k + 1 => by
    have h1 := loS_lt h off k
    have h2 := h (off + k)
    have h3 : b (off + k) * 256 ^ k ≤ 255 * 256 ^ k := Nat.mul_le_mul_right _ (by omega)
    rw [loS, Nat.pow_succ]
    omega
theorem loS4_lt {b : Nat → Nat} (h : ∀ i, b i < 256) (off : Nat) : loS b off 4 < 4294967296 := loS_lt h off 4
theorem loS_step {b : Nat → Nat} (h : ∀ i, b i < 256) (off : Nat) {k : Nat} (hk : k < 4) : (loS b off k) ||| (((b (off + k)) <<< (8 * k)) % 18446744073709551616) = loS b off (k + 1) := by
  have h1 := loS_lt h off k
  have h2 := h (off + k)
  have e : 256 ^ k = 2 ^ (8 * k) := by rw [Nat.pow_mul]
  have h3 : 2 ^ (8 * k) ≤ 2 ^ 24 := Nat.pow_le_pow_right (by decide) (by omega)
  have h4 : b (off + k) * 2 ^ (8 * k) ≤ 255 * 2 ^ 24 := Nat.mul_le_mul (by omega) h3
  rw [loS, Nat.shiftLeft_eq, Nat.mod_eq_of_lt (by omega), e, Nat.or_comm, ← Nat.shiftLeft_eq, ← Nat.shiftLeft_add_eq_or_of_lt (by rw [← e]; exact h1), Nat.shiftLeft_eq]
  omega
def stW (i : Nat) : Nat := if i = 0 then 1634760805 else if i = 1 then 857760878 else if i = 2 then 2036477234 else 1797285236
theorem stW_lt (i : Nat) : stW i < 4294967296 := by unfold stW; repeat' split
                                                    all_goals omega
def fW (key : Nat → Nat) (ct : Nat) (nc : Nat → Nat) : Nat → Nat := fun i => if i < 4 then stW i else if i < 12 then loS key (4 * (i - 4)) 4 else if i = 12 then ct else loS nc (4 * (i - 13)) 4
theorem fW_lt {key : Nat → Nat} (hk : ∀ i, key i < 256) {ct : Nat} (hc : ct < 4294967296) {nc : Nat → Nat} (hn : ∀ i, nc i < 256) (i : Nat) : fW key ct nc i < 4294967296 := by
  unfold fW
  split
  · exact stW_lt i
  · split
    · exact loS4_lt hk _
    · split
      · exact hc
      · exact loS4_lt hn _
def fP (key : Nat → Nat) (ct : Nat) (nc : Nat → Nat) (m : Nat) : Nat → Nat := fun i => if i < m then fW key ct nc i else 0
theorem fP_lt {key : Nat → Nat} (hk : ∀ i, key i < 256) {ct : Nat} (hc : ct < 4294967296) {nc : Nat → Nat} (hn : ∀ i, nc i < 256) (m i : Nat) : fP key ct nc m i < 4294967296 := by
  unfold fP; split
  · exact fW_lt hk hc hn i
  · omega
theorem fP_step (key : Nat → Nat) (ct : Nat) (nc : Nat → Nat) {m v : Nat} (h : v = fW key ct nc m) : upd (fP key ct nc m) m v = fP key ct nc (m + 1) := by
  subst h
  funext j
  unfold upd fP
  by_cases e : j = m
  · subst e; rw [if_pos rfl, if_pos (by omega)]
  · rw [if_neg e]
    by_cases h1 : j < m
    · rw [if_pos h1, if_pos (by omega)]
    · rw [if_neg h1, if_neg (by omega)]
theorem fP_key (key : Nat → Nat) (ct : Nat) (nc : Nat → Nat) {k : Nat} (h : k < 8) : upd (fP key ct nc (4 + k)) (4 + k) (loS key (4 * k) 4) = fP key ct nc (4 + (k + 1)) :=
  fP_step key ct nc (by unfold fW; rw [if_neg (by omega), if_pos (by omega), show 4 + k - 4 = k by omega])
theorem fP_ct (key : Nat → Nat) (ct : Nat) (nc : Nat → Nat) : upd (fP key ct nc 12) 12 ct = fP key ct nc 13 := fP_step key ct nc (by unfold fW; rw [if_neg (by omega), if_neg (by omega), if_pos rfl])
theorem fP_nc (key : Nat → Nat) (ct : Nat) (nc : Nat → Nat) {k : Nat} (h : k < 3) : upd (fP key ct nc (13 + k)) (13 + k) (loS nc (4 * k) 4) = fP key ct nc (13 + (k + 1)) :=
  fP_step key ct nc (by unfold fW; rw [if_neg (by omega), if_neg (by omega), if_neg (by omega), show 13 + k - 13 = k by omega])
theorem fP_all (key : Nat → Nat) (ct : Nat) (nc : Nat → Nat) : arrF .u32 16 (fP key ct nc 16) = arrF .u32 16 (fW key ct nc) := arrF_congr fun i hi => if_pos hi
def ccF (key : Nat → Nat) (ct : Nat) (nc : Nat → Nat) : Nat → Nat := fun i => (add32 (rn (fW key ct nc) 10 (i / 4)) (fW key ct nc (i / 4)) >>> (8 * (i % 4))) % 256
theorem ccF_lt (key : Nat → Nat) (ct : Nat) (nc : Nat → Nat) (i : Nat) : ccF key ct nc i < 256 := Nat.mod_lt _ (by omega)
def ccP (key : Nat → Nat) (ct : Nat) (nc : Nat → Nat) (m : Nat) : Nat → Nat := fun i => if i < m then ccF key ct nc i else 0
theorem ccP_step (key : Nat → Nat) (ct : Nat) (nc : Nat → Nat) (m : Nat) : upd (ccP key ct nc m) m (ccF key ct nc m) = ccP key ct nc (m + 1) := by
  funext j
  unfold upd ccP
  by_cases e : j = m
  · subst e; rw [if_pos rfl, if_pos (by omega)]
  · rw [if_neg e]
    by_cases h1 : j < m
    · rw [if_pos h1, if_pos (by omega)]
    · rw [if_neg h1, if_neg (by omega)]
theorem ccP_all (key : Nat → Nat) (ct : Nat) (nc : Nat → Nat) : arrF .u8 64 (ccP key ct nc 64) = arrF .u8 64 (ccF key ct nc) := arrF_congr fun i hi => if_pos hi

def mxB (key nc : Nat → Nat) (i : Nat) : Nat := ccF key (i / 64) nc (i % 64)
def mxP (key nc : Nat → Nat) (tl : List Nat) (m : Nat) : List Nat := (List.range m).map fun i => tl.getD i 0 ^^^ mxB key nc i
theorem mxP_len (key nc : Nat → Nat) (tl : List Nat) (m : Nat) : (mxP key nc tl m).length = m := by simp [mxP]
theorem mxP_get (key nc : Nat → Nat) (tl : List Nat) {m i : Nat} (h : i < m) : (mxP key nc tl m)[i]? = some (tl.getD i 0 ^^^ mxB key nc i) := by simp [mxP, h]
theorem mxP_snoc (key nc : Nat → Nat) (tl : List Nat) (m : Nat) : mxP key nc tl m ++ [tl.getD m 0 ^^^ mxB key nc m] = mxP key nc tl (m + 1) := by
  unfold mxP
  rw [List.range_succ, List.map_append]
  rfl
end Go.Proofs.YtdejhenkdbjakaaDoor
