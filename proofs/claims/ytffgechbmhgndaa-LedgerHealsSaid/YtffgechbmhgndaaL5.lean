/- What Leaked tells: the loop. -/
import Derived.Test.YtffgechbmhgndaaL4
import Derived.Test.YtffgechbmhgndaaK1
set_option linter.unusedVariables false
set_option linter.unusedSimpArgs false
namespace Go.Proofs.Ytffgechbmhgndaa
open Go.RowKit

theorem idx_ge (p : Look → Bool) (s : List Look) : decide (0 ≤ idx p s) = s.any p := by
  unfold idx
  cases h : s.findIdx? p with
  | none =>
    rw [List.findIdx?_eq_none_iff] at h
    have : s.any p = false := by rw [List.any_eq_false]; intro x hx; simp [h x hx]
    rw [this]; simp
  | some i =>
    have : s.any p = true := by
      obtain ⟨hi, hp, _⟩ := List.findIdx?_eq_some_iff_getElem.1 h
      exact List.any_eq_true.2 ⟨_, List.getElem_mem hi, hp⟩
    rw [this]; simp

theorem contains_any (s : List Look) (p : Look → Bool) (vs : Value) (n : Nat) (cb : Nat) (w : World) (hs : w.ownsRow 0 71 3 vs s.length (Led.seenCells s)) (hl : s.length ≤ 1000)
    (hcf : ∀ (args : Array Value) (w : World), (callFunc n args).run Try.prog w = .ok (.enter n args) w)
    (hf : ∀ w1, Below w.heap.size w w1 → ∀ t, Calls Try.prog n #[lookV t, .pointer (some ⟨cb, 0, none⟩)] w1 fun r w' => r = .returned (.bool (p t)) ∧ Below w1.heap.size w1 w') :
    Calls Try.prog 33 #[vs, .func (.func n) #[] #[.pointer (some ⟨cb, 0, none⟩)]] w fun r w' => r = .returned (.bool (s.any p)) ∧ Below w.heap.size w w' := by
  have HI := Lib.hid (indexFunc_any s p vs n cb w hs hl hcf hf)
  clear hf hs hcf
  have HG := Lib.hid (idx_ge p s)
  go_enter Try.func33, Try.ntmps33
  go_wp2_with fail
  refine HI.out.mono ?_
  rintro e w1 ⟨rfl, hb⟩
  generalize idx p s = z at *
  go_wp2
  go_ret
  exact ⟨ret_bool HG.out, hb⟩

theorem has1 {w : World} {vs : Value} (s : List Look) (i cb : Nat) (hs : w.ownsRow 0 71 3 vs s.length (Led.seenCells s)) (hl : s.length ≤ 1000) (hc : w.cell? ⟨cb, 0, none⟩ = some (.int .i64 i)) :
    Calls Try.prog 33 #[vs, .func (.func 34) #[] #[.pointer (some ⟨cb, 0, none⟩)]] w fun r w' => r = .returned (.bool (s.any fun t => t.1 == i)) ∧ Below w.heap.size w w' :=
  contains_any s _ vs 34 cb w hs hl call34 fun _ hb t => look1 t i cb _ ((hb.cell (World.block_lt_of_cell? w _ hc)).trans hc)
theorem has2 {w : World} {vs : Value} (s : List Look) (i cb : Nat) (hs : w.ownsRow 0 71 3 vs s.length (Led.seenCells s)) (hl : s.length ≤ 1000) (hc : w.cell? ⟨cb, 0, none⟩ = some (.int .i64 i)) :
    Calls Try.prog 33 #[vs, .func (.func 35) #[] #[.pointer (some ⟨cb, 0, none⟩)]] w fun r w' => r = .returned (.bool (s.any fun t => decide (t.2.1 ≤ i) && decide (i ≤ t.2.2))) ∧ Below w.heap.size w w' :=
  contains_any s _ vs 35 cb w hs hl call35 fun _ hb t => look2 t i cb _ ((hb.cell (World.block_lt_of_cell? w _ hc)).trans hc)
theorem own_below {w w1 : World} {base : Nat} {e : TypeId} {size n : Nat} {v : Value} {xs : List Value} (h : w.ownsRow base e size v n xs) (hb : Below w.heap.size w w1) : w1.ownsRow base e size v n xs :=
  own_keep h fun k hk => hb.block k (own_obl_lt h hk)

namespace Led
def step (L : Led) (last : Bool) (i : Nat) (ep : Nat) : Bool := (last || L.seen.any (fun t => t.1 == i)) && L.seen.any (fun t => decide (t.2.1 ≤ ep) && decide (ep ≤ t.2.2))
/-- Of the first k frames, which leak. -/
def leakTo (L : Led) : Nat → List Bool
  | 0 => []
  | k + 1 => L.leakTo k ++ [L.step ((L.leakTo k).getLastD false) k (L.epochs.getD k 0)]
theorem leakTo_length (L : Led) (k : Nat) : (L.leakTo k).length = k := by induction k <;> simp [leakTo, *]
def leaked (L : Led) : List Bool := L.leakTo L.epochs.length
end Led
theorem leakTo_next (L : Led) (k : Nat) (h : k < L.epochs.length) (x : Bool) (hx : L.step ((L.leakTo k).getLastD false) k L.epochs[k] = x) : L.leakTo (k + 1) = L.leakTo k ++ [x] := by
  rw [Led.leakTo, ← hx]; simp [List.getD, h]
theorem own_ge {w : World} {base : Nat} {e : TypeId} {size n : Nat} {v : Value} {xs : List Value} (h : w.ownsRow base e size v n xs) {k : Nat} (hk : v.ownBlock = some k) : base ≤ k := by
  rcases h.2 with ⟨rfl, _⟩ | ⟨g, cap, cur, rfl, hb, _⟩
  · simp [Value.ownBlock] at hk
  · simp [Value.ownBlock] at hk; omega

/-- A new slice of bools comes back. -/
def RetBools (w : World) (l : List Bool) (r : Ending) (w' : World) : Prop := ∃ v, r = .returned v ∧ w'.ownsRow w.heap.size 4 1 v l.length (bools l) ∧ Below w.heap.size w w'

set_option maxRecDepth 100000 in
set_option maxHeartbeats 1000000 in
theorem leaked_any {w : World} {b : Nat} {L : Led} {fs : List Nat} (h : LedAt w b L fs) (ok : L.Ok) :
    Calls Try.prog 14 #[.pointer (some ⟨b, 0, none⟩)] w (RetBools w L.leaked) := by
  obtain ⟨ve, vs, hb, he, hs, rfl⟩ := h
  obtain ⟨i0, hi, hz0, hz1, hz2⟩ := info_parts info4
  have hn6 := ok.n6
  have hsl := ok.seen
  have c0 : w.cell? ⟨b, 0, none⟩ = some ve := cell_of_row w b 0 _ 27 (0, 0) hb
  have c3 : w.cell? ⟨b, 3, none⟩ = some vs := cell_of_row w b 3 _ 27 (0, 0) hb
  have hbw : b < w.heap.size := heap_lt hb
  have HE := Lib.hid he
  obtain ⟨A, c, rfl, hc⟩ := own_form he
  have HS := Lib.hid hs; clear hs he hb ok
  go_enter Try.func14, Try.ntmps14
  go_wp2
  go_loopw [3, 4, 5, 6, 14] (fun out last _ _ i wr => ∃ k : Nat, k ≤ L.epochs.length ∧ i = .int .i64 k ∧ last = .bool ((L.leakTo k).getLastD false) ∧ Below w.heap.size w wr ∧ wr.ownsRow w.heap.size 4 1 out k (bools (L.leakTo k))) (fun _ _ _ _ i _ => L.epochs.length - (intOf i).toNat)
  case atStart => exact ⟨0, Nat.zero_le _, rfl, rfl, Below.refl _ _, by simp [World.ownsRow, Led.leakTo, bools]⟩
  case round =>
    obtain ⟨k, hk, rfl, rfl, hbl, hown⟩ := hrel
    have HO := Lib.hid hown; clear hown
    by_cases hlt : k < L.epochs.length
    · obtain ⟨g, c', hev, _, hg, hx⟩ := own_cell HE.out (by omega)
      obtain ⟨rfl, _, rfl⟩ : A = some ⟨g, 0, none⟩ ∧ L.epochs.length = L.epochs.length ∧ c = c' := by simpa using hev
      have x0 := (hbl.cell (p := ⟨g, k, none⟩) hg).trans (hx k (.int .i64 L.epochs[k]) (by simp [Led.ints, hlt]))
      have c3w := (hbl.cell (p := ⟨b, 3, none⟩) hbw).trans c3
      clear hx hev
      have hsz := hbl.size
      have hbwr : b < wr.heap.size := by omega
      have hgwr : g < wr.heap.size := by omega
      have hcell : ∀ w1, Below w.heap.size w w1 → w1.cell? ⟨b, 3, none⟩ = some vs := fun w1 h => (h.cell (p := ⟨b, 3, none⟩) hbw).trans c3
      have HC := Lib.hid hcell; clear hcell
      have hW2 : Below w.heap.size w ((wr.alloc (.cells #[.int .i64 k] 3)).alloc (.cells #[.int .i64 L.epochs[k]] 3)) := (hbl.alloc (by omega) _).alloc (by simp; omega) _
      cases hlast : (L.leakTo k).getLastD false
      · have HL := Lib.hid hlast; clear hlast
        go_wp2_with fail
        refine (has1 L.seen k wr.heap.size (own_below HS.out hW2) hsl (by simp)).mono ?_
        rintro e w1 ⟨rfl, hb1⟩
        have hsz1 := hb1.size
        simp at hsz1
        have hbw1 : Below w.heap.size w w1 := hW2.trans (hb1.mono (by simp; omega))
        have c3' := HC.out w1 hbw1
        have cep : w1.cell? ⟨wr.heap.size + 1, 0, none⟩ = some (.int .i64 L.epochs[k]) := (hb1.cell (p := ⟨wr.heap.size + 1, 0, none⟩) (by simp)).trans (by simp)
        have hX0 : ∀ p2, (L.seen.any fun t => decide (t.2.1 ≤ L.epochs[k]) && decide (L.epochs[k] ≤ t.2.2)) = p2 → L.step ((L.leakTo k).getLastD false) k L.epochs[k] = ((L.seen.any fun t => t.1 == k) && p2) := by
          intro p2 hp2; rw [HL.out]; simp only [Led.step]; rw [hp2]; rfl
        have HX0 := Lib.hid hX0; clear hX0
        generalize (L.seen.any fun t => t.1 == k) = p1 at HX0 ⊢
        cases p1
        all_goals
          go_wp2_with fail
          refine (has2 L.seen L.epochs[k] (wr.heap.size + 1) (own_below HS.out hbw1) hsl cep).mono ?_
          rintro e w2 ⟨rfl, hb2⟩
          have hsz2 := hb2.size
          have hbw2 : Below w.heap.size w w2 := hbw1.trans (hb2.mono (by omega))
          have hown2 : w2.ownsRow w.heap.size 4 1 u3 k (bools (L.leakTo k)) := own_below (own_below (own_below ((HO.out.alloc _).alloc _) (Below.refl _ _)) hb1) hb2
          have HO2 := Lib.hid hown2; clear hown2
          generalize hp2 : (L.seen.any fun t => decide (t.2.1 ≤ L.epochs[k]) && decide (L.epochs[k] ≤ t.2.2)) = p2
          cases p2
          all_goals
            have HX := Lib.hid (HX0.out _ hp2)
            clear hp2
            go_wp2_with (at_builtin; refine wpList_append_lies _ rfl (.tmp 38) (.tmp 40) 30 rfl w.heap.size 4 i0 (.bool false) 1 1 Try.underlying30 hi hz0 hz1 hz2 rfl (by decide) u3 k (bools (L.leakTo k)) rfl (HO2.out.alloc _) ⟨w2.heap.size, 0, none⟩ 1 1 [.bool _] rfl rfl (World.news_of_block (heap_alloc_new _ _)) (by simp [Value.oneCell']) (by decide) (by unfold maxLen; omega) (by omega) (by simp; omega) _ rfl ?_; intro g1 cap1 w3 hown hgrow hat hlt3; have HG := Lib.hid hgrow; clear hgrow; have HO3 := Lib.hid hown; clear hown hat)
            go_roundw
            case rel => exact ⟨k + 1, by omega, by go_num, by rw [leakTo_next L k (by omega) _ HX.out, List.getLastD_concat]; rfl, (hbw2.alloc (by omega) _).grown HG.out (by simp; omega) (fun _ h => own_ge HO2.out h), by rw [leakTo_next L k (by omega) _ HX.out]; simpa [bools] using HO3.out⟩
            case measure => simp [intOf]; omega
      · have HL := Lib.hid hlast; clear hlast
        go_wp2_with fail
        refine (has2 L.seen L.epochs[k] (wr.heap.size + 1) (own_below HS.out hW2) hsl (by simp)).mono ?_
        rintro e w2 ⟨rfl, hb2⟩
        have hsz2 := hb2.size
        simp at hsz2
        have hbw2 : Below w.heap.size w w2 := hW2.trans (hb2.mono (by simp; omega))
        have hown2 : w2.ownsRow w.heap.size 4 1 u3 k (bools (L.leakTo k)) := own_below ((HO.out.alloc _).alloc _) hb2
        have HO2 := Lib.hid hown2; clear hown2
        have hX0 : ∀ p2, (L.seen.any fun t => decide (t.2.1 ≤ L.epochs[k]) && decide (L.epochs[k] ≤ t.2.2)) = p2 → L.step ((L.leakTo k).getLastD false) k L.epochs[k] = (true && p2) := by
          intro p2 hp2; rw [HL.out]; simp only [Led.step]; rw [hp2]; rfl
        have HX0 := Lib.hid hX0; clear hX0
        generalize hp2 : (L.seen.any fun t => decide (t.2.1 ≤ L.epochs[k]) && decide (L.epochs[k] ≤ t.2.2)) = p2
        cases p2
        all_goals
          have HX := Lib.hid (HX0.out _ hp2)
          clear hp2
          go_wp2_with (at_builtin; refine wpList_append_lies _ rfl (.tmp 38) (.tmp 40) 30 rfl w.heap.size 4 i0 (.bool false) 1 1 Try.underlying30 hi hz0 hz1 hz2 rfl (by decide) u3 k (bools (L.leakTo k)) rfl (HO2.out.alloc _) ⟨w2.heap.size, 0, none⟩ 1 1 [.bool _] rfl rfl (World.news_of_block (heap_alloc_new _ _)) (by simp [Value.oneCell']) (by decide) (by unfold maxLen; omega) (by omega) (by simp; omega) _ rfl ?_; intro g1 cap1 w3 hown hgrow hat hlt3; have HG := Lib.hid hgrow; clear hgrow; have HO3 := Lib.hid hown; clear hown hat)
          go_roundw
          case rel => exact ⟨k + 1, by omega, by go_num, by rw [leakTo_next L k (by omega) _ HX.out, List.getLastD_concat]; rfl, (hbw2.alloc (by omega) _).grown HG.out (by simp; omega) (fun _ h => own_ge HO2.out h), by rw [leakTo_next L k (by omega) _ HX.out]; simpa [bools] using HO3.out⟩
          case measure => simp [intOf]; omega
    · go_wp2
      go_ret
      obtain rfl : k = L.epochs.length := by omega
      exact ⟨_, rfl, by rw [Led.leaked, Led.leakTo_length]; exact HO.out, hbl⟩

end Go.Proofs.Ytffgechbmhgndaa
