/- TermsOrder: the walk. -/
import Derived.Test.YtffgechbmhgndaaT9
set_option linter.unusedVariables false
set_option linter.unusedSimpArgs false
namespace Go.Proofs.Ytffgechbmhgndaa
open Go.RowKit

namespace Ts
open Classical in
noncomputable def closeF (l : List Tm) (known : List Int) : Int × List Bool := if right l ≠ 0 then (right l, []) else if valid l known then (0, (result l known).inn) else (1, [])
theorem closeF_congr {l : List Tm} {k1 k2 : List Int} (h : ∀ x, x ∈ k1 ↔ x ∈ k2) : closeF l k1 = closeF l k2 := by
  have hv : valid l k1 ↔ valid l k2 := ⟨fun hv k hk => hv k ((h k).2 hk), fun hv k hk => hv k ((h k).1 hk)⟩
  unfold closeF
  by_cases hr : right l ≠ 0
  · rw [if_pos hr, if_pos hr]
  · rw [if_neg hr, if_neg hr]
    by_cases h1 : valid l k1
    · have h2 := hv.1 h1
      rw [if_pos h1, if_pos h2]
      obtain ⟨_, hs⟩ := right_zero (l := l) (by simpa using hr)
      obtain ⟨a1, _, a2⟩ := result_all hs h1
      obtain ⟨b1, _, b2⟩ := result_all hs h2
      have hK : Kn k1 = Kn k2 := funext fun i => propext (h i)
      congr 1
      refine ext (a1.trans b1.symm) fun i => ?_
      rw [a2 i, b2 i, hK]
    · rw [if_neg h1, if_neg (fun h => h1 (hv.2 h))]
/-- All numbers, turned round, each twice. -/
def tw (l : List Int) : List Int := l.reverse.flatMap fun x => [x, x]
theorem mem_tw {l : List Int} {x : Int} : x ∈ tw l ↔ x ∈ l := by
  simp [tw]
theorem tw_cons (x : Int) (l : List Int) : tw (x :: l) = tw l ++ [x, x] := by simp [tw]
theorem tw_length (l : List Int) : (tw l).length = 2 * l.length := by
  induction l with
  | nil => rfl
  | cons x l ih => rw [tw_cons, List.length_append, ih]; simp; omega
end Ts

theorem RowAt.nilB (w : World) : RowAt w (.slice none 0 0) (bools []) := ⟨none, 0, rfl, by simp [bools], by simp [bools], fun h => by simp [bools] at h⟩
theorem closeF_any {w : World} {l : List Tm} (vl v : Value) (known : List Int) (hl : TermsAt w vl l) (hk : RowAt w v (intsV known)) :
    Calls Try.prog 17 #[vl, v] w fun r w' => (∃ u, r = .returned (.tuple #[u, .int .i64 (Ts.closeF l known).1]) ∧ RowAt w' u (bools (Ts.closeF l known).2)) ∧ Below w.heap.size w w' := by
  refine (close_any vl v known hl hk).mono ?_
  intro r w' h
  cases h with
  | shape _ h1 h2 =>
    have e : Ts.closeF l known = (Ts.right l, []) := by unfold Ts.closeF; rw [if_pos h1]
    rw [e]
    exact ⟨⟨_, rfl, RowAt.nilB _⟩, h2⟩
  | arg _ h1 h2 h3 =>
    have e : Ts.closeF l known = (1, []) := by unfold Ts.closeF; rw [if_neg (by simpa using h1), if_neg h2]
    rw [e]
    exact ⟨⟨_, rfl, RowAt.nilB _⟩, h3⟩
  | ok u _ h1 h2 h3 h4 =>
    have e : Ts.closeF l known = (0, (Ts.result l known).inn) := by unfold Ts.closeF; rw [if_neg (by simpa using h1), if_pos h2]
    rw [e]
    exact ⟨⟨u, rfl, h3⟩, h4⟩

theorem own_geT {w : World} {base : Nat} {e : TypeId} {size n : Nat} {v : Value} {xs : List Value} (h : w.ownsRow base e size v n xs) {k : Nat} (hk : v.ownBlock = some k) : base ≤ k := by
  rcases h.2 with ⟨rfl, _⟩ | ⟨g, cap, cur, rfl, hb, _⟩
  · simp [Value.ownBlock] at hk
  · simp [Value.ownBlock] at hk; omega

set_option maxRecDepth 100000 in
set_option maxHeartbeats 4000000 in
theorem order_any (vl vk : Value) (l : List Tm) (known : List Int) (w : World) (hl : TermsAt w vl l) (hk : RowAt w vk (intsV known)) :
    Calls Try.prog 8 #[vl, vk] w fun r w' => r = .returned (.bool true) ∧ Below w.heap.size w w' := by
  have HL := Lib.hid hl
  obtain ⟨A, c, rfl, hc, hm1⟩ := RowsAt.form hl
  obtain ⟨B, d, hkv, hd, hm2, _⟩ := id hk
  rw [intsV_length] at hkv hd hm2
  subst hkv
  have HK := Lib.hid hk
  clear hl hk
  by_cases h30 : 30 < l.length
  · go_enter Try.func8, Try.ntmps8
    go_wp2_with fail
    refine (awakeT_any _).mono ?_
    rintro e w1 ⟨rfl, hb1⟩
    go_wp2
    go_ret
    exact ⟨rfl, hb1⟩
  have h30' : decide ((30 : Int) < (l.length : Int)) = false := by simp; omega
  by_cases h10 : 10 < known.length
  · go_enter Try.func8, Try.ntmps8
    go_wp2_with fail
    refine (awakeT_any _).mono ?_
    rintro e w1 ⟨rfl, hb1⟩
    go_wp2
    go_ret
    exact ⟨rfl, hb1⟩
  have h10' : decide ((10 : Int) < (known.length : Int)) = false := by simp; omega
  obtain ⟨i0, hi0, hz0, hz1, hz2⟩ := info_parts info3
  go_enter Try.func8, Try.ntmps8
  go_wp2_with fail
  refine (awakeT_any _).mono ?_
  rintro e w1 ⟨rfl, hb1⟩
  have hsz1 := hb1.size
  have HL1 := Lib.hid (HL.out.below hb1)
  have HK1 := Lib.hid (HK.out.below hb1)
  clear HL HK
  go_wp2
  go_loopw [6, 7] (fun t i wr => ∃ j : Nat, j ≤ known.length ∧ i = .int .i64 ((j : Int) - 1) ∧ Below w1.heap.size w1 wr ∧ wr.ownsRow w1.heap.size 3 1 t (2 * (known.length - j)) (intsV (Ts.tw (known.drop j)))) (fun _ i _ => (intOf i + 1).toNat)
  case atStart => exact ⟨known.length, Nat.le_refl _, rfl, Below.refl _ _, by simp [World.ownsRow, Ts.tw, intsV]⟩
  case round =>
    obtain ⟨j, hj, rfl, hb, hown⟩ := hrel
    have HO := Lib.hid hown; clear hown
    have hsz := hb.size
    by_cases h0 : 0 < j
    · obtain ⟨k, rfl⟩ : ∃ k, j = k + 1 := ⟨j - 1, by omega⟩
      obtain ⟨g, off, c', he, _, hg, hx⟩ := (HK1.out.below hb).cell (by rw [intsV_length]; omega)
      simp only [Value.slice.injEq, intsV_length, true_and] at he
      obtain ⟨rfl, rfl⟩ := he
      have x1 := hx k _ (intsV_get known k (by omega))
      clear hx
      have HT := Lib.hid (show Ts.tw (known.drop k) = Ts.tw (known.drop (k + 1)) ++ [known[k], known[k]] by rw [List.drop_eq_getElem_cons (by omega), Ts.tw_cons])
      generalize known[k] = x at *
      have ek : ((k + 1 : Nat) : Int) - 1 = k := by omega
      rw [ek]
      have hki : (k : Int) < known.length := by omega
      have hfr : Fr [] w1 wr := Fr.of_below hb []
      go_wp2
      go_region_law (refine step_append_lies _ rfl (.tmp 29) (.tmp 38) 22 rfl w1.heap.size 3 i0 (.int .i64 0) 1 8 Try.underlying22 hi0 hz0 hz1 hz2 rfl (by decide) u6 (2 * (known.length - (k + 1))) (intsV (Ts.tw (known.drop (k + 1)))) (by simp [Act.eval, Act.put]) (own_keep (HO.out.alloc _) (fun _ _ => rfl)) ⟨wr.heap.size, 0, none⟩ 2 2 [.int .i64 x, .int .i64 x] (by simp [Act.eval, Act.put]) rfl (by exact World.news_of_block (heap_alloc_new _ _)) (by simp [Value.oneCell']) (by decide) (by unfold maxLen; omega) (by omega) (by simp; omega) _ rfl ?_; intro g1 cap1 w3 hown hgrow hat hlt3; have HG := Lib.hid hgrow; clear hgrow hat; have HO3 := Lib.hid hown; clear hown)
      all_goals
        go_wp2
        go_roundw
        case rel =>
          refine ⟨k, by omega, by go_num, ?_, ?_⟩
          · exact ((hb.alloc hsz _).drew).grown HG.out (by simp; omega) (fun _ h => own_geT HO.out h)
          · rw [HT.out]
            have e2 : 2 * (known.length - k) = 2 * (known.length - (k + 1)) + 2 := by omega
            rw [e2]
            simpa [intsV] using HO3.out
        case measure => simp [intOf]
    · obtain rfl : j = 0 := by omega
      have HTK := Lib.hid (show RowAt wr u6 (intsV (Ts.tw known)) from RowAt.of_own (by have := HO.out; simpa using this))
      have HFE := Lib.hid (show Ts.closeF l (Ts.tw known) = Ts.closeF l known from Ts.closeF_congr fun x => Ts.mem_tw)
      have HC1 := Lib.hid (closeF_any _ _ known (HL1.out.below hb) (HK1.out.below hb))
      have hC2 : ∀ w2, Below wr.heap.size wr w2 → Calls Try.prog 17 #[.slice A l.length c, u6] w2 fun r w' => (∃ u, r = .returned (.tuple #[u, .int .i64 (Ts.closeF l known).1]) ∧ RowAt w' u (bools (Ts.closeF l known).2)) ∧ Below w2.heap.size w2 w' := fun w2 h2 => by
        have := closeF_any (.slice A l.length c) u6 (Ts.tw known) ((HL1.out.below hb).below h2) (HTK.out.below h2)
        rwa [HFE.out] at this
      have HC2 := Lib.hid hC2; clear hC2
      clear HO
      generalize Ts.closeF l known = ce at *
      have ece : (ce.1 == ce.1) = true := by simp
      go_wp2_with fail
      refine HC1.out.mono ?_
      rintro e w2 ⟨⟨a, rfl, ha⟩, hb2⟩
      have HA := Lib.hid ha; clear ha
      go_wp2_with fail
      refine (HC2.out _ hb2).mono ?_
      rintro e w3 ⟨⟨b, rfl, hb'⟩, hb3⟩
      have HBB := Lib.hid (boolsT_below a b ce.2 ce.2 w3 (HA.out.below hb3) hb')
      clear hb'
      go_wp2_with fail
      refine HBB.out.mono ?_
      rintro e w4 ⟨rfl, hb4⟩
      go_wp2
      go_ret
      exact ⟨by simp, hb1.trans ((hb.trans ((hb2.trans ((hb3.trans (hb4.mono hb3.size)).mono hb2.size)).mono hsz)).mono hsz1)⟩

end Go.Proofs.Ytffgechbmhgndaa
