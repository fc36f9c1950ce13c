/- TermsDerive: the walk. -/
import Derived.Test.YtffgechbmhgndaaD1
import Derived.Test.YtffgechbmhgndaaR7
import Derived.Deep.RegionHeld3
set_option linter.unusedVariables false
set_option linter.unusedSimpArgs false
namespace Go.Proofs.Ytffgechbmhgndaa
open Go.RowKit

theorem hav_new {w w1 w2 : World} {l : List Tm} {g : Nat} (hb : Below w.heap.size w w1) (hg : w1.grownBy w2 none) (ho : w2.ownsRow w.heap.size 4 1 (.slice (some ⟨g, 0, none⟩) l.length l.length) l.length (madeCells (Value.bool false).cells (l.length * 1)).toList) :
    Below w.heap.size w w2 ∧ Below w1.heap.size w1 w2 ∧ w2.ownsRow w.heap.size 4 1 (.slice (some ⟨g, 0, none⟩) l.length l.length) l.length (bools (Ts.hav l.length [])) := by
  rw [made_false] at ho
  exact ⟨hb.grown hg hb.size (by simp), (Below.refl _ _).grown hg (Nat.le_refl _) (by simp), ho⟩
theorem take_next {ws : List Nat} {k : Nat} (h : k < ws.length) : ws.take (k + 1) = ws.take k ++ [ws[k]] := List.take_succ_eq_append_getElem h
def cm (r : Bool) (known : List Int) (x : Nat) (j : Nat) : Bool := r || (known.take j).any fun y => y == (x : Int)
theorem cm_zero (r : Bool) (known : List Int) (x : Nat) : cm r known x 0 = r := by simp [cm]
theorem cm_next {r : Bool} {known : List Int} {x j : Nat} (h : j < known.length) : cm r known x (j + 1) = (cm r known x j || (known[j] == (x : Int))) := by
  unfold cm
  rw [List.take_succ_eq_append_getElem h, List.any_append, ← Bool.or_assoc]
  simp only [List.any_cons, List.any_nil, Bool.or_false]
theorem cm_true {l : List Tm} {known : List Int} {ws : List Nat} (h : Ts.Way l known ws) {k x : Nat} (hk : ws[k]? = some x) {j : Nat} (hj : known.length ≤ j) : cm (Ts.rstep l (Ts.hav l.length (ws.take k)) x) known x j = true := by
  unfold cm
  rw [List.take_of_length_le hj]
  rcases h.comes k x hk with h | h
  · rw [Bool.or_eq_true]
    right
    rw [List.any_eq_true]
    exact ⟨_, h, by simp⟩
  · rw [h]; rfl

set_option maxRecDepth 100000 in
set_option maxHeartbeats 8000000 in
theorem tderive_any (vl vk : Value) (l : List Tm) (known : List Int) (goal : Int) (w : World) (hl : TermsAt w vl l) (hk : RowAt w vk (intsV known)) :
    Calls Try.prog 9 #[vl, vk, .int .i64 goal] w fun r w' => r = .returned (.bool true) ∧ Below w.heap.size w w' := by
  have HL := Lib.hid hl
  obtain ⟨A, c, rfl, hc, hm1⟩ := RowsAt.form hl
  obtain ⟨B, d, hkv, hd, hm2, _⟩ := id hk
  rw [intsV_length] at hkv hd hm2
  subst hkv
  have HK := Lib.hid hk
  clear hl hk
  by_cases h30 : 30 < l.length
  · have a1' : decide ((30 : Int) < (l.length : Int)) = true := by simp; omega
    go_enter Try.func9, Try.ntmps9
    go_wp2_with fail
    refine (awakeT_any _).mono ?_
    rintro e w1 ⟨rfl, hb1⟩
    go_wp2
    go_ret
    exact ⟨rfl, hb1⟩
  have a1' : decide ((30 : Int) < (l.length : Int)) = false := by simp; omega
  by_cases h20 : 20 < known.length
  · have b1' : decide ((20 : Int) < (known.length : Int)) = true := by simp; omega
    go_enter Try.func9, Try.ntmps9
    go_wp2_with fail
    refine (awakeT_any _).mono ?_
    rintro e w1 ⟨rfl, hb1⟩
    go_wp2
    go_ret
    exact ⟨rfl, hb1⟩
  have b1' : decide ((20 : Int) < (known.length : Int)) = false := by simp; omega
  have hl30 : l.length ≤ 30 := by omega
  have hk20 : known.length ≤ 20 := by omega
  have HN := Lib.hid (show l.length * 24 ≤ 140737488355328 by omega)
  obtain ⟨i0, hi0, hz0, hz1, hz2⟩ := info_parts info4'
  clear h30 h20
  go_enter Try.func9, Try.ntmps9
  go_wp2_with fail
  refine (awakeT_any _).mono ?_
  rintro e w1 ⟨rfl, hb1⟩
  have HB1 := Lib.hid hb1
  have HC := Lib.hid (doc_any _ l w1 (HL.out.below HB1.out) HN.out)
  clear hb1
  go_wp2_with fail
  refine HC.out.mono ?_
  rintro e w2 ⟨⟨ud, rfl, hud⟩, hb2⟩
  have HB2 := Lib.hid (HB1.out.trans (hb2.mono HB1.out.size))
  have HC2 := Lib.hid (rcloseF_any ud _ known hud (HK.out.below HB2.out))
  clear hb2 HC hud
  generalize hce : Ts.closeF l known = ce at HC2
  have HCE := Lib.hid hce
  clear hce
  go_wp2_with fail
  refine HC2.out.mono ?_
  rintro e w3 ⟨⟨ub, rfl, hub⟩, hb3⟩
  have HUB := Lib.hid hub
  have HB3 := Lib.hid (HB2.out.trans (hb3.mono HB2.out.size))
  have HC := Lib.hid (derive_any _ _ known goal (HL.out.below HB3.out) (HK.out.below HB3.out))
  obtain ⟨Au, cu, hubv, hcu⟩ := HUB.out.form
  rw [bools_length] at hubv hcu
  subst hubv
  clear hb3 HC2 hub
  go_wp2_with fail
  refine HC.out.mono ?_
  rintro e w4 hres
  clear HC
  cases hres with
  | bad _ h1 h2 =>
    rw [HCE.out] at h1 ⊢
    have HF := Lib.hid (HB3.out.trans (h2.mono HB3.out.size))
    have e1 : (ce.1 != 0) = true := by simp [h1]
    have e2 : (ce.1 == ce.1) = true := by simp
    clear h1 h2
    go_wp2
    go_ret
    exact ⟨by simp, HF.out⟩
  | arg _ h1 h2 h3 =>
    rw [HCE.out] at h1
    have HF := Lib.hid (HB3.out.trans (h3.mono HB3.out.size))
    have e1 : (ce.1 != 0) = false := by simp [h1]
    have hd : decide (goal < 0) = true ∨ (decide (goal < 0) = false ∧ decide ((l.length : Int) ≤ goal) = true) := by
      by_cases hz : goal < 0
      · exact .inl (by simpa using hz)
      · exact .inr ⟨by simp; omega, by simp; omega⟩
    clear h1 h2 h3
    rcases hd with d1 | ⟨d1, d2⟩
    all_goals
      go_wp2
      go_ret
      exact ⟨by simp, HF.out⟩
  | gone _ h1 g1 g2 h4 h5 =>
    have hln := Ts.more_len h1
    rw [HCE.out] at h1 h4 hln
    have HF := Lib.hid (HB3.out.trans (h5.mono HB3.out.size))
    obtain ⟨g, rfl⟩ : ∃ g : Nat, goal = g := ⟨goal.toNat, by omega⟩
    have e1 : (ce.1 != 0) = false := by simp [h1]
    have d1 : decide ((g : Int) < 0) = false := decide_eq_false (by omega)
    have d2 : decide (l.length ≤ g) = false := decide_eq_false (by omega)
    obtain ⟨gi, oi, rfl, _, hgi, x1⟩ := (HUB.out.below h5).atT g (by omega)
    have d3 : (g : Int) < (ce.2.length : Int) := by omega
    have eg : ce.2[g]'(by omega) = false := by
      have : ce.2.getD g false = false := h4
      simpa [List.getD, show g < ce.2.length by omega] using this
    rw [eg] at x1
    clear h1 g1 g2 h4 h5 eg
    go_wp2
    go_ret
    exact ⟨by simp, HF.out⟩
  | ok _ Aw n cw ws h1 g1 g2 h4 hway hlast hn0 hwl hnl hrow h5 =>
    have hln := Ts.more_len h1
    have hsh := (Ts.right_zero (Ts.closeF_ok h1).1).2
    rw [HCE.out] at h1 h4 hln
    have HB4 := Lib.hid (HB3.out.trans (h5.mono HB3.out.size))
    obtain ⟨g, rfl⟩ : ∃ g : Nat, goal = g := ⟨goal.toNat, by omega⟩
    have e1 : (ce.1 != 0) = false := by simp [h1]
    have d1 : decide ((g : Int) < 0) = false := decide_eq_false (by omega)
    have d2 : decide (l.length ≤ g) = false := decide_eq_false (by omega)
    obtain ⟨gi, oi, rfl, _, hgi, x1⟩ := (HUB.out.below h5).atT g (by omega)
    have d3 : (g : Int) < (ce.2.length : Int) := by omega
    have eg : ce.2[g]'(by omega) = true := by
      have : ce.2.getD g false = true := h4
      simpa [List.getD, show g < ce.2.length by omega] using this
    rw [eg] at x1
    subst hwl
    have HR := Lib.hid hrow
    have HW := Lib.hid hway
    have HSH := Lib.hid hsh
    obtain ⟨gw, ow, rfl, _, hgw, x2⟩ := RowAt.atN hrow (ws.length - 1) (by omega)
    have ew : ws[ws.length - 1] = g := by
      have : ws[ws.length - 1]? = some g := hlast
      rw [List.getElem?_eq_getElem (by omega)] at this
      simpa using this
    rw [ew] at x2
    obtain ⟨_, hcw⟩ := RowAt.leN hrow
    have hsz4 := HB4.out.size
    have hdm2 : ((ws.length : Int) == 0) = false := by
      rw [beq_eq_false_iff_ne]; omega
    have hdg : ((g : Int) != (g : Int)) = false := by simp
    clear h1 g1 g2 h4 h5 eg hway hlast hrow hsh ew
    go_wp2_with (with_reducible refine wpList_make_full _ rfl (.tmp 104) (.tmp 104) 30 rfl w.heap.size 4 i0 (.bool false) 1 Try.underlying30 hi0 hz0 hz1 .i64 .i64 _ _ l.length rfl rfl rfl rfl (by rw [hz2]; omega) (by unfold maxLen; omega) hsz4 ?_; intro w5 hown hgrow; have HNEW := Lib.hid (hav_new HB4.out hgrow hown); clear hown hgrow)
    obtain ⟨gk0, hgk0⟩ : ∃ z : Unit, True := ⟨(), trivial⟩
    go_loopw [13, 14, 15] (fun i' v14 v15 wr => ∃ k : Nat, k ≤ ws.length ∧ i' = .int .i64 k ∧ Below w.heap.size w wr ∧ Below w4.heap.size w4 wr ∧ wr.ownsRow w.heap.size 4 1 (.slice (some ⟨w4.heap.size, 0, none⟩) l.length l.length) l.length (bools (Ts.hav l.length (ws.take k)))) (fun i' _ _ _ => ws.length - (intOf i').toNat)
    case atStart => exact ⟨0, Nat.zero_le _, rfl, HNEW.out.1, HNEW.out.2.1, HNEW.out.2.2⟩
    case round =>
      obtain ⟨k, hk, rfl, hb, hb4, ho⟩ := hrel
      have HB := Lib.hid hb
      have HBW := Lib.hid hb4
      have HO := Lib.hid ho
      have hszr := hb.size
      clear hb hb4 ho
      by_cases hlt : k < ws.length
      · obtain ⟨gw', ow', he, _, hgwr, xk⟩ := RowAt.atN (HR.out.below HBW.out) k hlt
        simp only [Option.some.injEq, Addr.mk.injEq, and_true] at he
        obtain ⟨rfl, rfl⟩ := he
        have hget : ws[k]? = some ws[k] := List.getElem?_eq_getElem hlt
        have xlt := HW.out.lt k _ hget
        have xnew := HW.out.new k _ hget
        have HCM := Lib.hid (fun j hj => cm_true HW.out hget (j := j) hj)
        have HT := Lib.hid (take_next hlt)
        clear hget
        generalize ws[k] = x at *
        obtain ⟨g', c', he', _, hge, cur, hcur, _⟩ := own_some HO.out (by omega)
        simp only [Value.slice.injEq, Option.some.injEq, Addr.mk.injEq, and_true, true_and] at he'
        obtain ⟨rfl, rfl⟩ := he'
        have hlw := heap_lt hcur
        have f1 : wr.frozen? ⟨w4.heap.size, x, none⟩ = false := frozen_of_blk hcur _
        have x3 : wr.cell? ⟨w4.heap.size, x, none⟩ = some (.bool false) := by
          have := bool_cell HO.out (Ts.hav_length _ _).symm x (by rw [Ts.hav_length]; exact xlt)
          rw [this, xnew]
        have q1 : decide ((x : Int) < 0) = false := decide_eq_false (by omega)
        have q2 : decide (l.length ≤ x) = false := decide_eq_false (by omega)
        have HXK := Lib.hid (fun (w' : World) (hb : Below wr.heap.size wr w') => (hb.cell (p := ⟨gw, ow + k, none⟩) hgwr).trans xk)
        have HXS := Lib.hid (fun (w' : World) (hb : Below wr.heap.size wr w') => (show w'.cell? ⟨w4.heap.size, x, none⟩ = some (.bool false) ∧ w'.frozen? ⟨w4.heap.size, x, none⟩ = false from ⟨(hb.cell (p := ⟨w4.heap.size, x, none⟩) hlw).trans x3, frozen_of_blk ((hb.block _ hlw).trans hcur) _⟩))
        have HOL := Lib.hid (fun (w' : World) (hb : Below wr.heap.size wr w') => (show (w'.setCell ⟨w4.heap.size, x, none⟩ (.bool true)).ownsRow w.heap.size 4 1 (.slice (some ⟨w4.heap.size, 0, none⟩) l.length l.length) l.length (bools (Ts.hav l.length (ws.take (k + 1)))) from
          round_store (own_keep HO.out fun k hk => hb.block k (own_obl_lt HO.out hk)) (by rw [HT.out, Ts.hav_snoc])))
        have HBN := Lib.hid (fun (w' : World) (hb : Below wr.heap.size wr w') => (show Below w.heap.size w (w'.setCell ⟨w4.heap.size, x, none⟩ (.bool true)) ∧ Below w4.heap.size w4 (w'.setCell ⟨w4.heap.size, x, none⟩ (.bool true)) from
          ⟨(HB.out.trans (hb.mono hszr)).setCell (p := ⟨w4.heap.size, x, none⟩) hsz4 _, (HBW.out.trans (hb.mono HBW.out.size)).setCell (p := ⟨w4.heap.size, x, none⟩) (Nat.le_refl _) _⟩))
        have HKN := Lib.hid (fun (w' : World) (hb : Below wr.heap.size wr w') => HK.out.below (HB.out.trans (hb.mono hszr)))
        have HDOC := Lib.hid (fun (w' : World) (hb : Below wr.heap.size wr w') => (doc_any _ l w' (HL.out.below (HB.out.trans (hb.mono hszr))) HN.out).mono (fun e w2 ⟨h, hb2⟩ => (show (∃ u, e = Ending.returned u ∧ TermsAt w2 u l) ∧ Below wr.heap.size wr w2 from ⟨h, hb.trans (hb2.mono hb.size)⟩)))
        have HSTEP := Lib.hid (fun (ud : Value) (w' : World) (hud : TermsAt w' ud l) (hb : Below wr.heap.size wr w') => (rstep_any ud (.slice (some ⟨w4.heap.size, 0, none⟩) l.length l.length) l (Ts.hav l.length (ws.take k)) x w' hud ((RowAt.of_own HO.out).below hb) (Ts.hav_length _ _) HSH.out xlt).mono (fun e w2 ⟨h, hb2⟩ => (show e = Ending.returned (.bool (Ts.rstep l (Ts.hav l.length (ws.take k)) x)) ∧ Below wr.heap.size wr w2 from ⟨h, hb.trans (hb2.mono hb.size)⟩)))
        generalize Ts.rstep l (Ts.hav l.length (ws.take k)) x = rs at *
        clear hcur xnew
        go_wp2
        go_region_held3 (fun w' => w'.cell? ⟨gw, ow + k, none⟩ = some (.int .i64 x)) (first | exact HXK.out _ (by assumption) | go_keep)
          (first
            | (go_at_call 19; refine (HDOC.out _ (Below.refl _ _).drew).mono ?_; rintro e w6 ⟨⟨ud, rfl, hud⟩, hb6⟩)
            | (go_at_call 23; refine (HSTEP.out _ _ hud hb6).mono ?_; rintro e w7 ⟨rfl, hb7⟩))
        have HB7 := Lib.hid hb7
        have hsz7 := hb7.size
        clear hb6 hud
        clear hb7
        go_wp2
        go_loopw [14, 15] (fun v14 v15 wq => ∃ j : Nat, j ≤ known.length ∧ v15 = .int .i64 j ∧ v14 = .bool (cm rs known x j) ∧ Below w7.heap.size w7 wq) (fun _ v15 _ => known.length - (intOf v15).toNat)
        case atStart => exact ⟨0, Nat.zero_le _, rfl, by rw [cm_zero], Below.refl _ _⟩
        case round =>
          obtain ⟨j, hj, rfl, rfl, hbj⟩ := hrel
          have HBJ := Lib.hid (HB7.out.trans (hbj.mono hsz7))
          have HBJ7 := Lib.hid hbj
          clear hbj
          by_cases hjl : j < known.length
          · obtain ⟨gk, okk, ck, hke, _, hgk, hkx⟩ := (HKN.out _ HBJ.out).cell (by rw [intsV_length]; omega)
            simp only [Value.slice.injEq, intsV_length] at hke
            obtain ⟨rfl, _, rfl⟩ := hke
            have y1 := hkx j _ (intsV_get known j hjl)
            have y2 := HXK.out _ HBJ.out
            have HNX := Lib.hid (cm_next (r := rs) (x := x) hjl)
            clear hkx
            generalize known[j] = y at *
            generalize cm rs known x j = cj at *
            cases cj
            · cases hyx : (y == (x : Int))
              all_goals
                rw [hyx] at HNX
                go_wp2
                go_quiet (fail)
                go_wp2
                go_roundw
                case rel => exact ⟨j + 1, hjl, by go_num, by rw [HNX.out]; rfl, below_dn HBJ7.out _⟩
                case measure => simp [intOf]; omega
            · go_wp2
              go_quiet (fail)
              go_wp2
              go_roundw
              case rel => exact ⟨j + 1, hjl, by go_num, by rw [HNX.out]; rfl, below_dn HBJ7.out _⟩
              case measure => simp [intOf]; omega
          · have hct := HCM.out j (by omega)
            rw [hct]
            have y2 := HXK.out _ HBJ.out
            obtain ⟨y3, y4⟩ := HXS.out _ HBJ.out
            have HF1 := Lib.hid (HBN.out _ HBJ.out)
            have HF2 := Lib.hid (HOL.out _ HBJ.out)
            go_wp2
            go_roundw
            case rel => exact ⟨k + 1, hlt, by go_num, HF1.out.1, HF1.out.2, HF2.out⟩
            case measure => simp [intOf]; omega
      · go_wp2
        go_ret
        exact ⟨by simp, HB.out⟩

end Go.Proofs.Ytffgechbmhgndaa
