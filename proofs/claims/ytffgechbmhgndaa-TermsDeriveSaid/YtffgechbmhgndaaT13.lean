/- TermsMore: the walk. -/
import Derived.Test.YtffgechbmhgndaaT12
set_option linter.unusedVariables false
set_option linter.unusedSimpArgs false
namespace Go.Proofs.Ytffgechbmhgndaa
open Go.RowKit

theorem own_empty (w : World) (base : Nat) (hb : base ≤ w.heap.size) : (w.alloc (.cells #[] 3)).ownsRow base 3 1 (.slice (some ⟨w.heap.size, 0, none⟩) 0 0) 0 [] :=
  ⟨rfl, .inr ⟨w.heap.size, 0, #[], rfl, hb, heap_alloc_new w _, Nat.le_refl _, by unfold maxLen; omega, rfl, rfl⟩⟩
theorem at_ge {w2 : World} {v : Value} {g H n c : Nat} (hat : v.ownBlock = some g ∨ g = H) (hv : ∀ k, v.ownBlock = some k → w2.heap.size ≤ k) (hH : w2.heap.size ≤ H) : ∀ k, (Value.slice (some ⟨g, 0, none⟩) n c).ownBlock = some k → w2.heap.size ≤ k := by
  intro k hk
  simp [Value.ownBlock] at hk
  subst hk
  rcases hat with hat | rfl
  · exact hv _ hat
  · exact hH
theorem own_leT {w : World} {base n m c size : Nat} {e : TypeId} {A : Option Addr} {xs : List Value} (h : w.ownsRow base e size (.slice A m c) n xs) : m ≤ c := by
  obtain ⟨A', c', he, hc⟩ := own_form h
  simp only [Value.slice.injEq] at he
  omega
/-- What a slice of ints that is read gives in every later world. -/
theorem RowAt.later {w : World} {v : Value} {l : List Int} (h : RowAt w v (intsV l)) (h0 : 0 < l.length) : ∃ ad c, v = .slice (some ad) l.length c ∧ ∀ w1, Below w.heap.size w w1 → ∀ j u, (intsV l)[j]? = some u → w1.cell? (ad.add j) = some u := by
  obtain ⟨g, off, c, he, _, hg, hx⟩ := h.cell (by rw [intsV_length]; exact h0)
  rw [intsV_length] at he
  refine ⟨⟨g, off, none⟩, c, he, fun w1 hb j u hj => ?_⟩
  have e : (⟨g, off, none⟩ : Addr).add j = ⟨g, off + j, none⟩ := by unfold Addr.add; split <;> simp_all
  rw [e]
  exact (hb.cell (p := ⟨g, off + j, none⟩) hg).trans (hx j u hj)

/-- A cell of a row of bools, its place written out. -/
theorem RowAt.atT {w : World} {A : Option Addr} {n c : Nat} {l : List Bool} (h : RowAt w (.slice A n c) (bools l)) (k : Nat) (hk : k < l.length) : ∃ g off, A = some ⟨g, off, none⟩ ∧ n = l.length ∧ g < w.heap.size ∧ w.cell? ⟨g, off + k, none⟩ = some (.bool l[k]) := by
  obtain ⟨g, off, c', he, _, hg, hx⟩ := h.cell (by rw [bools_length]; omega)
  simp only [Value.slice.injEq, bools_length] at he
  exact ⟨g, off, he.1, he.2.1, hg, hx k _ (bools_get l k hk)⟩

set_option maxRecDepth 100000 in
set_option maxHeartbeats 8000000 in
theorem more_any (vl vk vm : Value) (l : List Tm) (known more : List Int) (w : World) (hl : TermsAt w vl l) (hk : RowAt w vk (intsV known)) (hm : RowAt w vm (intsV more)) :
    Calls Try.prog 7 #[vl, vk, vm] w fun r w' => r = .returned (.bool true) ∧ Below w.heap.size w w' := by
  have HL := Lib.hid hl
  obtain ⟨A, c, rfl, hc, hm1⟩ := RowsAt.form hl
  obtain ⟨B, d, hkv, hd, hm2, _⟩ := id hk
  obtain ⟨D, dd, hmv, hdd, hm3, _⟩ := id hm
  rw [intsV_length] at hkv hd hm2 hmv hdd hm3
  subst hkv hmv
  have HK := Lib.hid hk
  have HM := Lib.hid hm
  clear hl hk hm
  by_cases h30 : 30 < l.length
  · go_enter Try.func7, Try.ntmps7
    go_wp2_with fail
    refine (awakeT_any _).mono ?_
    rintro e w1 ⟨rfl, hb1⟩
    go_wp2
    go_ret
    exact ⟨rfl, hb1⟩
  have h30' : decide ((30 : Int) < (l.length : Int)) = false := by simp; omega
  by_cases h10 : 10 < known.length
  · go_enter Try.func7, Try.ntmps7
    go_wp2_with fail
    refine (awakeT_any _).mono ?_
    rintro e w1 ⟨rfl, hb1⟩
    go_wp2
    go_ret
    exact ⟨rfl, hb1⟩
  have h10' : decide ((10 : Int) < (known.length : Int)) = false := by simp; omega
  by_cases h11 : 10 < more.length
  · go_enter Try.func7, Try.ntmps7
    go_wp2_with fail
    refine (awakeT_any _).mono ?_
    rintro e w1 ⟨rfl, hb1⟩
    go_wp2
    go_ret
    exact ⟨rfl, hb1⟩
  have h11' : decide ((10 : Int) < (more.length : Int)) = false := by simp; omega
  obtain ⟨i0, hi0, hz0, hz1, hz2⟩ := info_parts info3
  obtain ⟨j0, hj0, jz0, jz1, jz2⟩ := info_parts info4'
  by_cases hk0 : known = []
  · have HK0 := Lib.hid hk0
    have hkl : known.length = 0 := by simp [hk0]
    rw [hkl] at HK ⊢
    clear hkl hk0 h10 h10'
    by_cases hm0 : more = []
    · have HM0 := Lib.hid hm0
      have hml : more.length = 0 := by simp [hm0]
      rw [hml] at HM ⊢
      clear hml hm0 h11 h11'
      go_enter Try.func7, Try.ntmps7
      go_wp2_with fail
      refine (awakeT_any _).mono ?_
      rintro e w1 ⟨rfl, hb1⟩
      have hsz1 := hb1.size
      have HL1 := Lib.hid (HL.out.below hb1)
      have HK1 := Lib.hid (HK.out.below hb1)
      have HM1 := Lib.hid (HM.out.below hb1)
      go_wp2_with fail
      refine (closeF_any _ _ known HL1.out HK1.out).mono ?_
      rintro e w2 ⟨⟨ua, rfl, ha⟩, hb2⟩
      have HA := Lib.hid ha; clear ha
      have hsz2 := hb2.size
      have hbe : Below w1.heap.size w1 (w2.alloc (.cells #[] 3)) := hb2.alloc hsz2 _
      have HE0 := Lib.hid (own_empty w2 w1.heap.size hsz2)
      go_wp2_with (first | (at_builtin; refine wpList_append_nothing _ rfl (.tmp 39) (.tmp 40) 22 rfl 3 i0 Try.underlying22 hi0 w2.heap.size 0 0 0 rfl (Nat.le_refl _) B d rfl ?_) | (at_builtin; refine wpList_append_nothing _ rfl (.tmp 41) (.tmp 42) 22 rfl 3 i0 Try.underlying22 hi0 w2.heap.size 0 0 0 rfl (Nat.le_refl _) D dd rfl ?_))
      have hbz : Below w2.heap.size w2 (w2.alloc (.cells #[] 3)) := (Below.refl _ _).alloc (Nat.le_refl _) _
      have hb1z := hbe
      have HALL := Lib.hid (show RowAt (w2.alloc (.cells #[] 3)) (.slice (some ⟨w2.heap.size, 0, none⟩) 0 0) (intsV (known ++ more)) by have := RowAt.of_own HE0.out; simpa [intsV, HK0.out, HM0.out] using this)
      refine (closeF_any _ _ (known ++ more) (HL1.out.below hb1z) HALL.out).mono ?_
      rintro e w5 ⟨⟨ub, rfl, hbb⟩, hb5⟩
      have HA5 := Lib.hid ((HA.out.below hbz).below hb5)
      have HB5 := Lib.hid hbb
      have hb15 := hb1z.trans (hb5.mono hb1z.size)
      have HL5 := Lib.hid (HL1.out.below hb15)
      have hsz5 := hb15.size
      have P1 := Lib.hid (Ts.more_err (l := l) (known := known) (more := more))
      have P2 := Lib.hid (Ts.more_len (l := l) (known := known))
      have P3 := Lib.hid (Ts.more_len (l := l) (known := known ++ more))
      have P4 := Lib.hid (Ts.more_sub (l := l) (known := known) (more := more))
      have P5 := Lib.hid (Ts.more_again (l := l) (known := known))
      obtain ⟨Aa, ca, hua, hca⟩ := HA5.out.form
      obtain ⟨Ab, cb, hub, hcb⟩ := HB5.out.form
      rw [bools_length] at hua hca hub hcb
      subst hua hub
      generalize Ts.closeF l known = ce at *
      generalize Ts.closeF l (known ++ more) = cf at *
      by_cases e0 : ce.1 = 0
      · have e1 : (ce.1 != 0) = false := by simp [e0]
        have e2 : (ce.1 == 0) = true := by simp [e0]
        by_cases f0 : cf.1 = 0
        · have f1 : (cf.1 != 0) = false := by simp [f0]
          have q2 := P2.out e0
          have q3 := P3.out f0
          have Q4 := Lib.hid (P4.out e0 f0)
          have Q5 := Lib.hid (P5.out e0)
          clear P1 P2 P3 P4 P5 e0 f0
          generalize ce.1 = ez at *
          generalize cf.1 = fz at *
          generalize ce.2 = a at *
          generalize cf.2 = b at *
          have q2' : ((a.length : Int) != l.length) = false := by simp [q2]
          have q3' : ((b.length : Int) != l.length) = false := by simp [q3]
          have Q2 := Lib.hid q2; have Q3 := Lib.hid q3
          have a2 : a.length ≤ 30 := by omega
          have b2 : b.length ≤ 30 := by omega
          clear q2 q3
          go_wp2
          go_loopw [12, 13] (fun t i wr => ∃ k : Nat, k ≤ l.length ∧ i = .int .i64 k ∧ Below w5.heap.size w5 wr ∧ wr.ownsRow w5.heap.size 3 1 t (Ts.foundTo a k).length (intsV (Ts.foundTo a k))) (fun _ i _ => l.length - (intOf i).toNat)
          case atStart => exact ⟨0, Nat.zero_le _, rfl, Below.refl _ _, by simp [World.ownsRow, Ts.foundTo, intsV]⟩
          case round =>
            obtain ⟨k, hkk, rfl, hbl, hown⟩ := hrel
            have HO := Lib.hid hown; clear hown
            have hszr := hbl.size
            by_cases hlt : k < l.length
            · have hka : k < a.length := by rw [Q2.out]; exact hlt
              have hkb : k < b.length := by rw [Q3.out]; exact hlt
              obtain ⟨ga, offa, rfl, _, hga, ya⟩ := (HA5.out.below hbl).atT k hka
              obtain ⟨gb, offb, rfl, _, hgb, yb⟩ := (HB5.out.below hbl).atT k hkb
              have hq := Q4.out k
              have hl1 := Ts.foundTo_length a k
              have HF := Lib.hid (show Ts.foundTo a (k + 1) = Ts.foundTo a k ++ (if a.getD k false = true then [(k : Int)] else []) from rfl)
              have ga' : a.getD k false = a[k] := by simp [List.getD, hka]
              have gb' : b.getD k false = b[k] := by simp [List.getD, hkb]
              rw [ga'] at HF hq
              rw [gb'] at hq
              clear ga' gb'
              generalize a[k] = xa at *
              generalize b[k] = xb at *
              have HQ := Lib.hid hq; clear hq
              cases xa <;> cases xb
              all_goals try (exfalso; exact absurd (HQ.out rfl) (by decide))
              · have HF2 := Lib.hid (show Ts.foundTo a (k + 1) = Ts.foundTo a k by rw [HF.out]; simp)
                clear HQ HF
                go_wp2
                go_roundw
                case rel => exact ⟨k + 1, hlt, by go_num, hbl, by rw [HF2.out]; exact HO.out⟩
                case measure => simp [intOf]; omega
              · have HF2 := Lib.hid (show Ts.foundTo a (k + 1) = Ts.foundTo a k by rw [HF.out]; simp)
                clear HQ HF
                go_wp2
                go_roundw
                case rel => exact ⟨k + 1, hlt, by go_num, hbl, by rw [HF2.out]; exact HO.out⟩
                case measure => simp [intOf]; omega
              · have HF2 := Lib.hid (show Ts.foundTo a (k + 1) = Ts.foundTo a k ++ [(k : Int)] by rw [HF.out]; simp)
                clear HQ HF
                go_wp2_with (at_builtin; refine wpList_append_lies _ rfl (.tmp 95) (.tmp 97) 22 rfl w5.heap.size 3 i0 (.int .i64 0) 1 8 Try.underlying22 hi0 hz0 hz1 hz2 rfl (by decide) u12 (Ts.foundTo a k).length (intsV (Ts.foundTo a k)) rfl (HO.out.alloc _) ⟨wr.heap.size, 0, none⟩ 1 1 [.int .i64 k] rfl rfl (World.news_of_block (heap_alloc_new _ _)) (by simp [Value.oneCell']) (by decide) (by unfold maxLen; omega) (by omega) (by simp; omega) _ rfl ?_; intro g6 cap6 w6 hown6 hgrow6 hat6 hlt6; have HG6 := Lib.hid hgrow6; clear hgrow6 hat6; have HO6 := Lib.hid hown6; clear hown6)
                go_roundw
                case rel => exact ⟨k + 1, hlt, by go_num, (hbl.alloc hszr _).grown HG6.out (by simp; omega) (fun _ h => own_geT HO.out h), by rw [HF2.out, List.length_append]; simpa [intsV] using HO6.out⟩
                case measure => simp [intOf]; omega
            · obtain rfl : k = l.length := by omega
              have HFR := Lib.hid (show RowAt wr u12 (intsV (Ts.foundTo a l.length)) from RowAt.of_own HO.out)
              have hcl := closeF_any (.slice A l.length c) u12 (Ts.foundTo a l.length) (HL5.out.below hbl) HFR.out
              rw [Q5.out] at hcl
              have HCL := Lib.hid hcl; clear hcl
              go_wp2_with fail
              refine HCL.out.mono ?_
              rintro e w7 ⟨⟨uc, rfl, hc7⟩, hb7⟩
              have HBB := Lib.hid (boolsT_below _ uc a a w7 ((HA5.out.below hbl).below hb7) hc7)
              clear hc7
              go_wp2_with fail
              refine HBB.out.mono ?_
              rintro e w8 ⟨rfl, hb8⟩
              go_wp2
              go_ret
              exact ⟨by simp, hb1.trans ((hb15.trans ((hbl.trans ((hb7.trans (hb8.mono hb7.size)).mono hszr)).mono hsz5)).mono hsz1)⟩
        · have f1 : (cf.1 != 0) = true := by simp [f0]
          clear P1 P2 P3 P4 P5 e0 f0
          go_wp2
          go_ret
          exact ⟨rfl, hb1.trans (hb15.mono hsz1)⟩
      · have e1 : (ce.1 != 0) = true := by simp [e0]
        have e2 : (ce.1 == 0) = false := by simp [e0]
        have f1 : (cf.1 != 0) = true := by simp [P1.out e0]
        clear P1 P2 P3 P4 P5 e0
        go_wp2
        go_ret
        exact ⟨rfl, hb1.trans (hb15.mono hsz1)⟩
    · obtain ⟨am, dm, hme, hmx⟩ := HM.out.later (by cases more with | nil => exact absurd rfl hm0 | cons _ _ => simp)
      simp only [Value.slice.injEq, true_and] at hme
      obtain ⟨rfl, rfl⟩ := hme
      have HMX := Lib.hid hmx; clear hmx
      have hmp : 0 < more.length := by cases more with | nil => exact absurd rfl hm0 | cons _ _ => simp
      clear hm0
      go_enter Try.func7, Try.ntmps7
      go_wp2_with fail
      refine (awakeT_any _).mono ?_
      rintro e w1 ⟨rfl, hb1⟩
      have hsz1 := hb1.size
      have HL1 := Lib.hid (HL.out.below hb1)
      have HK1 := Lib.hid (HK.out.below hb1)
      have HM1 := Lib.hid (HM.out.below hb1)
      go_wp2_with fail
      refine (closeF_any _ _ known HL1.out HK1.out).mono ?_
      rintro e w2 ⟨⟨ua, rfl, ha⟩, hb2⟩
      have HA := Lib.hid ha; clear ha
      have hsz2 := hb2.size
      have hbe : Below w1.heap.size w1 (w2.alloc (.cells #[] 3)) := hb2.alloc hsz2 _
      have HE0 := Lib.hid (own_empty w2 w1.heap.size hsz2)
      have MX := Lib.hid (fun w' hb => HMX.out w' (hb1.trans (Below.mono (B' := w.heap.size) hb hsz1)))
      go_wp2_with (first | (at_builtin; refine wpList_append_nothing _ rfl (.tmp 39) (.tmp 40) 22 rfl 3 i0 Try.underlying22 hi0 w2.heap.size 0 0 0 rfl (Nat.le_refl _) B d rfl ?_) | (at_builtin; refine wpList_append_lies _ rfl (.tmp 41) (.tmp 42) 22 rfl w1.heap.size 3 i0 (.int .i64 0) 1 8 Try.underlying22 hi0 hz0 hz1 hz2 rfl (by decide) (.slice (some ⟨w2.heap.size, 0, none⟩) 0 0) 0 [] rfl HE0.out am more.length dd (intsV more) rfl (by simp [intsV]) (MX.out _ hbe) (by simp [intsV, Value.oneCell']) (by omega) (by unfold maxLen; omega) (by omega) (by simp; omega) _ rfl ?_; intro g4 cap4 w4 hown4 hgrow4 hat4 hlt4; have hb4 : Below w1.heap.size w1 w4 := hbe.grown hgrow4 (by simp; omega) (fun _ h => own_geT HE0.out h); have hgb4 : Below w2.heap.size w2 w4 := ((Below.refl w2.heap.size w2).alloc (Nat.le_refl _) _).grown hgrow4 (by simp) (by intro k h; simp [Value.ownBlock] at h; omega); have HO4 := Lib.hid hown4; clear hown4 hgrow4 hat4))
      have hbz := hgb4
      have hb1z := hb4
      have HALL := Lib.hid (show RowAt w4 (.slice (some ⟨g4, 0, none⟩) more.length cap4) (intsV (known ++ more)) by have := RowAt.of_own HO4.out; simpa [intsV, HK0.out] using this)
      refine (closeF_any _ _ (known ++ more) (HL1.out.below hb1z) HALL.out).mono ?_
      rintro e w5 ⟨⟨ub, rfl, hbb⟩, hb5⟩
      have HA5 := Lib.hid ((HA.out.below hbz).below hb5)
      have HB5 := Lib.hid hbb
      have hb15 := hb1z.trans (hb5.mono hb1z.size)
      have HL5 := Lib.hid (HL1.out.below hb15)
      have hsz5 := hb15.size
      have P1 := Lib.hid (Ts.more_err (l := l) (known := known) (more := more))
      have P2 := Lib.hid (Ts.more_len (l := l) (known := known))
      have P3 := Lib.hid (Ts.more_len (l := l) (known := known ++ more))
      have P4 := Lib.hid (Ts.more_sub (l := l) (known := known) (more := more))
      have P5 := Lib.hid (Ts.more_again (l := l) (known := known))
      obtain ⟨Aa, ca, hua, hca⟩ := HA5.out.form
      obtain ⟨Ab, cb, hub, hcb⟩ := HB5.out.form
      rw [bools_length] at hua hca hub hcb
      subst hua hub
      generalize Ts.closeF l known = ce at *
      generalize Ts.closeF l (known ++ more) = cf at *
      by_cases e0 : ce.1 = 0
      · have e1 : (ce.1 != 0) = false := by simp [e0]
        have e2 : (ce.1 == 0) = true := by simp [e0]
        by_cases f0 : cf.1 = 0
        · have f1 : (cf.1 != 0) = false := by simp [f0]
          have q2 := P2.out e0
          have q3 := P3.out f0
          have Q4 := Lib.hid (P4.out e0 f0)
          have Q5 := Lib.hid (P5.out e0)
          clear P1 P2 P3 P4 P5 e0 f0
          generalize ce.1 = ez at *
          generalize cf.1 = fz at *
          generalize ce.2 = a at *
          generalize cf.2 = b at *
          have q2' : ((a.length : Int) != l.length) = false := by simp [q2]
          have q3' : ((b.length : Int) != l.length) = false := by simp [q3]
          have Q2 := Lib.hid q2; have Q3 := Lib.hid q3
          have a2 : a.length ≤ 30 := by omega
          have b2 : b.length ≤ 30 := by omega
          clear q2 q3
          go_wp2
          go_loopw [12, 13] (fun t i wr => ∃ k : Nat, k ≤ l.length ∧ i = .int .i64 k ∧ Below w5.heap.size w5 wr ∧ wr.ownsRow w5.heap.size 3 1 t (Ts.foundTo a k).length (intsV (Ts.foundTo a k))) (fun _ i _ => l.length - (intOf i).toNat)
          case atStart => exact ⟨0, Nat.zero_le _, rfl, Below.refl _ _, by simp [World.ownsRow, Ts.foundTo, intsV]⟩
          case round =>
            obtain ⟨k, hkk, rfl, hbl, hown⟩ := hrel
            have HO := Lib.hid hown; clear hown
            have hszr := hbl.size
            by_cases hlt : k < l.length
            · have hka : k < a.length := by rw [Q2.out]; exact hlt
              have hkb : k < b.length := by rw [Q3.out]; exact hlt
              obtain ⟨ga, offa, rfl, _, hga, ya⟩ := (HA5.out.below hbl).atT k hka
              obtain ⟨gb, offb, rfl, _, hgb, yb⟩ := (HB5.out.below hbl).atT k hkb
              have hq := Q4.out k
              have hl1 := Ts.foundTo_length a k
              have HF := Lib.hid (show Ts.foundTo a (k + 1) = Ts.foundTo a k ++ (if a.getD k false = true then [(k : Int)] else []) from rfl)
              have ga' : a.getD k false = a[k] := by simp [List.getD, hka]
              have gb' : b.getD k false = b[k] := by simp [List.getD, hkb]
              rw [ga'] at HF hq
              rw [gb'] at hq
              clear ga' gb'
              generalize a[k] = xa at *
              generalize b[k] = xb at *
              have HQ := Lib.hid hq; clear hq
              cases xa <;> cases xb
              all_goals try (exfalso; exact absurd (HQ.out rfl) (by decide))
              · have HF2 := Lib.hid (show Ts.foundTo a (k + 1) = Ts.foundTo a k by rw [HF.out]; simp)
                clear HQ HF
                go_wp2
                go_roundw
                case rel => exact ⟨k + 1, hlt, by go_num, hbl, by rw [HF2.out]; exact HO.out⟩
                case measure => simp [intOf]; omega
              · have HF2 := Lib.hid (show Ts.foundTo a (k + 1) = Ts.foundTo a k by rw [HF.out]; simp)
                clear HQ HF
                go_wp2
                go_roundw
                case rel => exact ⟨k + 1, hlt, by go_num, hbl, by rw [HF2.out]; exact HO.out⟩
                case measure => simp [intOf]; omega
              · have HF2 := Lib.hid (show Ts.foundTo a (k + 1) = Ts.foundTo a k ++ [(k : Int)] by rw [HF.out]; simp)
                clear HQ HF
                go_wp2_with (at_builtin; refine wpList_append_lies _ rfl (.tmp 95) (.tmp 97) 22 rfl w5.heap.size 3 i0 (.int .i64 0) 1 8 Try.underlying22 hi0 hz0 hz1 hz2 rfl (by decide) u12 (Ts.foundTo a k).length (intsV (Ts.foundTo a k)) rfl (HO.out.alloc _) ⟨wr.heap.size, 0, none⟩ 1 1 [.int .i64 k] rfl rfl (World.news_of_block (heap_alloc_new _ _)) (by simp [Value.oneCell']) (by decide) (by unfold maxLen; omega) (by omega) (by simp; omega) _ rfl ?_; intro g6 cap6 w6 hown6 hgrow6 hat6 hlt6; have HG6 := Lib.hid hgrow6; clear hgrow6 hat6; have HO6 := Lib.hid hown6; clear hown6)
                go_roundw
                case rel => exact ⟨k + 1, hlt, by go_num, (hbl.alloc hszr _).grown HG6.out (by simp; omega) (fun _ h => own_geT HO.out h), by rw [HF2.out, List.length_append]; simpa [intsV] using HO6.out⟩
                case measure => simp [intOf]; omega
            · obtain rfl : k = l.length := by omega
              have HFR := Lib.hid (show RowAt wr u12 (intsV (Ts.foundTo a l.length)) from RowAt.of_own HO.out)
              have hcl := closeF_any (.slice A l.length c) u12 (Ts.foundTo a l.length) (HL5.out.below hbl) HFR.out
              rw [Q5.out] at hcl
              have HCL := Lib.hid hcl; clear hcl
              go_wp2_with fail
              refine HCL.out.mono ?_
              rintro e w7 ⟨⟨uc, rfl, hc7⟩, hb7⟩
              have HBB := Lib.hid (boolsT_below _ uc a a w7 ((HA5.out.below hbl).below hb7) hc7)
              clear hc7
              go_wp2_with fail
              refine HBB.out.mono ?_
              rintro e w8 ⟨rfl, hb8⟩
              go_wp2
              go_ret
              exact ⟨by simp, hb1.trans ((hb15.trans ((hbl.trans ((hb7.trans (hb8.mono hb7.size)).mono hszr)).mono hsz5)).mono hsz1)⟩
        · have f1 : (cf.1 != 0) = true := by simp [f0]
          clear P1 P2 P3 P4 P5 e0 f0
          go_wp2
          go_ret
          exact ⟨rfl, hb1.trans (hb15.mono hsz1)⟩
      · have e1 : (ce.1 != 0) = true := by simp [e0]
        have e2 : (ce.1 == 0) = false := by simp [e0]
        have f1 : (cf.1 != 0) = true := by simp [P1.out e0]
        clear P1 P2 P3 P4 P5 e0
        go_wp2
        go_ret
        exact ⟨rfl, hb1.trans (hb15.mono hsz1)⟩
  · obtain ⟨ak, dk, hke, hkx⟩ := HK.out.later (by cases known with | nil => exact absurd rfl hk0 | cons _ _ => simp)
    simp only [Value.slice.injEq, true_and] at hke
    obtain ⟨rfl, rfl⟩ := hke
    have HKX := Lib.hid hkx; clear hkx
    have hkp : 0 < known.length := by cases known with | nil => exact absurd rfl hk0 | cons _ _ => simp
    clear hk0
    by_cases hm0 : more = []
    · have HM0 := Lib.hid hm0
      have hml : more.length = 0 := by simp [hm0]
      rw [hml] at HM ⊢
      clear hml hm0 h11 h11'
      go_enter Try.func7, Try.ntmps7
      go_wp2_with fail
      refine (awakeT_any _).mono ?_
      rintro e w1 ⟨rfl, hb1⟩
      have hsz1 := hb1.size
      have HL1 := Lib.hid (HL.out.below hb1)
      have HK1 := Lib.hid (HK.out.below hb1)
      have HM1 := Lib.hid (HM.out.below hb1)
      go_wp2_with fail
      refine (closeF_any _ _ known HL1.out HK1.out).mono ?_
      rintro e w2 ⟨⟨ua, rfl, ha⟩, hb2⟩
      have HA := Lib.hid ha; clear ha
      have hsz2 := hb2.size
      have hbe : Below w1.heap.size w1 (w2.alloc (.cells #[] 3)) := hb2.alloc hsz2 _
      have HE0 := Lib.hid (own_empty w2 w1.heap.size hsz2)
      have KX := Lib.hid (fun w' hb => HKX.out w' (hb1.trans (Below.mono (B' := w.heap.size) hb hsz1)))
      go_wp2_with (first | (at_builtin; refine wpList_append_lies _ rfl (.tmp 39) (.tmp 40) 22 rfl w1.heap.size 3 i0 (.int .i64 0) 1 8 Try.underlying22 hi0 hz0 hz1 hz2 rfl (by decide) (.slice (some ⟨w2.heap.size, 0, none⟩) 0 0) 0 [] rfl HE0.out ak known.length d (intsV known) rfl (by simp [intsV]) (KX.out _ hbe) (by simp [intsV, Value.oneCell']) (by omega) (by unfold maxLen; omega) (by omega) (by simp; omega) _ rfl ?_; intro g3 cap3 w3 hown3 hgrow3 hat3 hlt3; have hb3 : Below w1.heap.size w1 w3 := hbe.grown hgrow3 (by simp; omega) (fun _ h => own_geT HE0.out h); have hsz3 := hb3.size; have hgb3 : Below w2.heap.size w2 w3 := ((Below.refl w2.heap.size w2).alloc (Nat.le_refl _) _).grown hgrow3 (by simp) (by intro k h; simp [Value.ownBlock] at h; omega); have HG3 := Lib.hid (at_ge (w2 := w2) (n := known.length) (c := cap3) hat3 (by intro k h; simp [Value.ownBlock] at h; omega) (by simp)); have HO3 := Lib.hid (show w3.ownsRow w1.heap.size 3 1 (.slice (some ⟨g3, 0, none⟩) known.length cap3) known.length (intsV known) by simpa using hown3); clear hown3 hgrow3 hat3) | (at_builtin; refine wpList_append_nothing _ rfl (.tmp 41) (.tmp 42) 22 rfl 3 i0 Try.underlying22 hi0 g3 0 known.length cap3 rfl (own_leT HO3.out) D dd rfl ?_))
      have hbz := hgb3
      have hb1z := hb3
      have HALL := Lib.hid (show RowAt w3 (.slice (some ⟨g3, 0, none⟩) known.length cap3) (intsV (known ++ more)) by have := RowAt.of_own HO3.out; simpa [intsV, HM0.out] using this)
      refine (closeF_any _ _ (known ++ more) (HL1.out.below hb1z) HALL.out).mono ?_
      rintro e w5 ⟨⟨ub, rfl, hbb⟩, hb5⟩
      have HA5 := Lib.hid ((HA.out.below hbz).below hb5)
      have HB5 := Lib.hid hbb
      have hb15 := hb1z.trans (hb5.mono hb1z.size)
      have HL5 := Lib.hid (HL1.out.below hb15)
      have hsz5 := hb15.size
      have P1 := Lib.hid (Ts.more_err (l := l) (known := known) (more := more))
      have P2 := Lib.hid (Ts.more_len (l := l) (known := known))
      have P3 := Lib.hid (Ts.more_len (l := l) (known := known ++ more))
      have P4 := Lib.hid (Ts.more_sub (l := l) (known := known) (more := more))
      have P5 := Lib.hid (Ts.more_again (l := l) (known := known))
      obtain ⟨Aa, ca, hua, hca⟩ := HA5.out.form
      obtain ⟨Ab, cb, hub, hcb⟩ := HB5.out.form
      rw [bools_length] at hua hca hub hcb
      subst hua hub
      generalize Ts.closeF l known = ce at *
      generalize Ts.closeF l (known ++ more) = cf at *
      by_cases e0 : ce.1 = 0
      · have e1 : (ce.1 != 0) = false := by simp [e0]
        have e2 : (ce.1 == 0) = true := by simp [e0]
        by_cases f0 : cf.1 = 0
        · have f1 : (cf.1 != 0) = false := by simp [f0]
          have q2 := P2.out e0
          have q3 := P3.out f0
          have Q4 := Lib.hid (P4.out e0 f0)
          have Q5 := Lib.hid (P5.out e0)
          clear P1 P2 P3 P4 P5 e0 f0
          generalize ce.1 = ez at *
          generalize cf.1 = fz at *
          generalize ce.2 = a at *
          generalize cf.2 = b at *
          have q2' : ((a.length : Int) != l.length) = false := by simp [q2]
          have q3' : ((b.length : Int) != l.length) = false := by simp [q3]
          have Q2 := Lib.hid q2; have Q3 := Lib.hid q3
          have a2 : a.length ≤ 30 := by omega
          have b2 : b.length ≤ 30 := by omega
          clear q2 q3
          go_wp2
          go_loopw [12, 13] (fun t i wr => ∃ k : Nat, k ≤ l.length ∧ i = .int .i64 k ∧ Below w5.heap.size w5 wr ∧ wr.ownsRow w5.heap.size 3 1 t (Ts.foundTo a k).length (intsV (Ts.foundTo a k))) (fun _ i _ => l.length - (intOf i).toNat)
          case atStart => exact ⟨0, Nat.zero_le _, rfl, Below.refl _ _, by simp [World.ownsRow, Ts.foundTo, intsV]⟩
          case round =>
            obtain ⟨k, hkk, rfl, hbl, hown⟩ := hrel
            have HO := Lib.hid hown; clear hown
            have hszr := hbl.size
            by_cases hlt : k < l.length
            · have hka : k < a.length := by rw [Q2.out]; exact hlt
              have hkb : k < b.length := by rw [Q3.out]; exact hlt
              obtain ⟨ga, offa, rfl, _, hga, ya⟩ := (HA5.out.below hbl).atT k hka
              obtain ⟨gb, offb, rfl, _, hgb, yb⟩ := (HB5.out.below hbl).atT k hkb
              have hq := Q4.out k
              have hl1 := Ts.foundTo_length a k
              have HF := Lib.hid (show Ts.foundTo a (k + 1) = Ts.foundTo a k ++ (if a.getD k false = true then [(k : Int)] else []) from rfl)
              have ga' : a.getD k false = a[k] := by simp [List.getD, hka]
              have gb' : b.getD k false = b[k] := by simp [List.getD, hkb]
              rw [ga'] at HF hq
              rw [gb'] at hq
              clear ga' gb'
              generalize a[k] = xa at *
              generalize b[k] = xb at *
              have HQ := Lib.hid hq; clear hq
              cases xa <;> cases xb
              all_goals try (exfalso; exact absurd (HQ.out rfl) (by decide))
              · have HF2 := Lib.hid (show Ts.foundTo a (k + 1) = Ts.foundTo a k by rw [HF.out]; simp)
                clear HQ HF
                go_wp2
                go_roundw
                case rel => exact ⟨k + 1, hlt, by go_num, hbl, by rw [HF2.out]; exact HO.out⟩
                case measure => simp [intOf]; omega
              · have HF2 := Lib.hid (show Ts.foundTo a (k + 1) = Ts.foundTo a k by rw [HF.out]; simp)
                clear HQ HF
                go_wp2
                go_roundw
                case rel => exact ⟨k + 1, hlt, by go_num, hbl, by rw [HF2.out]; exact HO.out⟩
                case measure => simp [intOf]; omega
              · have HF2 := Lib.hid (show Ts.foundTo a (k + 1) = Ts.foundTo a k ++ [(k : Int)] by rw [HF.out]; simp)
                clear HQ HF
                go_wp2_with (at_builtin; refine wpList_append_lies _ rfl (.tmp 95) (.tmp 97) 22 rfl w5.heap.size 3 i0 (.int .i64 0) 1 8 Try.underlying22 hi0 hz0 hz1 hz2 rfl (by decide) u12 (Ts.foundTo a k).length (intsV (Ts.foundTo a k)) rfl (HO.out.alloc _) ⟨wr.heap.size, 0, none⟩ 1 1 [.int .i64 k] rfl rfl (World.news_of_block (heap_alloc_new _ _)) (by simp [Value.oneCell']) (by decide) (by unfold maxLen; omega) (by omega) (by simp; omega) _ rfl ?_; intro g6 cap6 w6 hown6 hgrow6 hat6 hlt6; have HG6 := Lib.hid hgrow6; clear hgrow6 hat6; have HO6 := Lib.hid hown6; clear hown6)
                go_roundw
                case rel => exact ⟨k + 1, hlt, by go_num, (hbl.alloc hszr _).grown HG6.out (by simp; omega) (fun _ h => own_geT HO.out h), by rw [HF2.out, List.length_append]; simpa [intsV] using HO6.out⟩
                case measure => simp [intOf]; omega
            · obtain rfl : k = l.length := by omega
              have HFR := Lib.hid (show RowAt wr u12 (intsV (Ts.foundTo a l.length)) from RowAt.of_own HO.out)
              have hcl := closeF_any (.slice A l.length c) u12 (Ts.foundTo a l.length) (HL5.out.below hbl) HFR.out
              rw [Q5.out] at hcl
              have HCL := Lib.hid hcl; clear hcl
              go_wp2_with fail
              refine HCL.out.mono ?_
              rintro e w7 ⟨⟨uc, rfl, hc7⟩, hb7⟩
              have HBB := Lib.hid (boolsT_below _ uc a a w7 ((HA5.out.below hbl).below hb7) hc7)
              clear hc7
              go_wp2_with fail
              refine HBB.out.mono ?_
              rintro e w8 ⟨rfl, hb8⟩
              go_wp2
              go_ret
              exact ⟨by simp, hb1.trans ((hb15.trans ((hbl.trans ((hb7.trans (hb8.mono hb7.size)).mono hszr)).mono hsz5)).mono hsz1)⟩
        · have f1 : (cf.1 != 0) = true := by simp [f0]
          clear P1 P2 P3 P4 P5 e0 f0
          go_wp2
          go_ret
          exact ⟨rfl, hb1.trans (hb15.mono hsz1)⟩
      · have e1 : (ce.1 != 0) = true := by simp [e0]
        have e2 : (ce.1 == 0) = false := by simp [e0]
        have f1 : (cf.1 != 0) = true := by simp [P1.out e0]
        clear P1 P2 P3 P4 P5 e0
        go_wp2
        go_ret
        exact ⟨rfl, hb1.trans (hb15.mono hsz1)⟩
    · obtain ⟨am, dm, hme, hmx⟩ := HM.out.later (by cases more with | nil => exact absurd rfl hm0 | cons _ _ => simp)
      simp only [Value.slice.injEq, true_and] at hme
      obtain ⟨rfl, rfl⟩ := hme
      have HMX := Lib.hid hmx; clear hmx
      have hmp : 0 < more.length := by cases more with | nil => exact absurd rfl hm0 | cons _ _ => simp
      clear hm0
      go_enter Try.func7, Try.ntmps7
      go_wp2_with fail
      refine (awakeT_any _).mono ?_
      rintro e w1 ⟨rfl, hb1⟩
      have hsz1 := hb1.size
      have HL1 := Lib.hid (HL.out.below hb1)
      have HK1 := Lib.hid (HK.out.below hb1)
      have HM1 := Lib.hid (HM.out.below hb1)
      go_wp2_with fail
      refine (closeF_any _ _ known HL1.out HK1.out).mono ?_
      rintro e w2 ⟨⟨ua, rfl, ha⟩, hb2⟩
      have HA := Lib.hid ha; clear ha
      have hsz2 := hb2.size
      have hbe : Below w1.heap.size w1 (w2.alloc (.cells #[] 3)) := hb2.alloc hsz2 _
      have HE0 := Lib.hid (own_empty w2 w1.heap.size hsz2)
      have KX := Lib.hid (fun w' hb => HKX.out w' (hb1.trans (Below.mono (B' := w.heap.size) hb hsz1)))
      have MX := Lib.hid (fun w' hb => HMX.out w' (hb1.trans (Below.mono (B' := w.heap.size) hb hsz1)))
      go_wp2_with (first | (at_builtin; refine wpList_append_lies _ rfl (.tmp 39) (.tmp 40) 22 rfl w1.heap.size 3 i0 (.int .i64 0) 1 8 Try.underlying22 hi0 hz0 hz1 hz2 rfl (by decide) (.slice (some ⟨w2.heap.size, 0, none⟩) 0 0) 0 [] rfl HE0.out ak known.length d (intsV known) rfl (by simp [intsV]) (KX.out _ hbe) (by simp [intsV, Value.oneCell']) (by omega) (by unfold maxLen; omega) (by omega) (by simp; omega) _ rfl ?_; intro g3 cap3 w3 hown3 hgrow3 hat3 hlt3; have hb3 : Below w1.heap.size w1 w3 := hbe.grown hgrow3 (by simp; omega) (fun _ h => own_geT HE0.out h); have hsz3 := hb3.size; have hgb3 : Below w2.heap.size w2 w3 := ((Below.refl w2.heap.size w2).alloc (Nat.le_refl _) _).grown hgrow3 (by simp) (by intro k h; simp [Value.ownBlock] at h; omega); have HG3 := Lib.hid (at_ge (w2 := w2) (n := known.length) (c := cap3) hat3 (by intro k h; simp [Value.ownBlock] at h; omega) (by simp)); have HO3 := Lib.hid (show w3.ownsRow w1.heap.size 3 1 (.slice (some ⟨g3, 0, none⟩) known.length cap3) known.length (intsV known) by simpa using hown3); clear hown3 hgrow3 hat3) | (at_builtin; refine wpList_append_lies _ rfl (.tmp 41) (.tmp 42) 22 rfl w1.heap.size 3 i0 (.int .i64 0) 1 8 Try.underlying22 hi0 hz0 hz1 hz2 rfl (by decide) (.slice (some ⟨g3, 0, none⟩) known.length cap3) known.length (intsV known) rfl HO3.out am more.length dd (intsV more) rfl (by simp [intsV]) (MX.out _ hb3) (by simp [intsV, Value.oneCell']) (by omega) (by unfold maxLen; omega) (by omega) (by omega) _ rfl ?_; intro g4 cap4 w4 hown4 hgrow4 hat4 hlt4; have hb4 : Below w1.heap.size w1 w4 := hb3.grown hgrow4 hsz3 (fun _ h => own_geT HO3.out h); have hgb4 : Below w2.heap.size w2 w4 := hgb3.grown hgrow4 hgb3.size (fun k h => HG3.out k h); have HO4 := Lib.hid hown4; clear hown4 hgrow4 hat4))
      have hbz := hgb4
      have hb1z := hb4
      have HALL := Lib.hid (show RowAt w4 (.slice (some ⟨g4, 0, none⟩) (known.length + more.length) cap4) (intsV (known ++ more)) by have := RowAt.of_own HO4.out; simpa [intsV] using this)
      refine (closeF_any _ _ (known ++ more) (HL1.out.below hb1z) HALL.out).mono ?_
      rintro e w5 ⟨⟨ub, rfl, hbb⟩, hb5⟩
      have HA5 := Lib.hid ((HA.out.below hbz).below hb5)
      have HB5 := Lib.hid hbb
      have hb15 := hb1z.trans (hb5.mono hb1z.size)
      have HL5 := Lib.hid (HL1.out.below hb15)
      have hsz5 := hb15.size
      have P1 := Lib.hid (Ts.more_err (l := l) (known := known) (more := more))
      have P2 := Lib.hid (Ts.more_len (l := l) (known := known))
      have P3 := Lib.hid (Ts.more_len (l := l) (known := known ++ more))
      have P4 := Lib.hid (Ts.more_sub (l := l) (known := known) (more := more))
      have P5 := Lib.hid (Ts.more_again (l := l) (known := known))
      obtain ⟨Aa, ca, hua, hca⟩ := HA5.out.form
      obtain ⟨Ab, cb, hub, hcb⟩ := HB5.out.form
      rw [bools_length] at hua hca hub hcb
      subst hua hub
      generalize Ts.closeF l known = ce at *
      generalize Ts.closeF l (known ++ more) = cf at *
      by_cases e0 : ce.1 = 0
      · have e1 : (ce.1 != 0) = false := by simp [e0]
        have e2 : (ce.1 == 0) = true := by simp [e0]
        by_cases f0 : cf.1 = 0
        · have f1 : (cf.1 != 0) = false := by simp [f0]
          have q2 := P2.out e0
          have q3 := P3.out f0
          have Q4 := Lib.hid (P4.out e0 f0)
          have Q5 := Lib.hid (P5.out e0)
          clear P1 P2 P3 P4 P5 e0 f0
          generalize ce.1 = ez at *
          generalize cf.1 = fz at *
          generalize ce.2 = a at *
          generalize cf.2 = b at *
          have q2' : ((a.length : Int) != l.length) = false := by simp [q2]
          have q3' : ((b.length : Int) != l.length) = false := by simp [q3]
          have Q2 := Lib.hid q2; have Q3 := Lib.hid q3
          have a2 : a.length ≤ 30 := by omega
          have b2 : b.length ≤ 30 := by omega
          clear q2 q3
          go_wp2
          go_loopw [12, 13] (fun t i wr => ∃ k : Nat, k ≤ l.length ∧ i = .int .i64 k ∧ Below w5.heap.size w5 wr ∧ wr.ownsRow w5.heap.size 3 1 t (Ts.foundTo a k).length (intsV (Ts.foundTo a k))) (fun _ i _ => l.length - (intOf i).toNat)
          case atStart => exact ⟨0, Nat.zero_le _, rfl, Below.refl _ _, by simp [World.ownsRow, Ts.foundTo, intsV]⟩
          case round =>
            obtain ⟨k, hkk, rfl, hbl, hown⟩ := hrel
            have HO := Lib.hid hown; clear hown
            have hszr := hbl.size
            by_cases hlt : k < l.length
            · have hka : k < a.length := by rw [Q2.out]; exact hlt
              have hkb : k < b.length := by rw [Q3.out]; exact hlt
              obtain ⟨ga, offa, rfl, _, hga, ya⟩ := (HA5.out.below hbl).atT k hka
              obtain ⟨gb, offb, rfl, _, hgb, yb⟩ := (HB5.out.below hbl).atT k hkb
              have hq := Q4.out k
              have hl1 := Ts.foundTo_length a k
              have HF := Lib.hid (show Ts.foundTo a (k + 1) = Ts.foundTo a k ++ (if a.getD k false = true then [(k : Int)] else []) from rfl)
              have ga' : a.getD k false = a[k] := by simp [List.getD, hka]
              have gb' : b.getD k false = b[k] := by simp [List.getD, hkb]
              rw [ga'] at HF hq
              rw [gb'] at hq
              clear ga' gb'
              generalize a[k] = xa at *
              generalize b[k] = xb at *
              have HQ := Lib.hid hq; clear hq
              cases xa <;> cases xb
              all_goals try (exfalso; exact absurd (HQ.out rfl) (by decide))
              · have HF2 := Lib.hid (show Ts.foundTo a (k + 1) = Ts.foundTo a k by rw [HF.out]; simp)
                clear HQ HF
                go_wp2
                go_roundw
                case rel => exact ⟨k + 1, hlt, by go_num, hbl, by rw [HF2.out]; exact HO.out⟩
                case measure => simp [intOf]; omega
              · have HF2 := Lib.hid (show Ts.foundTo a (k + 1) = Ts.foundTo a k by rw [HF.out]; simp)
                clear HQ HF
                go_wp2
                go_roundw
                case rel => exact ⟨k + 1, hlt, by go_num, hbl, by rw [HF2.out]; exact HO.out⟩
                case measure => simp [intOf]; omega
              · have HF2 := Lib.hid (show Ts.foundTo a (k + 1) = Ts.foundTo a k ++ [(k : Int)] by rw [HF.out]; simp)
                clear HQ HF
                go_wp2_with (at_builtin; refine wpList_append_lies _ rfl (.tmp 95) (.tmp 97) 22 rfl w5.heap.size 3 i0 (.int .i64 0) 1 8 Try.underlying22 hi0 hz0 hz1 hz2 rfl (by decide) u12 (Ts.foundTo a k).length (intsV (Ts.foundTo a k)) rfl (HO.out.alloc _) ⟨wr.heap.size, 0, none⟩ 1 1 [.int .i64 k] rfl rfl (World.news_of_block (heap_alloc_new _ _)) (by simp [Value.oneCell']) (by decide) (by unfold maxLen; omega) (by omega) (by simp; omega) _ rfl ?_; intro g6 cap6 w6 hown6 hgrow6 hat6 hlt6; have HG6 := Lib.hid hgrow6; clear hgrow6 hat6; have HO6 := Lib.hid hown6; clear hown6)
                go_roundw
                case rel => exact ⟨k + 1, hlt, by go_num, (hbl.alloc hszr _).grown HG6.out (by simp; omega) (fun _ h => own_geT HO.out h), by rw [HF2.out, List.length_append]; simpa [intsV] using HO6.out⟩
                case measure => simp [intOf]; omega
            · obtain rfl : k = l.length := by omega
              have HFR := Lib.hid (show RowAt wr u12 (intsV (Ts.foundTo a l.length)) from RowAt.of_own HO.out)
              have hcl := closeF_any (.slice A l.length c) u12 (Ts.foundTo a l.length) (HL5.out.below hbl) HFR.out
              rw [Q5.out] at hcl
              have HCL := Lib.hid hcl; clear hcl
              go_wp2_with fail
              refine HCL.out.mono ?_
              rintro e w7 ⟨⟨uc, rfl, hc7⟩, hb7⟩
              have HBB := Lib.hid (boolsT_below _ uc a a w7 ((HA5.out.below hbl).below hb7) hc7)
              clear hc7
              go_wp2_with fail
              refine HBB.out.mono ?_
              rintro e w8 ⟨rfl, hb8⟩
              go_wp2
              go_ret
              exact ⟨by simp, hb1.trans ((hb15.trans ((hbl.trans ((hb7.trans (hb8.mono hb7.size)).mono hszr)).mono hsz5)).mono hsz1)⟩
        · have f1 : (cf.1 != 0) = true := by simp [f0]
          clear P1 P2 P3 P4 P5 e0 f0
          go_wp2
          go_ret
          exact ⟨rfl, hb1.trans (hb15.mono hsz1)⟩
      · have e1 : (ce.1 != 0) = true := by simp [e0]
        have e2 : (ce.1 == 0) = false := by simp [e0]
        have f1 : (cf.1 != 0) = true := by simp [P1.out e0]
        clear P1 P2 P3 P4 P5 e0
        go_wp2
        go_ret
        exact ⟨rfl, hb1.trans (hb15.mono hsz1)⟩

end Go.Proofs.Ytffgechbmhgndaa
