/- LedgerStays: the walk. -/
import Derived.Test.YtffgechbmhgndaaL7
import Derived.Test.YtffgechbmhgndaaP1
set_option linter.unusedVariables false
set_option linter.unusedSimpArgs false
namespace Go.Proofs.Ytffgechbmhgndaa
open Go.RowKit

theorem RowAt.sub {w w1 : World} {v : Value} {xs : List Value} (h : RowAt w v xs) (hb : Below w.heap.size w w1) : RowAt w1 v xs := h.below hb
/-- A cell of a row of bools, its place written out. -/
theorem RowAt.at {w : World} {A : Option Addr} {n c : Nat} {l : List Bool} (h : RowAt w (.slice A n c) (bools l)) (k : Nat) (hk : k < l.length) : ∃ g off, A = some ⟨g, off, none⟩ ∧ n = l.length ∧ g < w.heap.size ∧ w.cell? ⟨g, off + k, none⟩ = some (.bool l[k]) := by
  obtain ⟨g, off, c', he, _, hg, hx⟩ := h.cell (by rw [bools_length]; omega)
  simp only [Value.slice.injEq, bools_length] at he
  exact ⟨g, off, he.1, he.2.1, hg, hx k _ (bools_get l k hk)⟩

set_option maxRecDepth 100000 in
set_option maxHeartbeats 2000000 in
theorem stays_any (v : Value) (l : List Int) (w : World) (hv : RowAt w v (intsV l)) :
    Calls Try.prog 5 #[v] w fun r w' => r = .returned (.bool true) ∧ Below w.heap.size w w' := by
  have HV := Lib.hid hv
  obtain ⟨A, c, rfl, hc⟩ := hv.form
  have hm : l.length ≤ 9223372036854775807 := by obtain ⟨_, _, _, _, hm, _⟩ := hv; rwa [intsV_length] at hm
  rw [intsV_length] at hc ⊢
  clear hv
  by_cases h30 : 30 < l.length
  · go_enter Try.func5, Try.ntmps5
    go_wp2_with fail
    refine (awake_any _).mono ?_
    rintro e w1 ⟨rfl, hb1⟩
    have hsz := hb1.size
    go_wp2
    go_ret
    exact ⟨rfl, hb1.alloc hsz _⟩
  · go_enter Try.func5, Try.ntmps5
    go_wp2_with fail
    refine (awake_any _).mono ?_
    rintro e w1 ⟨rfl, hb1⟩
    have hsz1 := hb1.size
    have HR1 := Lib.hid (HV.out.below hb1)
    clear HV
    go_wp2
    have HN := Lib.hid (Own.new w1)
    go_loopw [5, 6, 7, 8, 9] (fun i _ _ _ _ wr => ∃ k : Nat, k ≤ l.length ∧ i = .int .i64 k ∧ Own w1 w1.heap.size (Led.zero.run (l.take k)) wr) (fun i _ _ _ _ _ => l.length - (intOf i).toNat)
    case atStart => exact ⟨0, Nat.zero_le _, rfl, HN.out⟩
    case round =>
      obtain ⟨k, hk, rfl, how⟩ := hrel
      obtain ⟨wo, rfl⟩ : ∃ wo : World, wo = wr := ⟨_, rfl⟩
      by_cases hlt : k < l.length
      · have HS := Lib.hid (show Led.zero.run (l.take (k + 1)) = (Led.zero.run (l.take k)).next l[k] by rw [List.take_succ_eq_append_getElem hlt, Led.run_snoc])
        have hok := Led.run_ok (l.take k) (by simp; omega)
        have hok2 := Led.run_ok (l.take (k + 1)) (by simp; omega)
        rw [HS.out] at hok2
        generalize Led.zero.run (l.take k) = L at how hok hok2 HS
        have HOK := Lib.hid hok; clear hok
        have HOK2 := Lib.hid hok2; clear hok2
        obtain ⟨fs, hled, hbl, hfs⟩ := how
        have HL := Lib.hid hled; clear hled
        have HF := Lib.hid hfs; clear hfs
        obtain ⟨g, off, c2, he, _, hg, hx⟩ := HR1.out.cell (by rw [intsV_length]; omega)
        simp only [Value.slice.injEq, true_and] at he
        obtain ⟨rfl, rfl, rfl⟩ := he
        have X1 := Lib.hid (fun (w2 : World) (hb : Below w1.heap.size w1 w2) => (hb.cell (p := ⟨g, off + k, none⟩) hg).trans (hx k _ (intsV_get l k hlt)))
        clear hx
        go_wp2_with fail
        refine (leaked_any HL.out HOK.out).mono ?_
        rintro e w2 ⟨va, rfl, hoa, hb2⟩
        have hb12 := hbl.trans (hb2.mono hbl.size)
        have x1 := X1.out w2 hb12
        have HL2 := Lib.hid (HL.out.keep fun k hk => hb2.block k (HL.out.lt k hk))
        have HOA := Lib.hid hoa; clear hoa
        clear hb2
        go_wp2_with fail
        refine (do_any HL2.out HOK.out _).mono ?_
        rintro e w3 ⟨rfl, fs3, hled3, hfr3, hfs3⟩
        have hoa3 : w3.ownsRow wo.heap.size 4 1 va L.leaked.length (bools L.leaked) := own_keep HOA.out fun k hk => hfr3.block k (own_obl_lt HOA.out hk) fun hk' => absurd (HL.out.lt k hk') (by have := own_ge HOA.out (mem_obl.1 hk); omega)
        have hb13 : Below w1.heap.size w1 w3 := (Fr.trans (H := fs) (Fr.of_below hb12 []) hfr3 (by simp) (fun _ h _ => h)).mono (G := []) (fun k hk hlt => absurd (HF.out k hk) (by omega)) |>.below
        have HL3 := Lib.hid hled3
        have hF3 : ∀ k, k ∈ fs3 → w1.heap.size ≤ k := fun k hk => (hfs3 k hk).elim (HF.out k) fun h => Nat.le_trans hb12.size h
        have HF3 := Lib.hid hF3; clear hF3 hled3 hfr3 hfs3 HOA HL2 HF x1 hb12 hbl
        have HOA3 := Lib.hid hoa3; clear hoa3
        go_wp2_with fail
        refine (leaked_any HL3.out HOK2.out).mono ?_
        rintro e w4 ⟨vb, rfl, hob, hb4⟩
        have hb14 := hb13.trans (hb4.mono hb13.size)
        have hoa4 := own_below HOA3.out hb4
        have HRA := Lib.hid (RowAt.of_own hoa4)
        have HRB := Lib.hid (RowAt.of_own hob)
        have HOW := Lib.hid (show Own w1 w1.heap.size (L.next l[k]) w4 from ⟨fs3, HL3.out.keep fun k hk => hb4.block k (HL3.out.lt k hk), hb14, HF3.out⟩)
        obtain ⟨Aa, ca, rfl, hca⟩ := own_form hoa4
        obtain ⟨Ab, cb, rfl, hcb⟩ := own_form hob
        have x1 := X1.out w4 hb14
        obtain ⟨p1, p2, p3⟩ := Led.stays L l[k]
        have hla : L.leaked.length ≤ 6 := by rw [Led.leaked_length]; exact HOK.out.n6
        have hlb : (L.next l[k]).leaked.length ≤ 6 := by rw [Led.leaked_length]; exact HOK2.out.n6
        have P3 := Lib.hid p3
        clear hoa4 hob hb4 HOA3 HL3 HF3 hb13 X1 p3 HL HOK HOK2
        generalize hev : l[k] = ev at *
        have HEV := Lib.hid hev; clear hev
        generalize (L.next ev).leaked = lb at *
        generalize L.leaked = la at *
        have p1' : decide (lb.length < la.length) = false := by simp; omega
        by_cases he0 : L.err ev = 0
        all_goals
          first
            | (have e1 : ((L.err ev) != 0) = false := by simp [he0])
            | (have e1 : ((L.err ev) != 0) = true := by simp [he0]
               have e2 : ((lb.length : Int) != la.length) = false := by simp [p2 he0])
          clear he0 p2
          generalize L.err ev = er at *
          go_wp2
          go_loopw [9] (fun i wr => ∃ m : Nat, m ≤ la.length ∧ i = .int .i64 m ∧ ∃ n, wr = w4.drewN n) (fun i _ => la.length - (intOf i).toNat)
          case atStart => exact ⟨0, Nat.zero_le _, rfl, 0, rfl⟩
          case round =>
            obtain ⟨m, hmk, rfl, nd, rfl⟩ := hrel
            by_cases hml : m < la.length
            · obtain ⟨ga, offa, rfl, _, hga, ya⟩ := HRA.out.at m hml
              obtain ⟨gb, offb, rfl, _, hgb, yb⟩ := HRB.out.at m (by omega)
              have q := P3.out m hml (by omega)
              have hmb : m < lb.length := by omega
              generalize la[m] = ba at *
              generalize lb[m] = bb at *
              by_cases h5 : ev = 5
              all_goals
                first
                  | (have e5 : (ev != 5) = false := by simp [h5])
                  | (have e5 : (ev != 5) = true := by simp [h5])
                obtain ⟨q1, q2⟩ := q
                have Q2 := Lib.hid q2
                have Q1 := Lib.hid q1
                have H5 := Lib.hid h5
                clear q1 q2 h5
                cases ba <;> cases bb
                all_goals try (exfalso; first | exact absurd (Q1.out rfl) (by decide) | exact absurd (Q2.out H5.out) (by decide))
                all_goals
                  clear Q1 Q2 H5
                  go_wp2
                  go_quiet (fail)
                  go_wp2
                  go_roundw
                  case rel => exact ⟨m + 1, hml, by go_num, _, rfl⟩
                  case measure => simp [intOf]; omega
            · go_wp2
              go_roundw
              case rel => exact ⟨k + 1, by omega, by go_num, by rw [HS.out]; exact HOW.out.later ⟨rfl, rfl, rfl, Nat.le_refl _, fun _ _ => rfl⟩⟩
              case measure => simp [intOf]; omega
      · go_wp2
        go_ret
        obtain ⟨fs, _, hbl, _⟩ := how
        exact ⟨rfl, hb1.trans (hbl.mono hsz1)⟩

end Go.Proofs.Ytffgechbmhgndaa
