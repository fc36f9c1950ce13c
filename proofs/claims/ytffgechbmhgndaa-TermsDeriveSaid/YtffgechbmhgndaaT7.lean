/- closed of package terms. -/
import Derived.Test.YtffgechbmhgndaaT6
import Derived.Test.YtffgechbmhgndaaT2
import Derived.ScopeJumps
import Derived.WalkMore
import Derived.Outline
set_option linter.unusedVariables false
set_option linter.unusedSimpArgs false
namespace Go.Proofs.Ytffgechbmhgndaa
open Go.RowKit

set_option maxRecDepth 100000 in
set_option maxHeartbeats 2000000 in
theorem closed_bad {w : World} {n c : Nat} {A : Option Addr} {l : List Tm} (v : Value) (hl : TermsAt w (.slice A n c) l) (hr : Ts.right l ≠ 0) :
    Calls Try.prog 40 #[.slice A n c, v] w fun r w' => r = .returned (.tuple #[.pointer none, .int .i64 (Ts.right l)]) ∧ Below w.heap.size w w' := by
  have HR := Lib.hid (right_any _ l w hl)
  have hr' : (Ts.right l != 0) = true := by simp [hr]
  generalize Ts.right l = e at *
  clear hr hl
  go_enter Try.func40, Try.ntmps40
  go_wp2
  go_step3
  go_wp2_with fail
  refine HR.out.mono ?_
  rintro e1 w1 ⟨rfl, hb⟩
  go_wp2
  try rw [Exit.noGoto_ret]
  go_ret2
  exact ⟨rfl, hb⟩

theorem info4' : (Try.prog.info? 4).map (fun i => (i.zero, i.size, i.bytes)) = some (some (.bool false), 1, 1) := by kernel_rfl
theorem made_false (n : Nat) : (madeCells (Value.bool false).cells (n * 1)).toList = bools (List.replicate n false) := by
  rw [Nat.mul_one]
  simp [madeCells, Value.cells, bools]
  apply List.ext_getElem (by simp)
  intro i h1 h2
  simp [Nat.mod_one]

/-- What closed tells of a well-shaped list. -/
def ClosedPost (w : World) (vl : Value) (l : List Tm) (known : List Int) (r : Ending) (w' : World) : Prop :=
  (Ts.valid l known ∧ ∃ b, r = .returned (.tuple #[.pointer (some ⟨b, 0, none⟩), .int .i64 0]) ∧ SOwn w b vl (Ts.result l known) w') ∨
  (¬ Ts.valid l known ∧ r = .returned (.tuple #[.pointer none, .int .i64 1]) ∧ Below w.heap.size w w')

theorem SOwn.new {w w1 w2 : World} {vl : Value} {l : List Tm} {g : Nat} (hb : Below w.heap.size w w1) (hg : w1.grownBy w2 none) (ho : w2.ownsRow w.heap.size 4 1 (.slice (some ⟨g, 0, none⟩) l.length l.length) l.length (madeCells (Value.bool false).cells (l.length * 1)).toList) :
    SOwn w w2.heap.size vl (Ts.fresh l) (w2.alloc (.cells #[vl, .slice (some ⟨g, 0, none⟩) l.length l.length, .slice none 0 0] 80)) := by
  rw [made_false] at ho
  have h2 : Below w.heap.size w w2 := hb.grown hg hb.size (by simp)
  refine ⟨_, _, heap_alloc_new _ _, ?_, by simp [World.ownsRow, Ts.fresh, natsV], h2.alloc h2.size _, h2.size⟩
  have := ho.alloc (.cells #[vl, .slice (some ⟨g, 0, none⟩) l.length l.length, .slice none 0 0] 80)
  simpa [Ts.fresh] using this

/-- What holds at each jump to the label. -/
def J40 (w : World) (A : Option Addr) (c : Nat) (l : List Tm) (known : List Int) (a : Act) (w' : World) : Prop :=
  ∃ (b : Nat) (s : Ts.St) (u1 u2 u3 u4 u5 u6 u8 u9 u10 u11 u12 u13 u14 u15 u16 u17 u18 u19 u20 u21 u22 u23 u24 u25 u26 u27 u28 u29 u30 u31 u32 u33 u34 u35 u36 u37 u38 u39 u40 u41 u42 u43 u44 u45 u46 u47 u48 u49 u50 u51 u52 u53 u54 u55 u56 u57 u58 u59 u60 u61 u62 u63 u64 u65 u66 u67 u68 u69 u70 u71 u72 u73 u74 u75 u76 u77 u78 : Value), a = { tmps := #[.slice A l.length c, u1, u2, u3, u4, u5, u6, .pointer (some ⟨b, 0, none⟩), u8, u9, u10, u11, u12, u13, u14, u15, u16, u17, u18, u19, u20, u21, u22, u23, u24, u25, u26, u27, u28, u29, u30, u31, u32, u33, u34, u35, u36, u37, u38, u39, u40, u41, u42, u43, u44, u45, u46, u47, u48, u49, u50, u51, u52, u53, u54, u55, u56, u57, u58, u59, u60, u61, u62, u63, u64, u65, u66, u67, u68, u69, u70, u71, u72, u73, u74, u75, u76, u77, u78], defers := [] } ∧ SOwn w b (.slice A l.length c) s w' ∧ s.inn.length = l.length ∧ Ts.Inv s ∧ Ts.valid l known ∧ ∀ r, Ts.Ends l s r → Ts.Ends l (Ts.start l known) r
def mu40 (l : List Tm) (a : Act) (w' : World) : Nat := l.length + 1 - (match a.tmps.getD 7 undef with
  | .pointer (some p) => (match w'.cell? ⟨p.block, 2, none⟩ with
    | some (.slice _ n _) => n
    | _ => 0)
  | _ => 0)
theorem SOwn.ord {w w1 : World} {b : Nat} {vl : Value} {s : Ts.St} (h : SOwn w b vl s w1) : ∃ A c, w1.cell? ⟨b, 2, none⟩ = some (.slice A s.order.length c) := by
  obtain ⟨vi, vo, h1, h2, h3, h4, h5⟩ := h
  obtain ⟨A, c, rfl, _⟩ := own_form h3
  exact ⟨A, c, cell_of_row w1 b 2 _ 80 (0, 0) h1⟩
theorem mu40_at {w w1 : World} {b : Nat} {vl : Value} {l : List Tm} {s : Ts.St} (h : SOwn w b vl s w1) (a : Act) (ha : a.tmps.getD 7 undef = .pointer (some ⟨b, 0, none⟩)) : mu40 l a w1 = l.length + 1 - s.order.length := by
  obtain ⟨Ao, co, ho⟩ := h.ord
  unfold mu40
  rw [ha]
  simp only [ho]

namespace Ts
theorem fits {l : List Tm} (hs : Shape l) {k : Nat} (hk : k < l.length) : Fits l.length (tm l k) :=
  ⟨hs.op k hk, fun h => by have := hs.a k hk h; omega, fun h => by have := hs.b k hk h; omega⟩
theorem visit_made {l : List Tm} {s : St} {k : Nat} (hk : k < s.inn.length) (h : made l s.inn (tm l k) = true) : visit l s k = opened (add s k) (tm l k) := by
  unfold visit; rw [if_pos h]; dsimp only; rw [if_pos (add_has hk)]
theorem visit_not {l : List Tm} {s : St} {k : Nat} (h : made l s.inn (tm l k) = false) : visit l s k = if s.inn.getD k false = true then opened s (tm l k) else s := by
  unfold visit; rw [h]; rfl
end Ts

set_option maxRecDepth 100000 in
set_option maxHeartbeats 4000000 in
theorem closed_ok {w : World} {n c : Nat} {A : Option Addr} {l : List Tm} (v : Value) (known : List Int) (hl : TermsAt w (.slice A n c) l) (hr : Ts.right l = 0) (hk : RowAt w v (intsV known)) (h200 : l.length ≤ 200) (hs : Ts.Shape l) :
    Calls Try.prog 40 #[.slice A n c, v] w (ClosedPost w (.slice A n c) l known) := by
  have HR := Lib.hid (right_any _ l w hl)
  rw [hr] at HR
  have HL := Lib.hid hl
  obtain ⟨_, _, hv, hnc, hm⟩ := RowsAt.form hl
  simp only [Value.slice.injEq] at hv
  obtain ⟨rfl, rfl, rfl⟩ := hv
  have HK := Lib.hid hk
  obtain ⟨K, ck, rfl, hck, hmk, _⟩ := hk
  rw [intsV_length] at hck hmk ⊢
  obtain ⟨i0, hi0, hz0, hz1, hz2⟩ := info_parts info4'
  have HSH := Lib.hid hs
  clear hl hr hs
  go_enter Try.func40, Try.ntmps40
  go_wp2
  refine wp_scope_jumps 0 (J40 w A c l known) (mu40 l) rfl ?_ ?_
  · go_wp2_with fail
    refine HR.out.mono ?_
    rintro e1 w1 ⟨rfl, hb⟩
    have hsz := hb.size
    go_wp2_with (with_reducible refine wpList_make_full _ rfl (.tmp 20) (.tmp 20) 30 rfl w.heap.size 4 i0 (.bool false) 1 Try.underlying30 hi0 hz0 hz1 .i64 .i64 _ _ l.length rfl rfl rfl rfl (by rw [hz2]; omega) (by unfold maxLen; omega) hsz ?_; intro w2 hown hgrow; have HNEW := Lib.hid (SOwn.new (vl := .slice A l.length c) (l := l) hb hgrow hown); clear hown hgrow)
    go_loopw [9, 26] (fun _ i' wr => ∃ k : Nat, k ≤ known.length ∧ i' = .int .i64 k ∧ SOwn w w2.heap.size (.slice A l.length c) ((known.take k).foldl (fun s x => Ts.add s x.toNat) (Ts.fresh l)) wr ∧ Ts.valid l (known.take k)) (fun _ i' _ => known.length - (intOf i').toNat)
    case atStart => exact ⟨0, Nat.zero_le _, rfl, HNEW.out, by intro x hx; simp at hx⟩
    case round =>
      obtain ⟨k, hkk, rfl, how, hval⟩ := hrel
      have HOW := Lib.hid how; clear how
      have HVAL := Lib.hid hval; clear hval
      obtain ⟨st1, st2, _, _⟩ := Ts.start_all HVAL.out
      have ST1 := Lib.hid (show ((known.take k).foldl (fun s x => Ts.add s x.toNat) (Ts.fresh l)).inn.length = l.length from st1)
      have ST2 := Lib.hid (show Ts.Inv ((known.take k).foldl (fun s x => Ts.add s x.toNat) (Ts.fresh l)) from st2)
      clear st1 st2
      by_cases hlt : k < known.length
      · obtain ⟨g, off, c', he, _, hg, hx⟩ := HK.out.cell (by rw [intsV_length]; omega)
        simp only [Value.slice.injEq, intsV_length, true_and] at he
        obtain ⟨rfl, rfl⟩ := he
        have x1 := (HOW.out.below.cell (p := ⟨g, off + k, none⟩) hg).trans (hx k _ (intsV_get known k hlt))
        clear hx
        have HT := Lib.hid (show known.take (k + 1) = known.take k ++ [known[k]] from List.take_succ_eq_append_getElem hlt)
        have HM := Lib.hid (show known[k] ∈ known from List.getElem_mem hlt)
        generalize known[k] = x at *
        by_cases hx0 : x < 0
        · have HBAD := Lib.hid (show ¬ Ts.valid l known from fun h => by have := (h x HM.out).1; omega)
          go_wp2
          try simp only [Exit.jump]
          go_ret2
          exact .inr ⟨HBAD.out, rfl, HOW.out.below⟩
        · have hx0' : decide (x < 0) = false := by simp; omega
          by_cases hx1 : (l.length : Int) ≤ x
          · have HBAD := Lib.hid (show ¬ Ts.valid l known from fun h => by have := (h x HM.out).2; omega)
            go_wp2
            try simp only [Exit.jump]
            go_ret2
            exact .inr ⟨HBAD.out, rfl, HOW.out.below⟩
          · have hx1' : decide ((l.length : Int) ≤ x) = false := by simp; omega
            have HFOLD := Lib.hid (show (known.take (k + 1)).foldl (fun s x => Ts.add s x.toNat) (Ts.fresh l) = Ts.add ((known.take k).foldl (fun s x => Ts.add s x.toNat) (Ts.fresh l)) x.toNat by rw [HT.out, List.foldl_append]; rfl)
            have HV2 := Lib.hid (show Ts.valid l (known.take (k + 1)) by
              rw [HT.out]
              intro y hy
              simp only [List.mem_append, List.mem_singleton] at hy
              rcases hy with hy | rfl
              · exact HVAL.out y hy
              · omega)
            have hil := ST2.out.le
            rw [ST1.out] at hil
            have hadd := add_any HOW.out x.toNat (by rw [ST1.out]; omega) (by omega)
            rw [show ((x.toNat : Nat) : Int) = x by omega] at hadd
            have HADD := Lib.hid hadd; clear hadd
            generalize (known.take k).foldl (fun s x => Ts.add s x.toNat) (Ts.fresh l) = s1 at *
            clear ST1 ST2 hil
            go_wp2_with fail
            refine HADD.out.mono ?_
            rintro e w4 ⟨rfl, ho4⟩
            have HO4 := Lib.hid ho4; clear ho4
            go_wp2
            go_roundw
            case rel => exact ⟨k + 1, hlt, by go_num, by rw [HFOLD.out]; exact HO4.out, HV2.out⟩
            case measure => simp [intOf]; omega
      · obtain rfl : k = known.length := by omega
        rw [List.take_length] at HOW HVAL ST1 ST2
        have HVALID := HVAL
        have HE := Lib.hid (fun (r : Ts.St) (h : Ts.Ends l (Ts.start l known) r) => h)
        have HLEN := Lib.hid (show (Ts.start l known).inn.length = l.length from ST1.out)
        have HINV := Lib.hid (show Ts.Inv (Ts.start l known) from ST2.out)
        have HOW0 := Lib.hid (show SOwn w w2.heap.size (.slice A l.length c) (Ts.start l known) wr from HOW.out)
        clear ST1 ST2 HVAL HOW
        obtain ⟨s, hst⟩ : ∃ s, s = Ts.start l known := ⟨_, rfl⟩
        rw [← hst] at HLEN HINV HOW0
        have HE := Lib.hid (show ∀ (r : Ts.St), Ts.Ends l s r → Ts.Ends l (Ts.start l known) r from fun r h => hst ▸ h)
        clear hst
        obtain ⟨w6, rfl⟩ : ∃ w6 : World, w6 = wr := ⟨_, rfl⟩
        go_wp2
        go_step3
        obtain ⟨Ao, co, c2⟩ := HOW0.out.ord
        have hil := HINV.out.le
        rw [HLEN.out] at hil
        have hlen0 : s.order.length ≤ 9223372036854775807 := by omega
        go_wp2
        go_loopw [11, 12, 49] (fun _ _ i' wr => ∃ k : Nat, k ≤ l.length ∧ i' = .int .i64 k ∧ SOwn w w2.heap.size (.slice A l.length c) (Ts.passTo l s k) wr) (fun _ _ i' _ => l.length - (intOf i').toNat)
        case atStart => exact ⟨0, Nat.zero_le _, rfl, HOW0.out⟩
        case round =>
          obtain ⟨k, hkk, rfl, how⟩ := hrel
          obtain ⟨wo, rfl⟩ : ∃ wo : World, wo = wr := ⟨_, rfl⟩
          have kp := Ts.keeps_passTo (K := fun _ => True) HSH.out HLEN.out k hkk
          have HOW1 := Lib.hid how; clear how
          by_cases hlt : k < l.length
          · have HVIS := Lib.hid (show Ts.passTo l s (k + 1) = Ts.visit l (Ts.passTo l s k) k from rfl)
            have HINV1 := Lib.hid (kp.inv HINV.out)
            have HLEN1 := Lib.hid (kp.len.trans HLEN.out)
            have HFIT := Lib.hid (Ts.fits HSH.out hlt)
            obtain ⟨g, off, rfl, hg, x1, x2, x3⟩ := (HL.out.below HOW1.out.below).at k hlt
            clear kp
            generalize Ts.passTo l s k = s1 at *
            obtain ⟨gi, ci, hrd⟩ := HOW1.out.reads HL.out HLEN1.out (by omega) (by omega)
            have hil1 := HINV1.out.le
            rw [HLEN1.out] at hil1
            have HRD := Lib.hid hrd; clear hrd
            have HVM := Lib.hid (fun (h : Ts.made l s1.inn (Ts.tm l k) = true) => Ts.visit_made (by rw [HLEN1.out]; exact hlt) h)
            have HVN := Lib.hid (fun (h : Ts.made l s1.inn (Ts.tm l k) = false) => Ts.visit_not h)
            have HMADE := Lib.hid (made_any (HRD.out.below ((Below.refl wo.heap.size wo).alloc (Nat.le_refl _) (.cells #[.int .i64 (Ts.tm l k).op, .int .i64 (Ts.tm l k).a, .int .i64 (Ts.tm l k).b] 60))) (Ts.tm l k) HFIT.out)
            unfold tmV at HMADE
            generalize Ts.tm l k = t at *
            go_wp2_with fail
            refine HMADE.out.mono ?_
            rintro e w3 ⟨rfl, hb3⟩
            have hlat : Below wo.heap.size wo w3 := ((Below.refl _ _).alloc (Nat.le_refl _) _).trans (hb3.mono (by simp))
            have hbox : w3.heap[wo.heap.size]? = some (.cells #[.int .i64 t.op, .int .i64 t.a, .int .i64 t.b] 60 (0, 0)) := (hb3.block wo.heap.size (by simp)).trans (heap_alloc_new wo _)
            have hsz3 : wo.heap.size < w3.heap.size := heap_lt hbox
            have HLAT := Lib.hid hlat; have HBOX := Lib.hid hbox
            clear hlat hbox hb3 HMADE
            cases hmade : Ts.made l s1.inn t
            · have HV := Lib.hid (HVN.out hmade)
              clear HVM HVN hmade
              have r3 := HRD.out.below HLAT.out
              have q1 := r3.c1
              have q2 := r3.ins k (by rw [HLEN1.out]; exact hlt)
              have q3 := r3.lb
              have q4 := r3.lg
              have q5 := r3.le
              have hki : k < s1.inn.length := by rw [HLEN1.out]; exact hlt
              clear r3
              by_cases hin : s1.inn.getD k false = true
              · rw [hin] at q2
                have b1 : w3.cell? ⟨wo.heap.size, 0, none⟩ = some (.int .i64 t.op) := cell_of_row w3 _ 0 _ 60 (0, 0) HBOX.out
                have b2 : w3.cell? ⟨wo.heap.size, 1, none⟩ = some (.int .i64 t.a) := cell_of_row w3 _ 1 _ 60 (0, 0) HBOX.out
                have b3 : w3.cell? ⟨wo.heap.size, 2, none⟩ = some (.int .i64 t.b) := cell_of_row w3 _ 2 _ 60 (0, 0) HBOX.out
                have HOPEN := Lib.hid (open_any (HOW1.out.later HLAT.out) HL.out HLEN1.out (by omega) (by omega) HINV1.out t HFIT.out)
                unfold tmV at HOPEN
                have HIN := Lib.hid hin; clear hin
                go_wp2_with fail
                refine HOPEN.out.mono ?_
                rintro e w4 ⟨rfl, ho4⟩
                have HO4 := Lib.hid ho4; clear ho4
                go_wp2
                go_roundw
                case rel => exact ⟨k + 1, hlt, by go_num, by rw [HVIS.out, HV.out, if_pos HIN.out]; exact HO4.out⟩
                case measure => simp [intOf]; omega
              · have hin' : s1.inn.getD k false = false := by simpa using hin
                rw [hin'] at q2
                have HIN := Lib.hid hin; clear hin hin'
                go_wp2
                go_roundw
                case rel => exact ⟨k + 1, hlt, by go_num, by rw [HVIS.out, HV.out, if_neg HIN.out]; exact HOW1.out.later HLAT.out⟩
                case measure => simp [intOf]; omega
            · have HV := Lib.hid (HVM.out hmade)
              clear HVM HVN hmade
              have hki : k < s1.inn.length := by rw [HLEN1.out]; exact hlt
              have HADD := Lib.hid (add_kept HOW1.out HLAT.out k hki (by omega))
              go_wp2_with fail
              refine HADD.out.mono ?_
              rintro e w4 ⟨rfl, ho4, F, hF, hF0⟩
              have hbox4 : w4.heap[wo.heap.size]? = some (.cells #[.int .i64 t.op, .int .i64 t.a, .int .i64 t.b] 60 (0, 0)) := (hF.block _ hsz3 (fun h => by have := hF0 _ h; omega)).trans HBOX.out
              have b1 : w4.cell? ⟨wo.heap.size, 0, none⟩ = some (.int .i64 t.op) := cell_of_row w4 _ 0 _ 60 (0, 0) hbox4
              have b2 : w4.cell? ⟨wo.heap.size, 1, none⟩ = some (.int .i64 t.a) := cell_of_row w4 _ 1 _ 60 (0, 0) hbox4
              have b3 : w4.cell? ⟨wo.heap.size, 2, none⟩ = some (.int .i64 t.b) := cell_of_row w4 _ 2 _ 60 (0, 0) hbox4
              clear hF hF0 hbox4
              have hinv4 : Ts.Inv (Ts.add s1 k) := HINV1.out.add hki
              have hlen4 : (Ts.add s1 k).inn.length = l.length := (Ts.add_length s1 k).trans HLEN1.out
              obtain ⟨gi4, ci4, hrd4⟩ := ho4.reads HL.out hlen4 (by omega) (by omega)
              have HOPEN := Lib.hid (open_any ho4 HL.out hlen4 (by omega) (by omega) hinv4 t HFIT.out)
              unfold tmV at HOPEN
              have q1 := hrd4.c1
              have q2 := hrd4.ins k (by rw [hlen4]; exact hlt)
              rw [Ts.add_has hki] at q2
              have q3 := hrd4.lb
              have q4 := hrd4.lg
              have q5 := hrd4.le
              have hk4 : k < (Ts.add s1 k).inn.length := by rw [hlen4]; exact hlt
              clear hrd4 ho4 hinv4 hlen4
              go_wp2_with fail
              refine HOPEN.out.mono ?_
              rintro e w5 ⟨rfl, ho5⟩
              have HO5 := Lib.hid ho5; clear ho5
              go_wp2
              go_roundw
              case rel => exact ⟨k + 1, hlt, by go_num, by rw [HVIS.out, HV.out]; exact HO5.out⟩
              case measure => simp [intOf]; omega
          · obtain rfl : k = l.length := by omega
            have HOW2 := Lib.hid (show SOwn w w2.heap.size (.slice A l.length c) (Ts.pass l s) wo from HOW1.out)
            have HINV2 := Lib.hid (show Ts.Inv (Ts.pass l s) from kp.inv HINV.out)
            have HLEN2 := Lib.hid (show (Ts.pass l s).inn.length = l.length from kp.len.trans HLEN.out)
            have hil2 := HINV2.out.le
            rw [HLEN2.out] at hil2
            clear HOW1 kp
            obtain ⟨Ao2, co2, c22⟩ := HOW2.out.ord
            by_cases hgt : s.order.length < (Ts.pass l s).order.length
            · have HGT := Lib.hid hgt
              have hgt' : decide (s.order.length < (Ts.pass l s).order.length) = true := by simp [hgt]
              go_wp2
              go_step3
              exact ⟨rfl, w2.heap.size, Ts.pass l s, _, _, _, _, _, _, _, _, _, _, _, _, _, _, _, _, _, _, _, _, _, _, _, _, _, _, _, _, _, _, _, _, _, _, _, _, _, _, _, _, _, _, _, _, _, _, _, _, _, _, _, _, _, _, _, _, _, _, _, _, _, _, _, _, _, _, _, _, _, _, _, _, _, _, _, _, _, rfl, HOW2.out, HLEN2.out, HINV2.out, HVALID.out, fun r hr => HE.out r (.more s r HGT.out hr)⟩
            · have hgt' : decide (s.order.length < (Ts.pass l s).order.length) = false := by simp [hgt]
              have HRES := Lib.hid (Ts.result_of HSH.out HVALID.out (HE.out _ (.last s (by omega))))
              have HRES2 := Lib.hid (show SOwn w w2.heap.size (.slice A l.length c) (Ts.result l known) wo by rw [HRES.out]; exact HOW2.out)
              go_wp2
              try simp only [Exit.jump]
              go_ret2
              exact .inl ⟨HVALID.out, _, rfl, HRES2.out⟩

  · rintro a w6 ⟨b, s, u1, u2, u3, u4, u5, u6, u8, u9, u10, u11, u12, u13, u14, u15, u16, u17, u18, u19, u20, u21, u22, u23, u24, u25, u26, u27, u28, u29, u30, u31, u32, u33, u34, u35, u36, u37, u38, u39, u40, u41, u42, u43, u44, u45, u46, u47, u48, u49, u50, u51, u52, u53, u54, u55, u56, u57, u58, u59, u60, u61, u62, u63, u64, u65, u66, u67, u68, u69, u70, u71, u72, u73, u74, u75, u76, u77, u78, rfl, how0, hlen0', hinv0, hval0, he0⟩
    have HOW0 := Lib.hid how0; have HLEN := Lib.hid hlen0'; have HINV := Lib.hid hinv0; have HE := Lib.hid he0; have HVALID := Lib.hid hval0
    clear how0 hlen0' hinv0 he0 hval0
    obtain ⟨Ao, co, c2⟩ := HOW0.out.ord
    have hil := HINV.out.le
    rw [HLEN.out] at hil
    have hlen0 : s.order.length ≤ 9223372036854775807 := by omega
    go_wp2
    go_loopw [11, 12, 49] (fun _ _ i' wr => ∃ k : Nat, k ≤ l.length ∧ i' = .int .i64 k ∧ SOwn w b (.slice A l.length c) (Ts.passTo l s k) wr) (fun _ _ i' _ => l.length - (intOf i').toNat)
    case atStart => exact ⟨0, Nat.zero_le _, rfl, HOW0.out⟩
    case round =>
      obtain ⟨k, hkk, rfl, how⟩ := hrel
      obtain ⟨wo, rfl⟩ : ∃ wo : World, wo = wr := ⟨_, rfl⟩
      have kp := Ts.keeps_passTo (K := fun _ => True) HSH.out HLEN.out k hkk
      have HOW1 := Lib.hid how; clear how
      by_cases hlt : k < l.length
      · have HVIS := Lib.hid (show Ts.passTo l s (k + 1) = Ts.visit l (Ts.passTo l s k) k from rfl)
        have HINV1 := Lib.hid (kp.inv HINV.out)
        have HLEN1 := Lib.hid (kp.len.trans HLEN.out)
        have HFIT := Lib.hid (Ts.fits HSH.out hlt)
        obtain ⟨g, off, rfl, hg, x1, x2, x3⟩ := (HL.out.below HOW1.out.below).at k hlt
        clear kp
        generalize Ts.passTo l s k = s1 at *
        obtain ⟨gi, ci, hrd⟩ := HOW1.out.reads HL.out HLEN1.out (by omega) (by omega)
        have hil1 := HINV1.out.le
        rw [HLEN1.out] at hil1
        have HRD := Lib.hid hrd; clear hrd
        have HVM := Lib.hid (fun (h : Ts.made l s1.inn (Ts.tm l k) = true) => Ts.visit_made (by rw [HLEN1.out]; exact hlt) h)
        have HVN := Lib.hid (fun (h : Ts.made l s1.inn (Ts.tm l k) = false) => Ts.visit_not h)
        have HMADE := Lib.hid (made_any (HRD.out.below ((Below.refl wo.heap.size wo).alloc (Nat.le_refl _) (.cells #[.int .i64 (Ts.tm l k).op, .int .i64 (Ts.tm l k).a, .int .i64 (Ts.tm l k).b] 60))) (Ts.tm l k) HFIT.out)
        unfold tmV at HMADE
        generalize Ts.tm l k = t at *
        go_wp2_with fail
        refine HMADE.out.mono ?_
        rintro e w3 ⟨rfl, hb3⟩
        have hlat : Below wo.heap.size wo w3 := ((Below.refl _ _).alloc (Nat.le_refl _) _).trans (hb3.mono (by simp))
        have hbox : w3.heap[wo.heap.size]? = some (.cells #[.int .i64 t.op, .int .i64 t.a, .int .i64 t.b] 60 (0, 0)) := (hb3.block wo.heap.size (by simp)).trans (heap_alloc_new wo _)
        have hsz3 : wo.heap.size < w3.heap.size := heap_lt hbox
        have HLAT := Lib.hid hlat; have HBOX := Lib.hid hbox
        clear hlat hbox hb3 HMADE
        cases hmade : Ts.made l s1.inn t
        · have HV := Lib.hid (HVN.out hmade)
          clear HVM HVN hmade
          have r3 := HRD.out.below HLAT.out
          have q1 := r3.c1
          have q2 := r3.ins k (by rw [HLEN1.out]; exact hlt)
          have q3 := r3.lb
          have q4 := r3.lg
          have q5 := r3.le
          have hki : k < s1.inn.length := by rw [HLEN1.out]; exact hlt
          clear r3
          by_cases hin : s1.inn.getD k false = true
          · rw [hin] at q2
            have b1 : w3.cell? ⟨wo.heap.size, 0, none⟩ = some (.int .i64 t.op) := cell_of_row w3 _ 0 _ 60 (0, 0) HBOX.out
            have b2 : w3.cell? ⟨wo.heap.size, 1, none⟩ = some (.int .i64 t.a) := cell_of_row w3 _ 1 _ 60 (0, 0) HBOX.out
            have b3 : w3.cell? ⟨wo.heap.size, 2, none⟩ = some (.int .i64 t.b) := cell_of_row w3 _ 2 _ 60 (0, 0) HBOX.out
            have HOPEN := Lib.hid (open_any (HOW1.out.later HLAT.out) HL.out HLEN1.out (by omega) (by omega) HINV1.out t HFIT.out)
            unfold tmV at HOPEN
            have HIN := Lib.hid hin; clear hin
            go_wp2_with fail
            refine HOPEN.out.mono ?_
            rintro e w4 ⟨rfl, ho4⟩
            have HO4 := Lib.hid ho4; clear ho4
            go_wp2
            go_roundw
            case rel => exact ⟨k + 1, hlt, by go_num, by rw [HVIS.out, HV.out, if_pos HIN.out]; exact HO4.out⟩
            case measure => simp [intOf]; omega
          · have hin' : s1.inn.getD k false = false := by simpa using hin
            rw [hin'] at q2
            have HIN := Lib.hid hin; clear hin hin'
            go_wp2
            go_roundw
            case rel => exact ⟨k + 1, hlt, by go_num, by rw [HVIS.out, HV.out, if_neg HIN.out]; exact HOW1.out.later HLAT.out⟩
            case measure => simp [intOf]; omega
        · have HV := Lib.hid (HVM.out hmade)
          clear HVM HVN hmade
          have hki : k < s1.inn.length := by rw [HLEN1.out]; exact hlt
          have HADD := Lib.hid (add_kept HOW1.out HLAT.out k hki (by omega))
          go_wp2_with fail
          refine HADD.out.mono ?_
          rintro e w4 ⟨rfl, ho4, F, hF, hF0⟩
          have hbox4 : w4.heap[wo.heap.size]? = some (.cells #[.int .i64 t.op, .int .i64 t.a, .int .i64 t.b] 60 (0, 0)) := (hF.block _ hsz3 (fun h => by have := hF0 _ h; omega)).trans HBOX.out
          have b1 : w4.cell? ⟨wo.heap.size, 0, none⟩ = some (.int .i64 t.op) := cell_of_row w4 _ 0 _ 60 (0, 0) hbox4
          have b2 : w4.cell? ⟨wo.heap.size, 1, none⟩ = some (.int .i64 t.a) := cell_of_row w4 _ 1 _ 60 (0, 0) hbox4
          have b3 : w4.cell? ⟨wo.heap.size, 2, none⟩ = some (.int .i64 t.b) := cell_of_row w4 _ 2 _ 60 (0, 0) hbox4
          clear hF hF0 hbox4
          have hinv4 : Ts.Inv (Ts.add s1 k) := HINV1.out.add hki
          have hlen4 : (Ts.add s1 k).inn.length = l.length := (Ts.add_length s1 k).trans HLEN1.out
          obtain ⟨gi4, ci4, hrd4⟩ := ho4.reads HL.out hlen4 (by omega) (by omega)
          have HOPEN := Lib.hid (open_any ho4 HL.out hlen4 (by omega) (by omega) hinv4 t HFIT.out)
          unfold tmV at HOPEN
          have q1 := hrd4.c1
          have q2 := hrd4.ins k (by rw [hlen4]; exact hlt)
          rw [Ts.add_has hki] at q2
          have q3 := hrd4.lb
          have q4 := hrd4.lg
          have q5 := hrd4.le
          have hk4 : k < (Ts.add s1 k).inn.length := by rw [hlen4]; exact hlt
          clear hrd4 ho4 hinv4 hlen4
          go_wp2_with fail
          refine HOPEN.out.mono ?_
          rintro e w5 ⟨rfl, ho5⟩
          have HO5 := Lib.hid ho5; clear ho5
          go_wp2
          go_roundw
          case rel => exact ⟨k + 1, hlt, by go_num, by rw [HVIS.out, HV.out]; exact HO5.out⟩
          case measure => simp [intOf]; omega
      · obtain rfl : k = l.length := by omega
        have HOW2 := Lib.hid (show SOwn w b (.slice A l.length c) (Ts.pass l s) wo from HOW1.out)
        have HINV2 := Lib.hid (show Ts.Inv (Ts.pass l s) from kp.inv HINV.out)
        have HLEN2 := Lib.hid (show (Ts.pass l s).inn.length = l.length from kp.len.trans HLEN.out)
        have hil2 := HINV2.out.le
        rw [HLEN2.out] at hil2
        clear HOW1 kp
        obtain ⟨Ao2, co2, c22⟩ := HOW2.out.ord
        by_cases hgt : s.order.length < (Ts.pass l s).order.length
        · have HGT := Lib.hid hgt
          have hgt' : decide (s.order.length < (Ts.pass l s).order.length) = true := by simp [hgt]
          go_wp2
          go_step3
          exact ⟨rfl, ⟨b, Ts.pass l s, _, _, _, _, _, _, _, _, _, _, _, _, _, _, _, _, _, _, _, _, _, _, _, _, _, _, _, _, _, _, _, _, _, _, _, _, _, _, _, _, _, _, _, _, _, _, _, _, _, _, _, _, _, _, _, _, _, _, _, _, _, _, _, _, _, _, _, _, _, _, _, _, _, _, _, _, _, rfl, HOW2.out, HLEN2.out, HINV2.out, HVALID.out, fun r hr => HE.out r (.more s r HGT.out hr)⟩, by rw [mu40_at HOW2.out _ rfl, mu40_at HOW0.out _ rfl]; have := HGT.out; have := HINV2.out.le; have := HLEN2.out; omega⟩
        · have hgt' : decide (s.order.length < (Ts.pass l s).order.length) = false := by simp [hgt]
          have HRES := Lib.hid (Ts.result_of HSH.out HVALID.out (HE.out _ (.last s (by omega))))
          have HRES2 := Lib.hid (show SOwn w b (.slice A l.length c) (Ts.result l known) wo by rw [HRES.out]; exact HOW2.out)
          go_wp2
          try simp only [Exit.jump]
          go_ret2
          exact .inl ⟨HVALID.out, _, rfl, HRES2.out⟩

end Go.Proofs.Ytffgechbmhgndaa
