/- YK -/
import Derived.Test.YtdejhenkdbjakaaDoorQM17
import Derived.Test.YtdejhenkdbjakaaDoorQM18
import Derived.RegionTactic
import Derived.RegionCalls
import Derived.Tactics2
set_option linter.unusedVariables false
set_option linter.unusedSimpArgs false
set_option maxRecDepth 100000
set_option maxHeartbeats 4000000
namespace Go.Proofs.YtdejhenkdbjakaaDoor
open Go Go.RowKit
def mkA (gm : Nat) (key : Nat → Nat) (d1 l1 : Int) (k1 : Nat → Nat) (d2 l2 : Int) (k2 : Nat → Nat) : Array Value := #[.pointer (some ⟨gm, 0, none⟩)] ++ arrF .u8 32 key ++ #[.int .u32 d1, .int .i32 l1, .int .u32 0, .string ⟨#[104, 105, 100, 101]⟩] ++ arrF .u8 32 k1 ++ #[.int .u32 d2, .int .i32 l2, .int .u32 0, .string ⟨#[116, 97, 103]⟩] ++ arrF .u8 32 k2
def hideK (key : Nat → Nat) : Nat → Nat := derK key [104, 105, 100, 101] []
def tagK (key : Nat → Nat) : Nat → Nat := derK key [116, 97, 103] []
theorem hideK_lt (key : Nat → Nat) (i : Nat) : hideK key i < 256 := derK_lt _ _ _ _
theorem tagK_lt (key : Nat → Nat) (i : Nat) : tagK key i < 256 := derK_lt _ _ _ _
theorem mk_lock1 (gm : Nat) (key k1 k2 : Nat → Nat) (d2 l2 : Int) : (mkA gm key 0 0 k1 d2 l2 k2).setIfInBounds 34 (.int .i32 1) = mkA gm key 0 1 k1 d2 l2 k2 := by kernel_rfl
theorem mk_at1 (gm : Nat) (key k1 k2 : Nat → Nat) (d2 l2 : Int) : (mkA gm key 0 0 k1 d2 l2 k2)[34]? = some (.int .i32 0) := by kernel_rfl
theorem mk_done1 (gm : Nat) (key k1 k2 : Nat → Nat) (d2 l2 : Int) : ((mkA gm key 0 1 k1 d2 l2 k2).setIfInBounds 33 (.int .u32 1)).setIfInBounds 34 (.int .i32 0) = mkA gm key 1 0 k1 d2 l2 k2 := by kernel_rfl
theorem mk_lock2 (gm : Nat) (key k1 k2 : Nat → Nat) (d1 l1 : Int) : (mkA gm key d1 l1 k1 0 0 k2).setIfInBounds 70 (.int .i32 1) = mkA gm key d1 l1 k1 0 1 k2 := by kernel_rfl
theorem mk_at2 (gm : Nat) (key k1 k2 : Nat → Nat) (d1 l1 : Int) : (mkA gm key d1 l1 k1 0 0 k2)[70]? = some (.int .i32 0) := by kernel_rfl
theorem mk_done2 (gm : Nat) (key k1 k2 : Nat → Nat) (d1 l1 : Int) : ((mkA gm key d1 l1 k1 0 1 k2).setIfInBounds 69 (.int .u32 1)).setIfInBounds 70 (.int .i32 0) = mkA gm key d1 l1 k1 1 0 k2 := by kernel_rfl
theorem Laid.apart3 {gm n xb : Nat} {C : Array Value} {w : World} (hW : Laid w) (hm : w.heap[gm]? = some (.cells (mtr n) 91 (0, 0))) (hs : w.heap[xb]? = some (.cells C 136 (0, 0))) : 0 ∉ [gm, xb] ∧ 1 ∉ [gm, xb] := by
  have a0 := ne_of_ty hW.start hm rfl
  have a1 := ne_of_ty hW.start hs rfl
  have b0 := ne_of_ty hW.rounds hm rfl
  have b1 := ne_of_ty hW.rounds hs rfl
  exact ⟨by simp [a0, a1], by simp [b0, b1]⟩
def tyO : Obj → Nat
  | .cells _ t _ => t
  | _ => 0
def AllH (w : World) : List Blk → Prop
  | [] => True
  | b :: L => w.heap[b.ad]? = some b.ob ∧ AllH w L
def nodupN : List Nat → Bool
  | [] => true
  | x :: l => l.all (fun y => !Nat.beq x y) && nodupN l
theorem AllH.at_ {w : World} : ∀ {L : List Blk}, AllH w L → ∀ p ∈ L, w.heap[p.ad]? = some p.ob
  | b :: L, h, p, hp => by
    rcases List.mem_cons.1 hp with rfl | hp
    · exact h.1
    · exact AllH.at_ h.2 p hp
theorem AllH.far {w : World} : ∀ {L : List Blk}, AllH w L → nodupN (L.map fun b => tyO b.ob) = true → L.Pairwise (fun p q => p.ad ≠ q.ad)
  | [], _, _ => List.Pairwise.nil
  | b :: L, h, ht => by
    simp only [List.map_cons, nodupN, Bool.and_eq_true, List.all_eq_true, List.mem_map] at ht
    refine List.pairwise_cons.2 ⟨fun q hq e => ?_, AllH.far h.2 ht.2⟩
    have h1 := h.1
    have h2 := AllH.at_ h.2 q hq
    rw [e, h2] at h1
    have h3 := ht.1 (tyO q.ob) ⟨q, hq, rfl⟩
    rw [Option.some.injEq] at h1
    rw [h1] at h3
    simp at h3
theorem Hp.startT {w : World} {X : List Nat} {L : List Blk} (hh : AllH w L) (ho : ∀ p ∈ L, p.own = true → p.ad ∈ X) (ht : nodupN (L.map fun b => tyO b.ob) = true) : Hp X w L w :=
  ⟨Kept.refl _ _, hh.at_, fun p hp h => .inr (ho p hp h), hh.far ht⟩

theorem lz1_hide (gm n xb bm bq bl : Nat) (key : Nat → Nat) (hkey : ∀ i, i < 32 → key i < 256) (d2 l2 : Int) (k2 : Nat → Nat) (kx : Nat → Nat) (w : World) (hW : Laid w) (hm : w.heap[gm]? = some (.cells (mtr n) 91 (0, 0))) (hs : w.heap[xb]? = some (.cells (mkA gm key 0 1 kx d2 l2 k2) 136 (0, 0))) (hbm : w.heap[bm]? = some (.cells #[.pointer (some ⟨gm, 0, none⟩)] 27 (0, 0))) (hbq : w.heap[bq]? = some (.cells (arrF .u8 32 key) 23 (0, 0))) (hbl : w.heap[bl]? = some (.cells #[.pointer (some ⟨xb, 33, none⟩)] 152 (0, 0))) : Calls Tryd.prog 104 #[.pointer (some ⟨bm, 0, none⟩), .pointer (some ⟨bq, 0, none⟩), .pointer (some ⟨bl, 0, none⟩)] w fun e w' => ∃ r : SlR, e = .returned (.tuple #[]) ∧ True ∧ Kept [gm, xb] w w' ∧ w'.heap[gm]? = some (.cells (mtr r.n) 91 (0, 0)) ∧ w'.heap[xb]? = some (.cells (mkA gm key 0 1 (hideK key) d2 l2 k2) 136 (0, 0)) := by
  obtain ⟨h00, h01⟩ := hW.apart3 hm hs
  obtain ⟨kf, hkf⟩ : ∃ kf, kf = (hideK key) := ⟨_, rfl⟩
  rw [← hkf]
  refine C_enter Tryd.func104 rfl 13 Tryd.ntmps104 (Nat.le_of_ble_eq_true rfl) (fun a F => ?_)
  have H := Hp.startT (X := [gm, xb]) (L := [bk gm (mtr n) 91, bk xb (mkA gm key 0 1 kx d2 l2 k2) 136, br bm #[pt gm 0] 27, br bq (arrF .u8 32 key) 23, br bl #[pt xb 33] 152]) ⟨hm, hs, hbm, hbq, hbl, trivial⟩ (by simp) kr
  replace F : Fm 13 [] [(0, pt bm 0), (1, pt bq 0), (2, pt bl 0)] a := F.weak _ (subL_of kr);refine E_region F H (fun β => [(3, pt xb 33), (4, pt gm 0), (5, kyV key), (6, pt xb 33), (7, pt xb 33), (8, pt xb 36), (9, .string ⟨#[104, 105, 100, 101]⟩), (10, kyV kf), (11, pt xb 33), (12, pt xb 37)]) [3, 4, 5, 6, 7, 8, 9, 10, 11, 12] [⟨none, none, gm, [], fun q_ => ce (mtr n) 91, gT, [⟨7, [7], fun q_ => ce (mtr (gh q_ 0).n) 91, gT⟩]⟩,
    ⟨none, none, xb, [], fun q_ => ce (mkA gm key 0 1 kx d2 l2 k2) 136, gT, [⟨10, [], fun q_ => ce (#[pt gm 0] ++ (arrF .u8 32 key) ++ #[.int .u32 0, .int .i32 1, .int .u32 0, .string ⟨#[104, 105, 100, 101]⟩] ++ (arrF .u8 32 kf) ++ #[.int .u32 d2, .int .i32 l2, .int .u32 0, .string ⟨#[116, 97, 103]⟩] ++ (arrF .u8 32 k2)) 136, gT⟩]⟩] [br bm #[pt gm 0] 27, br bq (arrF .u8 32 key) 23, br bl #[pt xb 33] 152] [0, 1, 2, 3, 4] 2 [] kr kr kr (fun β => rfl) ⟨fun _ _ => trivial, ⟨fun _ _ => trivial, trivial⟩⟩ ⟨?_, ?_, ?_, ?_, ?_, ?_, ?_, ?_, ?_, ?_, ?_, trivial⟩ ?_
  · exact E_v 13 (fun β => pt xb 33) 3 2 [] (fun β w hk hl hq => R_cellH hl (own := false) (g := bl) (all := #[pt xb 33]) (t := 152) (fr := (0, 0)) 2 kr 152 (.tmp 2) rfl 0 kr (pt xb 33) kr _ Tryd.underlying152 rfl)
  · exact E_v 13 (fun β => pt gm 0) 4 2 [] (fun β w hk hl hq => R_cellH hl (own := false) (g := bm) (all := #[pt gm 0]) (t := 27) (fr := (0, 0)) 0 kr 27 (.tmp 0) rfl 0 kr (pt gm 0) kr _ Tryd.underlying27 rfl)
  · exact E_v 13 (fun β => kyV key) 5 2 [] (fun β w hk hl hq => R_loadH hl (own := false) (g := bq) (all := (arrF .u8 32 key)) (t := 23) (fr := (0, 0)) 1 kr 23 (.tmp 1) rfl 0 kr (arrF .u8 32 key) (part_all _) _ Tryd.underlying23 rfl (by rw [arrF_size]; kernel_rfl))
  · exact E_v 13 (fun β => pt xb 33) 6 2 [] (fun β w hk hl hq => R_cellH hl (own := false) (g := bl) (all := #[pt xb 33]) (t := 152) (fr := (0, 0)) 2 kr 152 (.tmp 2) rfl 0 kr (pt xb 33) kr _ Tryd.underlying152 rfl)
  · exact E_k 13 (fun β => pt xb 33) 7 2
  · exact E_k 13 (fun β => pt xb 36) 8 2
  · exact E_v 13 (fun β => .string ⟨#[104, 105, 100, 101]⟩) 9 2 [(1, 0)] (fun β w hk hl hq => R_cellH hl (own := true) (g := xb) (all := (mkA gm key 0 1 kx d2 l2 k2)) (t := 136) (fr := (0, 0)) 0 kr 9 (.tmp 8) rfl 36 kr (.string ⟨#[104, 105, 100, 101]⟩) kr _ Tryd.underlying9 rfl)
  · exact E_callP 13 kq (fun β => kyV kf) 10 rfl kq 2 (fun β r => offAt2_of kr kr) 85 (fun β => #[pt gm 0, kyV key, .string ⟨#[104, 105, 100, 101]⟩, .slice none 0 0]) (fun β w => kr) 2 [] 0 0 _ _ rfl rfl kr kr rfl (fun β w hk hl hq hm => (der0_hide gm n key hkey _ (hW.kept hk h00 h01) hm).mono (fun _ _ ⟨r, q1, q2, q3⟩ => ⟨r, by rw [q1, hkf]; rfl, trivial, q3⟩))
  · exact E_k 13 (fun β => pt xb 33) 11 2
  · exact E_k 13 (fun β => pt xb 37) 12 2
  · exact E_store 13 kq rfl 2 [] 1 0 _ _ rfl rfl kr rfl (fun _ => trivial) (fun β w hk hl hq hm => let ⟨w', h1, h2, h3⟩ := P_part (off := 37) (cs := (arrF .u8 32 kf)) (old := (mkA gm key 0 1 kx d2 l2 k2)) rfl kr (ty := 23) rfl kr kr kr (Nat.le_of_ble_eq_true kr) kr hm; ⟨w', h1, h2, h3⟩)
  clear F H; intro β a v Q F H;replace H : Hp [gm, xb] w [bk gm (mtr (β 7).n) 91, bk xb (#[pt gm 0] ++ (arrF .u8 32 key) ++ #[.int .u32 0, .int .i32 1, .int .u32 0, .string ⟨#[104, 105, 100, 101]⟩] ++ (arrF .u8 32 kf) ++ #[.int .u32 d2, .int .i32 l2, .int .u32 0, .string ⟨#[116, 97, 103]⟩] ++ (arrF .u8 32 k2)) 136, br bm #[pt gm 0] 27, br bq (arrF .u8 32 key) 23, br bl #[pt xb 33] 152] v := H;replace F : Fm 13 [] [(12, pt xb 37), (11, pt xb 33), (10, kyV kf), (9, .string ⟨#[104, 105, 100, 101]⟩), (8, pt xb 36), (7, pt xb 33), (6, pt xb 33), (5, kyV key), (4, pt gm 0), (3, pt xb 33), (0, pt bm 0), (1, pt bq 0), (2, pt bl 0)] a := F.weak _ (subL_of kr);clear Q
  generalize β 7 = rq1 at F H
  skip
  refine ?_
  have hsg : (((#[pt gm 0] ++ (arrF .u8 32 key) ++ #[.int .u32 0, .int .i32 1, .int .u32 0, .string ⟨#[104, 105, 100, 101]⟩] ++ (arrF .u8 32 kf) ++ #[.int .u32 d2, .int .i32 l2, .int .u32 0, .string ⟨#[116, 97, 103]⟩] ++ (arrF .u8 32 k2))) : Array Value) = mkA gm key 0 1 kf d2 l2 k2 := kr
  rw [hsg] at H
  exact C_end F rfl ⟨⟨0, 0, [], rq1.n⟩, rfl, trivial, H.kept, H.at_ (k := 0) rfl, H.at_ (k := 1) rfl⟩

theorem lzS_hide (gm n xb bm bq bl : Nat) (key : Nat → Nat) (hkey : ∀ i, i < 32 → key i < 256) (d2 l2 : Int) (k2 : Nat → Nat) (kx : Nat → Nat) (w : World) (hW : Laid w) (hm : w.heap[gm]? = some (.cells (mtr n) 91 (0, 0))) (hs : w.heap[xb]? = some (.cells (mkA gm key 0 0 kx d2 l2 k2) 136 (0, 0))) (hbm : w.heap[bm]? = some (.cells #[.pointer (some ⟨gm, 0, none⟩)] 27 (0, 0))) (hbq : w.heap[bq]? = some (.cells (arrF .u8 32 key) 23 (0, 0))) (hbl : w.heap[bl]? = some (.cells #[.pointer (some ⟨xb, 33, none⟩)] 152 (0, 0))) : Calls Tryd.prog 84 #[.pointer (some ⟨xb, 33, none⟩), .func (.func 104) #[] #[.pointer (some ⟨bm, 0, none⟩), .pointer (some ⟨bq, 0, none⟩), .pointer (some ⟨bl, 0, none⟩)]] w fun e w' => ∃ r : SlR, e = .returned (.tuple #[]) ∧ True ∧ Kept [gm, xb] w w' ∧ w'.heap[gm]? = some (.cells (mtr r.n) 91 (0, 0)) ∧ w'.heap[xb]? = some (.cells (mkA gm key 1 0 (hideK key) d2 l2 k2) 136 (0, 0)) := by
  obtain ⟨h00, h01⟩ := hW.apart3 hm hs
  refine C_enterD Tryd.func84 rfl 21 Tryd.ntmps84 (Nat.le_of_ble_eq_true rfl) (fun a F => ?_)
  have H := Hp.startT (X := [gm, xb]) (L := [bk gm (mtr n) 91, bk xb (mkA gm key 0 0 kx d2 l2 k2) 136, br bm #[pt gm 0] 27, br bq (arrF .u8 32 key) 23, br bl #[pt xb 33] 152]) ⟨hm, hs, hbm, hbq, hbl, trivial⟩ (by simp) kr
  replace F : Fm 21 [] [(0, pt xb 33), (1, .func (.func 104) #[] #[pt bm 0, pt bq 0, pt bl 0])] a := F.weak _ (subL_of kr);refine C_seqK fun K1 hK1 => C_region ?_;refine T_k F H (pt xb 33) ?_;clear F; intro a F;refine T_k F H (pt xb 33) ?_;clear F; intro a F;refine T_k F H (pt xb 34) ?_;clear F; intro a F;refine T_callX (α := SlR) F H kr 77 #[pt xb 34] (fun rX => .tuple #[]) (fun rX => [bk gm (mtr n) 91, bk xb (mkA gm key 0 1 kx d2 l2 k2) 136, br bm #[pt gm 0] 27, br bq (arrF .u8 32 key) 23, br bl #[pt xb 33] 152]) (fun rX => True) (fun w => kr) (fun w H => callsX_putV H (k := 1) rfl ((by have h := lock_row xb 34 _ (H.at_ (k := 1) rfl) (mk_at1 gm key kx k2 d2 l2); rw [mk_lock1 gm key kx k2 d2 l2] at h; exact h.mono (fun _ _ ⟨q1, q2, q3⟩ => ⟨r0, q1, trivial, q2, q3⟩)))) ?_;clear F H; intro rq2 a v Qrq2 F H;refine wpList_nil (hK1 _ _ ?_);clear hK1;refine C_seqK fun K3 hK3 => C_region ?_;refine T_k F H (pt xb 33) ?_;clear F; intro a F;refine T_k F H (pt xb 33) ?_;clear F; intro a F;refine T_k F H (pt xb 34) ?_;clear F; intro a F;refine T_defer F kr { target := .fn (.func 78) #[], args := #[pt xb 34] } (fun w => kr) ?_;clear F; intro a F;refine wpList_nil (hK3 _ _ ?_);clear hK3;refine C_seqK fun K4 hK4 => C_region ?_;refine T_k F H (pt xb 33) ?_;clear F; intro a F;refine T_k F H (pt xb 33) ?_;clear F; intro a F;refine T_k F H (pt xb 33) ?_;clear F; intro a F;refine T_call F H kr 83 #[pt xb 33] (.bool false) (fun w => kr) (load_row xb 33 0 _ (H.at_ (k := 1) rfl) kr) ?_;clear F H; intro a v F H;refine T_k F H (.bool true) ?_;clear F; intro a F;refine wpList_nil (hK4 _ _ ?_);clear hK4;refine C_if F true rfl rfl ?_;refine C_seqK fun K5 hK5 => C_region ?_;refine T_k F H (pt xb 33) ?_;clear F; intro a F;refine T_k F H (pt xb 33) ?_;clear F; intro a F;refine T_k F H (pt xb 33) ?_;clear F; intro a F;refine T_defer F kr { target := .fn (.func 103) #[], args := #[pt xb 33, .bool true] } (fun w => kr) ?_;clear F; intro a F;refine wpList_nil (hK5 _ _ ?_);clear hK5;refine C_region ?_;refine T_k F H (.func (.func 104) #[] #[pt bm 0, pt bq 0, pt bl 0]) ?_;clear F; intro a F;refine T_callX (α := SlR) F H kr 104 #[pt bm 0, pt bq 0, pt bl 0] (fun rX => .tuple #[]) (fun rX => [bk gm (mtr rX.n) 91, bk xb (mkA gm key 0 1 (hideK key) d2 l2 k2) 136, br bm #[pt gm 0] 27, br bq (arrF .u8 32 key) 23, br bl #[pt xb 33] 152]) (fun rX => True) (fun w => kr) (fun w H => callsX_put2 H (k := 0) (k2 := 1) rfl rfl (by decide) (lz1_hide gm n xb bm bq bl key hkey d2 l2 k2 kx _ (hW.kept H.kept h00 h01) (H.at_ (k := 0) rfl) (H.at_ (k := 1) rfl) (H.at_ (k := 2) rfl) (H.at_ (k := 3) rfl) (H.at_ (k := 4) rfl))) ?_;clear F H; intro rq6 a v Qrq6 F H;refine wpList_nil ?_
  show Leaves _ _ a.tmps _ a.defers .returning v
  rw [F.df]
  have hgm := H.at_ (k := 0) rfl
  have hbk := H.at_ (k := 1) rfl
  have hK := H.kept
  have hne := H.apart (i := 0) (j := 1) rfl rfl (by decide)
  clear F H
  have hdone := mk_done1 gm key (hideK key) k2 d2 l2
  have c65 : (mkA gm key 0 1 (hideK key) d2 l2 k2)[33]? = some (.int .u32 0) := kr
  have c66 : ((mkA gm key 0 1 (hideK key) d2 l2 k2).setIfInBounds 33 (.int .u32 1))[34]? = some (.int .i32 1) := kr
  generalize mkA gm key 0 1 (hideK key) d2 l2 k2 = C at hbk hdone c65 c66
  refine leaves_cons (f := 103) (args := #[pt xb 33, .bool true]) (by simp) kr ?_;refine (store_deferred ⟨xb, 33, none⟩ (.int .u32 0) .returning v (by rw [cell_of_row v xb 33 C 136 (0, 0) hbk]; exact c65) (frozen_of_row v xb 33 C 136 hbk)).mono ?_
  rintro e u' v1 ⟨rfl, rfl, hv1⟩
  have hb1 : v1.heap[xb]? = some (ce (C.setIfInBounds 33 (.int .u32 1)) 136) := by subst hv1; exact heap_setCell_same v.drew xb 33 C 136 _ hbk
  have hk1 : Kept [xb] v v1 := by subst hv1; exact ⟨rfl, rfl, rfl, by simp [World.setCell], fun k _ hk => heap_setCell_other _ _ _ _ (by simpa using hk)⟩
  clear hv1;refine leaves_cons (f := 78) (args := #[pt xb 34]) (by simp [settle]) kr ?_;refine (unlock_deferred ⟨xb, 34, none⟩ _ v1 (by rw [cell_of_row v1 xb 34 _ 136 (0, 0) hb1]; exact c66) (frozen_of_row v1 xb 34 _ 136 hb1)).mono ?_
  rintro e u' v2 ⟨rfl, rfl, hv2⟩
  have hb2 : v2.heap[xb]? = some (ce ((C.setIfInBounds 33 (.int .u32 1)).setIfInBounds 34 (.int .i32 0)) 136) := by subst hv2; exact heap_setCell_same v1 xb 34 _ 136 _ hb1
  have hk2 : Kept [xb] v1 v2 := by subst hv2; exact ⟨rfl, rfl, rfl, by simp [World.setCell], fun k _ hk => heap_setCell_other _ _ _ _ (by simpa using hk)⟩
  have hk12 := hk1.trans (fun y hy => .inr hy) hk2
  refine ⟨.tuple #[], results_none rfl _ _ _, ⟨0, 0, [], rq6.n⟩, rfl, trivial, hK.trans (fun y hy => .inr (by simp only [List.mem_singleton] at hy; subst hy; simp)) hk12, ?_, ?_⟩
  · exact (hk12.block _ (heap_in hgm) (by simpa using hne)).trans hgm
  · rw [hb2, hdone]

theorem lzD_hide (gm n xb bm bq bl : Nat) (key : Nat → Nat) (hkey : ∀ i, i < 32 → key i < 256) (d2 l2 : Int) (k2 : Nat → Nat) (kx : Nat → Nat) (w : World) (hW : Laid w) (hm : w.heap[gm]? = some (.cells (mtr n) 91 (0, 0))) (hs : w.heap[xb]? = some (.cells (mkA gm key 0 0 kx d2 l2 k2) 136 (0, 0))) (hbm : w.heap[bm]? = some (.cells #[.pointer (some ⟨gm, 0, none⟩)] 27 (0, 0))) (hbq : w.heap[bq]? = some (.cells (arrF .u8 32 key) 23 (0, 0))) (hbl : w.heap[bl]? = some (.cells #[.pointer (some ⟨xb, 33, none⟩)] 152 (0, 0))) : Calls Tryd.prog 52 #[.pointer (some ⟨xb, 33, none⟩), .func (.func 104) #[] #[.pointer (some ⟨bm, 0, none⟩), .pointer (some ⟨bq, 0, none⟩), .pointer (some ⟨bl, 0, none⟩)]] w fun e w' => ∃ r : SlR, e = .returned (.tuple #[]) ∧ True ∧ Kept [gm, xb] w w' ∧ w'.heap[gm]? = some (.cells (mtr r.n) 91 (0, 0)) ∧ w'.heap[xb]? = some (.cells (mkA gm key 1 0 (hideK key) d2 l2 k2) 136 (0, 0)) := by
  obtain ⟨h00, h01⟩ := hW.apart3 hm hs
  refine C_enter Tryd.func52 rfl 12 Tryd.ntmps52 (Nat.le_of_ble_eq_true rfl) (fun a F => ?_)
  have H := Hp.startT (X := [gm, xb]) (L := [bk gm (mtr n) 91, bk xb (mkA gm key 0 0 kx d2 l2 k2) 136, br bm #[pt gm 0] 27, br bq (arrF .u8 32 key) 23, br bl #[pt xb 33] 152]) ⟨hm, hs, hbm, hbq, hbl, trivial⟩ (by simp) kr
  replace F : Fm 12 [] [(0, pt xb 33), (1, .func (.func 104) #[] #[pt bm 0, pt bq 0, pt bl 0])] a := F.weak _ (subL_of kr);refine C_seqK fun K1 hK1 => C_region ?_;refine T_k F H (pt xb 33) ?_;clear F; intro a F;refine T_k F H (pt xb 33) ?_;clear F; intro a F;refine T_k F H (pt xb 33) ?_;clear F; intro a F;refine T_call F H kr 83 #[pt xb 33] (.bool false) (fun w => kr) (load_row xb 33 0 _ (H.at_ (k := 1) rfl) kr) ?_;clear F H; intro a v F H;refine T_k F H (.bool true) ?_;clear F; intro a F;refine wpList_nil (hK1 _ _ ?_);clear hK1;refine C_if F true rfl rfl ?_;refine C_region ?_;refine T_k F H (pt xb 33) ?_;clear F; intro a F;refine T_k F H (.func (.func 104) #[] #[pt bm 0, pt bq 0, pt bl 0]) ?_;clear F; intro a F;refine T_callX (α := SlR) F H kr 84 #[pt xb 33, .func (.func 104) #[] #[pt bm 0, pt bq 0, pt bl 0]] (fun rX => .tuple #[]) (fun rX => [bk gm (mtr rX.n) 91, bk xb (mkA gm key 1 0 (hideK key) d2 l2 k2) 136, br bm #[pt gm 0] 27, br bq (arrF .u8 32 key) 23, br bl #[pt xb 33] 152]) (fun rX => True) (fun w => kr) (fun w H => callsX_put2 H (k := 0) (k2 := 1) rfl rfl (by decide) (lzS_hide gm n xb bm bq bl key hkey d2 l2 k2 kx _ (hW.kept H.kept h00 h01) (H.at_ (k := 0) rfl) (H.at_ (k := 1) rfl) (H.at_ (k := 2) rfl) (H.at_ (k := 3) rfl) (H.at_ (k := 4) rfl))) ?_;clear F H; intro rq2 a v Qrq2 F H;refine wpList_nil ?_
  exact C_end F rfl ⟨⟨0, 0, [], rq2.n⟩, rfl, trivial, H.kept, H.at_ (k := 0) rfl, H.at_ (k := 1) rfl⟩

theorem lzOf_hide (gm n xb : Nat) (key : Nat → Nat) (hkey : ∀ i, i < 32 → key i < 256) (d2 l2 : Int) (k2 : Nat → Nat) (kx : Nat → Nat) (w : World) (hW : Laid w) (hm : w.heap[gm]? = some (.cells (mtr n) 91 (0, 0))) (hs : w.heap[xb]? = some (.cells (mkA gm key 0 0 kx d2 l2 k2) 136 (0, 0))) : Calls Tryd.prog 89 #[.pointer (some ⟨xb, 33, none⟩), .pointer (some ⟨gm, 0, none⟩), .agg (arrF .u8 32 key)] w fun e w' => ∃ r : SlR, e = .returned (.agg (arrF .u8 32 (hideK key))) ∧ True ∧ Kept [gm, xb] w w' ∧ w'.heap[gm]? = some (.cells (mtr r.n) 91 (0, 0)) ∧ w'.heap[xb]? = some (.cells (mkA gm key 1 0 (hideK key) d2 l2 k2) 136 (0, 0)) := by
  obtain ⟨h00, h01⟩ := hW.apart3 hm hs
  obtain ⟨kf, hkf⟩ : ∃ kf, kf = (hideK key) := ⟨_, rfl⟩
  rw [← hkf]
  refine C_enter Tryd.func89 rfl 16 Tryd.ntmps89 (Nat.le_of_ble_eq_true rfl) (fun a F => ?_)
  have H := Hp.startT (X := [gm, xb]) (L := [bk gm (mtr n) 91, bk xb (mkA gm key 0 0 kx d2 l2 k2) 136]) ⟨hm, hs, trivial⟩ (by simp) kr
  replace F : Fm 16 [] [(0, pt xb 33), (1, pt gm 0), (2, kyV key)] a := F.weak _ (subL_of kr);refine C_seqK fun K1 hK1 => C_region ?_;refine T_new F H kr (fun ad => pt ad 0) (ce #[pt xb 33] 152) (fun w => kr) ?_;clear F H; intro aq2 a v F H;refine T_new F H kr (fun ad => pt ad 0) (ce #[pt gm 0] 27) (fun w => kr) ?_;clear F H; intro aq3 a v F H;refine T_new F H kr (fun ad => pt ad 0) (ce (arrF .u8 32 key) 23) (fun w => kr) ?_;clear F H; intro aq4 a v F H;refine T_new F H kr (fun ad => pt ad 0) (ce z8 23) (fun w => kr) ?_;clear F H; intro aq5 a v F H;refine wpList_nil (hK1 _ _ ?_);clear hK1;refine C_seqK fun K6 hK6 => C_region ?_;refine T_val F H kr (pt xb 33) (R_cell (own := true) (g := aq2) (all := #[pt xb 33]) (t := 152) (fr := (0, 0)) 3 kr 152 (.tmp 3) rfl 0 kr (pt xb 33) kr _ Tryd.underlying152 rfl) ?_;clear F; intro a F;refine T_k F H (pt xb 33) ?_;clear F; intro a F;refine T_k F H (pt xb 33) ?_;clear F; intro a F;refine T_k F H (.func (.func 104) #[] #[pt aq3 0, pt aq4 0, pt aq2 0]) ?_;clear F; intro a F;refine T_callX (α := SlR) F H kr 52 #[pt xb 33, .func (.func 104) #[] #[pt aq3 0, pt aq4 0, pt aq2 0]] (fun rX => .tuple #[]) (fun rX => [bk aq5 z8 23, bk aq4 (arrF .u8 32 key) 23, bk aq3 #[pt gm 0] 27, bk aq2 #[pt xb 33] 152, bk gm (mtr rX.n) 91, bk xb (mkA gm key 1 0 kf d2 l2 k2) 136]) (fun rX => True) (fun w => kr) (fun w H => callsX_put2 H (k := 4) (k2 := 5) rfl rfl (by decide) ((by rw [hkf]; exact lzD_hide gm n xb aq3 aq4 aq2 key hkey d2 l2 k2 kx _ (hW.kept H.kept h00 h01) (H.at_ (k := 4) rfl) (H.at_ (k := 5) rfl) (H.at_ (k := 2) rfl) (H.at_ (k := 1) rfl) (H.at_ (k := 3) rfl)))) ?_;clear F H; intro rq7 a v Qrq7 F H;refine wpList_nil (hK6 _ _ ?_);clear hK6;refine C_seqK fun K8 hK8 => C_region ?_;refine T_val F H kr (pt xb 33) (R_cell (own := true) (g := aq2) (all := #[pt xb 33]) (t := 152) (fr := (0, 0)) 3 kr 152 (.tmp 3) rfl 0 kr (pt xb 33) kr _ Tryd.underlying152 rfl) ?_;clear F; intro a F;refine T_k F H (pt xb 33) ?_;clear F; intro a F;refine T_k F H (pt xb 37) ?_;clear F; intro a F;refine T_val F H kr (kyV kf) (R_load (own := true) (g := xb) (all := (mkA gm key 1 0 kf d2 l2 k2)) (t := 136) (fr := (0, 0)) 5 kr 23 (.tmp 14) rfl 37 kr (arrF .u8 32 kf) (part_ext kr) _ Tryd.underlying23 rfl kr) ?_;clear F; intro a F;refine T_set F H kr rfl 0 rfl (arrF .u8 32 kf) (S_row 0 rfl 23 (.tmp 6) (.tmp 15) rfl kr (arrF .u8 32 kf) kr (by rw [arrF_size]; kernel_rfl) (by rw [arrF_size]; kernel_rfl) (arrF_one _ _ _)) [bk aq5 (arrF .u8 32 kf) 23, bk aq4 (arrF .u8 32 key) 23, bk aq3 #[pt gm 0] 27, bk aq2 #[pt xb 33] 152, bk gm (mtr rq7.n) 91, bk xb (mkA gm key 1 0 kf d2 l2 k2) 136] rfl ?_;clear F H; intro a v F H;refine wpList_nil (hK8 _ _ ?_);clear hK8;refine wp_ret ?_
  exact C_ret F H (rs := [.cell 6 23]) rfl (vs := [kyV kf]) (.row 0 rfl rfl _ Tryd.underlying23 rfl kr .nil) (kyV kf) rfl ⟨⟨0, 0, [], rq7.n⟩, rfl, trivial, H.kept, H.at_ (k := 4) rfl, H.at_ (k := 5) rfl⟩

theorem lz1_tag (gm n xb bm bq bl : Nat) (key : Nat → Nat) (hkey : ∀ i, i < 32 → key i < 256) (d1 l1 : Int) (k1 : Nat → Nat) (kx : Nat → Nat) (w : World) (hW : Laid w) (hm : w.heap[gm]? = some (.cells (mtr n) 91 (0, 0))) (hs : w.heap[xb]? = some (.cells (mkA gm key d1 l1 k1 0 1 kx) 136 (0, 0))) (hbm : w.heap[bm]? = some (.cells #[.pointer (some ⟨gm, 0, none⟩)] 27 (0, 0))) (hbq : w.heap[bq]? = some (.cells (arrF .u8 32 key) 23 (0, 0))) (hbl : w.heap[bl]? = some (.cells #[.pointer (some ⟨xb, 69, none⟩)] 152 (0, 0))) : Calls Tryd.prog 104 #[.pointer (some ⟨bm, 0, none⟩), .pointer (some ⟨bq, 0, none⟩), .pointer (some ⟨bl, 0, none⟩)] w fun e w' => ∃ r : SlR, e = .returned (.tuple #[]) ∧ True ∧ Kept [gm, xb] w w' ∧ w'.heap[gm]? = some (.cells (mtr r.n) 91 (0, 0)) ∧ w'.heap[xb]? = some (.cells (mkA gm key d1 l1 k1 0 1 (tagK key)) 136 (0, 0)) := by
  obtain ⟨h00, h01⟩ := hW.apart3 hm hs
  obtain ⟨kf, hkf⟩ : ∃ kf, kf = (tagK key) := ⟨_, rfl⟩
  rw [← hkf]
  refine C_enter Tryd.func104 rfl 13 Tryd.ntmps104 (Nat.le_of_ble_eq_true rfl) (fun a F => ?_)
  have H := Hp.startT (X := [gm, xb]) (L := [bk gm (mtr n) 91, bk xb (mkA gm key d1 l1 k1 0 1 kx) 136, br bm #[pt gm 0] 27, br bq (arrF .u8 32 key) 23, br bl #[pt xb 69] 152]) ⟨hm, hs, hbm, hbq, hbl, trivial⟩ (by simp) kr
  replace F : Fm 13 [] [(0, pt bm 0), (1, pt bq 0), (2, pt bl 0)] a := F.weak _ (subL_of kr);refine E_region F H (fun β => [(3, pt xb 69), (4, pt gm 0), (5, kyV key), (6, pt xb 69), (7, pt xb 69), (8, pt xb 72), (9, .string ⟨#[116, 97, 103]⟩), (10, kyV kf), (11, pt xb 69), (12, pt xb 73)]) [3, 4, 5, 6, 7, 8, 9, 10, 11, 12] [⟨none, none, gm, [], fun q_ => ce (mtr n) 91, gT, [⟨7, [7], fun q_ => ce (mtr (gh q_ 0).n) 91, gT⟩]⟩,
    ⟨none, none, xb, [], fun q_ => ce (mkA gm key d1 l1 k1 0 1 kx) 136, gT, [⟨10, [], fun q_ => ce (#[pt gm 0] ++ (arrF .u8 32 key) ++ #[.int .u32 d1, .int .i32 l1, .int .u32 0, .string ⟨#[104, 105, 100, 101]⟩] ++ (arrF .u8 32 k1) ++ #[.int .u32 0, .int .i32 1, .int .u32 0, .string ⟨#[116, 97, 103]⟩] ++ (arrF .u8 32 kf)) 136, gT⟩]⟩] [br bm #[pt gm 0] 27, br bq (arrF .u8 32 key) 23, br bl #[pt xb 69] 152] [0, 1, 2, 3, 4] 2 [] kr kr kr (fun β => rfl) ⟨fun _ _ => trivial, ⟨fun _ _ => trivial, trivial⟩⟩ ⟨?_, ?_, ?_, ?_, ?_, ?_, ?_, ?_, ?_, ?_, ?_, trivial⟩ ?_
  · exact E_v 13 (fun β => pt xb 69) 3 2 [] (fun β w hk hl hq => R_cellH hl (own := false) (g := bl) (all := #[pt xb 69]) (t := 152) (fr := (0, 0)) 2 kr 152 (.tmp 2) rfl 0 kr (pt xb 69) kr _ Tryd.underlying152 rfl)
  · exact E_v 13 (fun β => pt gm 0) 4 2 [] (fun β w hk hl hq => R_cellH hl (own := false) (g := bm) (all := #[pt gm 0]) (t := 27) (fr := (0, 0)) 0 kr 27 (.tmp 0) rfl 0 kr (pt gm 0) kr _ Tryd.underlying27 rfl)
  · exact E_v 13 (fun β => kyV key) 5 2 [] (fun β w hk hl hq => R_loadH hl (own := false) (g := bq) (all := (arrF .u8 32 key)) (t := 23) (fr := (0, 0)) 1 kr 23 (.tmp 1) rfl 0 kr (arrF .u8 32 key) (part_all _) _ Tryd.underlying23 rfl (by rw [arrF_size]; kernel_rfl))
  · exact E_v 13 (fun β => pt xb 69) 6 2 [] (fun β w hk hl hq => R_cellH hl (own := false) (g := bl) (all := #[pt xb 69]) (t := 152) (fr := (0, 0)) 2 kr 152 (.tmp 2) rfl 0 kr (pt xb 69) kr _ Tryd.underlying152 rfl)
  · exact E_k 13 (fun β => pt xb 69) 7 2
  · exact E_k 13 (fun β => pt xb 72) 8 2
  · exact E_v 13 (fun β => .string ⟨#[116, 97, 103]⟩) 9 2 [(1, 0)] (fun β w hk hl hq => R_cellH hl (own := true) (g := xb) (all := (mkA gm key d1 l1 k1 0 1 kx)) (t := 136) (fr := (0, 0)) 0 kr 9 (.tmp 8) rfl 72 kr (.string ⟨#[116, 97, 103]⟩) kr _ Tryd.underlying9 rfl)
  · exact E_callP 13 kq (fun β => kyV kf) 10 rfl kq 2 (fun β r => offAt2_of kr kr) 85 (fun β => #[pt gm 0, kyV key, .string ⟨#[116, 97, 103]⟩, .slice none 0 0]) (fun β w => kr) 2 [] 0 0 _ _ rfl rfl kr kr rfl (fun β w hk hl hq hm => (der0_tag gm n key hkey _ (hW.kept hk h00 h01) hm).mono (fun _ _ ⟨r, q1, q2, q3⟩ => ⟨r, by rw [q1, hkf]; rfl, trivial, q3⟩))
  · exact E_k 13 (fun β => pt xb 69) 11 2
  · exact E_k 13 (fun β => pt xb 73) 12 2
  · exact E_store 13 kq rfl 2 [] 1 0 _ _ rfl rfl kr rfl (fun _ => trivial) (fun β w hk hl hq hm => let ⟨w', h1, h2, h3⟩ := P_part (off := 73) (cs := (arrF .u8 32 kf)) (old := (mkA gm key d1 l1 k1 0 1 kx)) rfl kr (ty := 23) rfl kr kr kr (Nat.le_of_ble_eq_true kr) kr hm; ⟨w', h1, h2, h3⟩)
  clear F H; intro β a v Q F H;replace H : Hp [gm, xb] w [bk gm (mtr (β 7).n) 91, bk xb (#[pt gm 0] ++ (arrF .u8 32 key) ++ #[.int .u32 d1, .int .i32 l1, .int .u32 0, .string ⟨#[104, 105, 100, 101]⟩] ++ (arrF .u8 32 k1) ++ #[.int .u32 0, .int .i32 1, .int .u32 0, .string ⟨#[116, 97, 103]⟩] ++ (arrF .u8 32 kf)) 136, br bm #[pt gm 0] 27, br bq (arrF .u8 32 key) 23, br bl #[pt xb 69] 152] v := H;replace F : Fm 13 [] [(12, pt xb 73), (11, pt xb 69), (10, kyV kf), (9, .string ⟨#[116, 97, 103]⟩), (8, pt xb 72), (7, pt xb 69), (6, pt xb 69), (5, kyV key), (4, pt gm 0), (3, pt xb 69), (0, pt bm 0), (1, pt bq 0), (2, pt bl 0)] a := F.weak _ (subL_of kr);clear Q
  generalize β 7 = rq1 at F H
  skip
  refine ?_
  have hsg : (((#[pt gm 0] ++ (arrF .u8 32 key) ++ #[.int .u32 d1, .int .i32 l1, .int .u32 0, .string ⟨#[104, 105, 100, 101]⟩] ++ (arrF .u8 32 k1) ++ #[.int .u32 0, .int .i32 1, .int .u32 0, .string ⟨#[116, 97, 103]⟩] ++ (arrF .u8 32 kf))) : Array Value) = mkA gm key d1 l1 k1 0 1 kf := kr
  rw [hsg] at H
  exact C_end F rfl ⟨⟨0, 0, [], rq1.n⟩, rfl, trivial, H.kept, H.at_ (k := 0) rfl, H.at_ (k := 1) rfl⟩

theorem lzS_tag (gm n xb bm bq bl : Nat) (key : Nat → Nat) (hkey : ∀ i, i < 32 → key i < 256) (d1 l1 : Int) (k1 : Nat → Nat) (kx : Nat → Nat) (w : World) (hW : Laid w) (hm : w.heap[gm]? = some (.cells (mtr n) 91 (0, 0))) (hs : w.heap[xb]? = some (.cells (mkA gm key d1 l1 k1 0 0 kx) 136 (0, 0))) (hbm : w.heap[bm]? = some (.cells #[.pointer (some ⟨gm, 0, none⟩)] 27 (0, 0))) (hbq : w.heap[bq]? = some (.cells (arrF .u8 32 key) 23 (0, 0))) (hbl : w.heap[bl]? = some (.cells #[.pointer (some ⟨xb, 69, none⟩)] 152 (0, 0))) : Calls Tryd.prog 84 #[.pointer (some ⟨xb, 69, none⟩), .func (.func 104) #[] #[.pointer (some ⟨bm, 0, none⟩), .pointer (some ⟨bq, 0, none⟩), .pointer (some ⟨bl, 0, none⟩)]] w fun e w' => ∃ r : SlR, e = .returned (.tuple #[]) ∧ True ∧ Kept [gm, xb] w w' ∧ w'.heap[gm]? = some (.cells (mtr r.n) 91 (0, 0)) ∧ w'.heap[xb]? = some (.cells (mkA gm key d1 l1 k1 1 0 (tagK key)) 136 (0, 0)) := by
  obtain ⟨h00, h01⟩ := hW.apart3 hm hs
  refine C_enterD Tryd.func84 rfl 21 Tryd.ntmps84 (Nat.le_of_ble_eq_true rfl) (fun a F => ?_)
  have H := Hp.startT (X := [gm, xb]) (L := [bk gm (mtr n) 91, bk xb (mkA gm key d1 l1 k1 0 0 kx) 136, br bm #[pt gm 0] 27, br bq (arrF .u8 32 key) 23, br bl #[pt xb 69] 152]) ⟨hm, hs, hbm, hbq, hbl, trivial⟩ (by simp) kr
  replace F : Fm 21 [] [(0, pt xb 69), (1, .func (.func 104) #[] #[pt bm 0, pt bq 0, pt bl 0])] a := F.weak _ (subL_of kr);refine C_seqK fun K1 hK1 => C_region ?_;refine T_k F H (pt xb 69) ?_;clear F; intro a F;refine T_k F H (pt xb 69) ?_;clear F; intro a F;refine T_k F H (pt xb 70) ?_;clear F; intro a F;refine T_callX (α := SlR) F H kr 77 #[pt xb 70] (fun rX => .tuple #[]) (fun rX => [bk gm (mtr n) 91, bk xb (mkA gm key d1 l1 k1 0 1 kx) 136, br bm #[pt gm 0] 27, br bq (arrF .u8 32 key) 23, br bl #[pt xb 69] 152]) (fun rX => True) (fun w => kr) (fun w H => callsX_putV H (k := 1) rfl ((by have h := lock_row xb 70 _ (H.at_ (k := 1) rfl) (mk_at2 gm key k1 kx d1 l1); rw [mk_lock2 gm key k1 kx d1 l1] at h; exact h.mono (fun _ _ ⟨q1, q2, q3⟩ => ⟨r0, q1, trivial, q2, q3⟩)))) ?_;clear F H; intro rq2 a v Qrq2 F H;refine wpList_nil (hK1 _ _ ?_);clear hK1;refine C_seqK fun K3 hK3 => C_region ?_;refine T_k F H (pt xb 69) ?_;clear F; intro a F;refine T_k F H (pt xb 69) ?_;clear F; intro a F;refine T_k F H (pt xb 70) ?_;clear F; intro a F;refine T_defer F kr { target := .fn (.func 78) #[], args := #[pt xb 70] } (fun w => kr) ?_;clear F; intro a F;refine wpList_nil (hK3 _ _ ?_);clear hK3;refine C_seqK fun K4 hK4 => C_region ?_;refine T_k F H (pt xb 69) ?_;clear F; intro a F;refine T_k F H (pt xb 69) ?_;clear F; intro a F;refine T_k F H (pt xb 69) ?_;clear F; intro a F;refine T_call F H kr 83 #[pt xb 69] (.bool false) (fun w => kr) (load_row xb 69 0 _ (H.at_ (k := 1) rfl) kr) ?_;clear F H; intro a v F H;refine T_k F H (.bool true) ?_;clear F; intro a F;refine wpList_nil (hK4 _ _ ?_);clear hK4;refine C_if F true rfl rfl ?_;refine C_seqK fun K5 hK5 => C_region ?_;refine T_k F H (pt xb 69) ?_;clear F; intro a F;refine T_k F H (pt xb 69) ?_;clear F; intro a F;refine T_k F H (pt xb 69) ?_;clear F; intro a F;refine T_defer F kr { target := .fn (.func 103) #[], args := #[pt xb 69, .bool true] } (fun w => kr) ?_;clear F; intro a F;refine wpList_nil (hK5 _ _ ?_);clear hK5;refine C_region ?_;refine T_k F H (.func (.func 104) #[] #[pt bm 0, pt bq 0, pt bl 0]) ?_;clear F; intro a F;refine T_callX (α := SlR) F H kr 104 #[pt bm 0, pt bq 0, pt bl 0] (fun rX => .tuple #[]) (fun rX => [bk gm (mtr rX.n) 91, bk xb (mkA gm key d1 l1 k1 0 1 (tagK key)) 136, br bm #[pt gm 0] 27, br bq (arrF .u8 32 key) 23, br bl #[pt xb 69] 152]) (fun rX => True) (fun w => kr) (fun w H => callsX_put2 H (k := 0) (k2 := 1) rfl rfl (by decide) (lz1_tag gm n xb bm bq bl key hkey d1 l1 k1 kx _ (hW.kept H.kept h00 h01) (H.at_ (k := 0) rfl) (H.at_ (k := 1) rfl) (H.at_ (k := 2) rfl) (H.at_ (k := 3) rfl) (H.at_ (k := 4) rfl))) ?_;clear F H; intro rq6 a v Qrq6 F H;refine wpList_nil ?_
  show Leaves _ _ a.tmps _ a.defers .returning v
  rw [F.df]
  have hgm := H.at_ (k := 0) rfl
  have hbk := H.at_ (k := 1) rfl
  have hK := H.kept
  have hne := H.apart (i := 0) (j := 1) rfl rfl (by decide)
  clear F H
  have hdone := mk_done2 gm key k1 (tagK key) d1 l1
  have c65 : (mkA gm key d1 l1 k1 0 1 (tagK key))[69]? = some (.int .u32 0) := kr
  have c66 : ((mkA gm key d1 l1 k1 0 1 (tagK key)).setIfInBounds 69 (.int .u32 1))[70]? = some (.int .i32 1) := kr
  generalize mkA gm key d1 l1 k1 0 1 (tagK key) = C at hbk hdone c65 c66
  refine leaves_cons (f := 103) (args := #[pt xb 69, .bool true]) (by simp) kr ?_;refine (store_deferred ⟨xb, 69, none⟩ (.int .u32 0) .returning v (by rw [cell_of_row v xb 69 C 136 (0, 0) hbk]; exact c65) (frozen_of_row v xb 69 C 136 hbk)).mono ?_
  rintro e u' v1 ⟨rfl, rfl, hv1⟩
  have hb1 : v1.heap[xb]? = some (ce (C.setIfInBounds 69 (.int .u32 1)) 136) := by subst hv1; exact heap_setCell_same v.drew xb 69 C 136 _ hbk
  have hk1 : Kept [xb] v v1 := by subst hv1; exact ⟨rfl, rfl, rfl, by simp [World.setCell], fun k _ hk => heap_setCell_other _ _ _ _ (by simpa using hk)⟩
  clear hv1;refine leaves_cons (f := 78) (args := #[pt xb 70]) (by simp [settle]) kr ?_;refine (unlock_deferred ⟨xb, 70, none⟩ _ v1 (by rw [cell_of_row v1 xb 70 _ 136 (0, 0) hb1]; exact c66) (frozen_of_row v1 xb 70 _ 136 hb1)).mono ?_
  rintro e u' v2 ⟨rfl, rfl, hv2⟩
  have hb2 : v2.heap[xb]? = some (ce ((C.setIfInBounds 69 (.int .u32 1)).setIfInBounds 70 (.int .i32 0)) 136) := by subst hv2; exact heap_setCell_same v1 xb 70 _ 136 _ hb1
  have hk2 : Kept [xb] v1 v2 := by subst hv2; exact ⟨rfl, rfl, rfl, by simp [World.setCell], fun k _ hk => heap_setCell_other _ _ _ _ (by simpa using hk)⟩
  have hk12 := hk1.trans (fun y hy => .inr hy) hk2
  refine ⟨.tuple #[], results_none rfl _ _ _, ⟨0, 0, [], rq6.n⟩, rfl, trivial, hK.trans (fun y hy => .inr (by simp only [List.mem_singleton] at hy; subst hy; simp)) hk12, ?_, ?_⟩
  · exact (hk12.block _ (heap_in hgm) (by simpa using hne)).trans hgm
  · rw [hb2, hdone]

theorem lzD_tag (gm n xb bm bq bl : Nat) (key : Nat → Nat) (hkey : ∀ i, i < 32 → key i < 256) (d1 l1 : Int) (k1 : Nat → Nat) (kx : Nat → Nat) (w : World) (hW : Laid w) (hm : w.heap[gm]? = some (.cells (mtr n) 91 (0, 0))) (hs : w.heap[xb]? = some (.cells (mkA gm key d1 l1 k1 0 0 kx) 136 (0, 0))) (hbm : w.heap[bm]? = some (.cells #[.pointer (some ⟨gm, 0, none⟩)] 27 (0, 0))) (hbq : w.heap[bq]? = some (.cells (arrF .u8 32 key) 23 (0, 0))) (hbl : w.heap[bl]? = some (.cells #[.pointer (some ⟨xb, 69, none⟩)] 152 (0, 0))) : Calls Tryd.prog 52 #[.pointer (some ⟨xb, 69, none⟩), .func (.func 104) #[] #[.pointer (some ⟨bm, 0, none⟩), .pointer (some ⟨bq, 0, none⟩), .pointer (some ⟨bl, 0, none⟩)]] w fun e w' => ∃ r : SlR, e = .returned (.tuple #[]) ∧ True ∧ Kept [gm, xb] w w' ∧ w'.heap[gm]? = some (.cells (mtr r.n) 91 (0, 0)) ∧ w'.heap[xb]? = some (.cells (mkA gm key d1 l1 k1 1 0 (tagK key)) 136 (0, 0)) := by
  obtain ⟨h00, h01⟩ := hW.apart3 hm hs
  refine C_enter Tryd.func52 rfl 12 Tryd.ntmps52 (Nat.le_of_ble_eq_true rfl) (fun a F => ?_)
  have H := Hp.startT (X := [gm, xb]) (L := [bk gm (mtr n) 91, bk xb (mkA gm key d1 l1 k1 0 0 kx) 136, br bm #[pt gm 0] 27, br bq (arrF .u8 32 key) 23, br bl #[pt xb 69] 152]) ⟨hm, hs, hbm, hbq, hbl, trivial⟩ (by simp) kr
  replace F : Fm 12 [] [(0, pt xb 69), (1, .func (.func 104) #[] #[pt bm 0, pt bq 0, pt bl 0])] a := F.weak _ (subL_of kr);refine C_seqK fun K1 hK1 => C_region ?_;refine T_k F H (pt xb 69) ?_;clear F; intro a F;refine T_k F H (pt xb 69) ?_;clear F; intro a F;refine T_k F H (pt xb 69) ?_;clear F; intro a F;refine T_call F H kr 83 #[pt xb 69] (.bool false) (fun w => kr) (load_row xb 69 0 _ (H.at_ (k := 1) rfl) kr) ?_;clear F H; intro a v F H;refine T_k F H (.bool true) ?_;clear F; intro a F;refine wpList_nil (hK1 _ _ ?_);clear hK1;refine C_if F true rfl rfl ?_;refine C_region ?_;refine T_k F H (pt xb 69) ?_;clear F; intro a F;refine T_k F H (.func (.func 104) #[] #[pt bm 0, pt bq 0, pt bl 0]) ?_;clear F; intro a F;refine T_callX (α := SlR) F H kr 84 #[pt xb 69, .func (.func 104) #[] #[pt bm 0, pt bq 0, pt bl 0]] (fun rX => .tuple #[]) (fun rX => [bk gm (mtr rX.n) 91, bk xb (mkA gm key d1 l1 k1 1 0 (tagK key)) 136, br bm #[pt gm 0] 27, br bq (arrF .u8 32 key) 23, br bl #[pt xb 69] 152]) (fun rX => True) (fun w => kr) (fun w H => callsX_put2 H (k := 0) (k2 := 1) rfl rfl (by decide) (lzS_tag gm n xb bm bq bl key hkey d1 l1 k1 kx _ (hW.kept H.kept h00 h01) (H.at_ (k := 0) rfl) (H.at_ (k := 1) rfl) (H.at_ (k := 2) rfl) (H.at_ (k := 3) rfl) (H.at_ (k := 4) rfl))) ?_;clear F H; intro rq2 a v Qrq2 F H;refine wpList_nil ?_
  exact C_end F rfl ⟨⟨0, 0, [], rq2.n⟩, rfl, trivial, H.kept, H.at_ (k := 0) rfl, H.at_ (k := 1) rfl⟩

theorem lzOf_tag (gm n xb : Nat) (key : Nat → Nat) (hkey : ∀ i, i < 32 → key i < 256) (d1 l1 : Int) (k1 : Nat → Nat) (kx : Nat → Nat) (w : World) (hW : Laid w) (hm : w.heap[gm]? = some (.cells (mtr n) 91 (0, 0))) (hs : w.heap[xb]? = some (.cells (mkA gm key d1 l1 k1 0 0 kx) 136 (0, 0))) : Calls Tryd.prog 89 #[.pointer (some ⟨xb, 69, none⟩), .pointer (some ⟨gm, 0, none⟩), .agg (arrF .u8 32 key)] w fun e w' => ∃ r : SlR, e = .returned (.agg (arrF .u8 32 (tagK key))) ∧ True ∧ Kept [gm, xb] w w' ∧ w'.heap[gm]? = some (.cells (mtr r.n) 91 (0, 0)) ∧ w'.heap[xb]? = some (.cells (mkA gm key d1 l1 k1 1 0 (tagK key)) 136 (0, 0)) := by
  obtain ⟨h00, h01⟩ := hW.apart3 hm hs
  obtain ⟨kf, hkf⟩ : ∃ kf, kf = (tagK key) := ⟨_, rfl⟩
  rw [← hkf]
  refine C_enter Tryd.func89 rfl 16 Tryd.ntmps89 (Nat.le_of_ble_eq_true rfl) (fun a F => ?_)
  have H := Hp.startT (X := [gm, xb]) (L := [bk gm (mtr n) 91, bk xb (mkA gm key d1 l1 k1 0 0 kx) 136]) ⟨hm, hs, trivial⟩ (by simp) kr
  replace F : Fm 16 [] [(0, pt xb 69), (1, pt gm 0), (2, kyV key)] a := F.weak _ (subL_of kr);refine C_seqK fun K1 hK1 => C_region ?_;refine T_new F H kr (fun ad => pt ad 0) (ce #[pt xb 69] 152) (fun w => kr) ?_;clear F H; intro aq2 a v F H;refine T_new F H kr (fun ad => pt ad 0) (ce #[pt gm 0] 27) (fun w => kr) ?_;clear F H; intro aq3 a v F H;refine T_new F H kr (fun ad => pt ad 0) (ce (arrF .u8 32 key) 23) (fun w => kr) ?_;clear F H; intro aq4 a v F H;refine T_new F H kr (fun ad => pt ad 0) (ce z8 23) (fun w => kr) ?_;clear F H; intro aq5 a v F H;refine wpList_nil (hK1 _ _ ?_);clear hK1;refine C_seqK fun K6 hK6 => C_region ?_;refine T_val F H kr (pt xb 69) (R_cell (own := true) (g := aq2) (all := #[pt xb 69]) (t := 152) (fr := (0, 0)) 3 kr 152 (.tmp 3) rfl 0 kr (pt xb 69) kr _ Tryd.underlying152 rfl) ?_;clear F; intro a F;refine T_k F H (pt xb 69) ?_;clear F; intro a F;refine T_k F H (pt xb 69) ?_;clear F; intro a F;refine T_k F H (.func (.func 104) #[] #[pt aq3 0, pt aq4 0, pt aq2 0]) ?_;clear F; intro a F;refine T_callX (α := SlR) F H kr 52 #[pt xb 69, .func (.func 104) #[] #[pt aq3 0, pt aq4 0, pt aq2 0]] (fun rX => .tuple #[]) (fun rX => [bk aq5 z8 23, bk aq4 (arrF .u8 32 key) 23, bk aq3 #[pt gm 0] 27, bk aq2 #[pt xb 69] 152, bk gm (mtr rX.n) 91, bk xb (mkA gm key d1 l1 k1 1 0 kf) 136]) (fun rX => True) (fun w => kr) (fun w H => callsX_put2 H (k := 4) (k2 := 5) rfl rfl (by decide) ((by rw [hkf]; exact lzD_tag gm n xb aq3 aq4 aq2 key hkey d1 l1 k1 kx _ (hW.kept H.kept h00 h01) (H.at_ (k := 4) rfl) (H.at_ (k := 5) rfl) (H.at_ (k := 2) rfl) (H.at_ (k := 1) rfl) (H.at_ (k := 3) rfl)))) ?_;clear F H; intro rq7 a v Qrq7 F H;refine wpList_nil (hK6 _ _ ?_);clear hK6;refine C_seqK fun K8 hK8 => C_region ?_;refine T_val F H kr (pt xb 69) (R_cell (own := true) (g := aq2) (all := #[pt xb 69]) (t := 152) (fr := (0, 0)) 3 kr 152 (.tmp 3) rfl 0 kr (pt xb 69) kr _ Tryd.underlying152 rfl) ?_;clear F; intro a F;refine T_k F H (pt xb 69) ?_;clear F; intro a F;refine T_k F H (pt xb 73) ?_;clear F; intro a F;refine T_val F H kr (kyV kf) (R_load (own := true) (g := xb) (all := (mkA gm key d1 l1 k1 1 0 kf)) (t := 136) (fr := (0, 0)) 5 kr 23 (.tmp 14) rfl 73 kr (arrF .u8 32 kf) (part_ext kr) _ Tryd.underlying23 rfl kr) ?_;clear F; intro a F;refine T_set F H kr rfl 0 rfl (arrF .u8 32 kf) (S_row 0 rfl 23 (.tmp 6) (.tmp 15) rfl kr (arrF .u8 32 kf) kr (by rw [arrF_size]; kernel_rfl) (by rw [arrF_size]; kernel_rfl) (arrF_one _ _ _)) [bk aq5 (arrF .u8 32 kf) 23, bk aq4 (arrF .u8 32 key) 23, bk aq3 #[pt gm 0] 27, bk aq2 #[pt xb 69] 152, bk gm (mtr rq7.n) 91, bk xb (mkA gm key d1 l1 k1 1 0 kf) 136] rfl ?_;clear F H; intro a v F H;refine wpList_nil (hK8 _ _ ?_);clear hK8;refine wp_ret ?_
  exact C_ret F H (rs := [.cell 6 23]) rfl (vs := [kyV kf]) (.row 0 rfl rfl _ Tryd.underlying23 rfl kr .nil) (kyV kf) rfl ⟨⟨0, 0, [], rq7.n⟩, rfl, trivial, H.kept, H.at_ (k := 4) rfl, H.at_ (k := 5) rfl⟩

end Go.Proofs.YtdejhenkdbjakaaDoor
