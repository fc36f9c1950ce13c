/- W6 -/
import Derived.Test.YtdejhenkdbjakaaDoorQM14
set_option linter.unusedVariables false
set_option linter.unusedSimpArgs false
set_option maxRecDepth 100000
set_option maxHeartbeats 4000000
namespace Go.Proofs.YtdejhenkdbjakaaDoor
open Go Go.RowKit
theorem Hp.addX {w0 : World} {L : List Blk} {w : World} (H : Hp [] w0 L w) {gm : Nat} {ob o0 : Obj} (hg : w.heap[gm]? = some ob) (h0 : w0.heap[gm]? = some o0) (hfar : L.all (·.own) = true) : Hp [gm] w0 (⟨true, gm, ob⟩ :: L) w := by
  have hlt := heap_in h0
  refine ⟨H.kept.mono (by simp), fun p hp => ?_, fun p hp ho => ?_, List.pairwise_cons.2 ⟨fun p hp => ?_, H.far⟩⟩
  · rcases List.mem_cons.1 hp with rfl | hp
    · exact hg
    · exact H.held p hp
  · rcases List.mem_cons.1 hp with rfl | hp
    · exact .inr (List.mem_singleton.2 rfl)
    · rcases H.own p hp ho with h | h
      · exact .inl h
      · cases h
  · have h1 := H.own p hp (List.all_eq_true.1 hfar p hp)
    rcases h1 with h1 | h1
    · show gm ≠ p.ad
      omega
    · cases h1
theorem Kept.at_ {w w' : World} (k : Kept [] w w') {g : Nat} {o : Obj} (h : w.heap[g]? = some o) : w'.heap[g]? = some o := (k.block _ (heap_in h) List.not_mem_nil).trans h
theorem P_add {o : Oper} {V : List (Nat × Value)} {w : World} {x y : Operand} {ts : Array TypeId} (ho : o.op = .call { callee := .value (.func 97), args := #[x, y], argTypes := ts }) {gm n : Nat} (hx : evV V x = .pointer (some ⟨gm, 0, none⟩)) (hy : evV V y = .int .i64 1) (hg : w.heap[gm]? = some (.cells (mtr n) 91 (0, 0))) :
    ∃ w', (execOp (evV V) o).run Tryd.prog w = .ok (.value (.int .i64 (IntKind.i64.wrap ((n + 1 : Nat) : Int)))) w' ∧ Kept [gm] w w' ∧ w'.heap[gm]? = some (.cells (mtr (n + 1)) 91 (0, 0)) := by
  have hc : w.cell? ⟨gm, 0, none⟩ = some (.int .i64 (IntKind.i64.wrap (n : Int))) := by rw [cell_of_row w gm 0 (mtr n) 91 (0, 0) hg]; rfl
  have hz := frozen_of_row w gm 0 (mtr n) 91 hg
  have hs : (Op.intArith .add .i64 (IntKind.i64.wrap (n : Int)) 1).run Tryd.prog w = .ok (.int .i64 (IntKind.i64.wrap ((n + 1 : Nat) : Int))) w := by
    rw [← mtr_next n]; rfl
  have hr := run_call_add (P := Tryd.prog) Tryd.func97 (by kernel_rfl) (by kernel_rfl) (by kernel_rfl) .i64 (by kernel_rfl) (w := w) (a := ⟨gm, 0, none⟩) (y := 1) hc hz hs
  refine ⟨_, R_call0 (args := #[.pointer (some ⟨gm, 0, none⟩), .int .i64 1]) ho (by simp [hx, hy]) hr, ⟨rfl, rfl, rfl, by simp [World.setCell], fun k _ hk => heap_setCell_other _ _ _ _ (by simpa using hk)⟩, ?_⟩
  exact heap_setCell_same w gm 0 (mtr n) 91 _ hg
theorem newM_any (w : World) : Calls Tryd.prog 18 #[.bool false] w fun e w' => ∃ r : SlR, e = .returned (.pointer (some ⟨r.g, 0, none⟩)) ∧ True ∧ w.heap.size ≤ r.g ∧ w'.heap[r.g]? = some (.cells (mtr 0) 91 (0, 0)) ∧ Kept [] w w' := by
  refine C_enter Tryd.func18 rfl 6 Tryd.ntmps18 (Nat.le_of_ble_eq_true rfl) (fun a F => ?_)
  have H := Hp.start [] w
  replace F : Fm 6 [] [(0, .bool false)] a := F.weak _ (subL_of kr);refine C_seqK fun K1 hK1 => C_region ?_;refine T_k F H (.pointer none) ?_;clear F; intro a F;refine wpList_nil (hK1 _ _ ?_);clear hK1;refine C_seqK fun K2 hK2 => C_region ?_;refine T_k F H (.bool false) ?_;clear F; intro a F;refine T_k F H (.agg (mtr 0)) ?_;clear F; intro a F;refine T_new F H kr (fun ad => pt ad 0) (ce (mtr 0) 91) (fun w => kr) ?_;clear F H; intro aq3 a v F H;refine T_k F H (pt aq3 0) ?_;clear F; intro a F;refine wpList_nil (hK2 _ _ ?_);clear hK2;refine wp_ret ?_
  exact C_ret F H (rs := [.tmp 2]) rfl (vs := [pt aq3 0]) (.tmp rfl .nil) (pt aq3 0) rfl ⟨⟨aq3, 0, [], 0⟩, rfl, trivial, H.newAt (k := 0) rfl, H.at_ (k := 0) rfl, H.kept⟩

theorem add_any (gm n : Nat) (w : World) (hm : w.heap[gm]? = some (.cells (mtr n) 91 (0, 0))) : Calls Tryd.prog 76 #[.pointer (some ⟨gm, 0, none⟩), .int .i64 1] w fun e w' => e = .returned (.int .i64 (IntKind.i64.wrap ((n + 1 : Nat) : Int))) ∧ Kept [gm] w w' ∧ w'.heap[gm]? = some (.cells (mtr (n + 1)) 91 (0, 0)) := by
  refine C_enter Tryd.func76 rfl 10 Tryd.ntmps76 (Nat.le_of_ble_eq_true rfl) (fun a F => ?_)
  have H := Hp.startX hm
  replace F : Fm 10 [] [(0, pt gm 0), (1, ni 1)] a := F.weak _ (subL_of kr);refine C_seqK fun K1 hK1 => C_region ?_;refine T_k F H (ni 0) ?_;clear F; intro a F;refine wpList_nil (hK1 _ _ ?_);clear hK1;refine C_seqK fun K2 hK2 => C_region ?_;refine T_k F H (pt gm 0) ?_;clear F; intro a F;refine T_k F H (pt gm 0) ?_;clear F; intro a F;refine T_k F H (pt gm 0) ?_;clear F; intro a F;refine T_k F H (ni 1) ?_;clear F; intro a F;refine T_putV F H kr (.int .i64 (IntKind.i64.wrap ((n + 1 : Nat) : Int))) 0 rfl (fun w hk hl => P_add rfl kr kr (hl.at_ (k := 0) rfl)) [bk gm (mtr (n + 1)) 91] rfl ?_;clear F H; intro a v F H;refine T_k F H (.int .i64 (IntKind.i64.wrap ((n + 1 : Nat) : Int))) ?_;clear F; intro a F;refine wpList_nil (hK2 _ _ ?_);clear hK2;refine wp_ret ?_
  exact C_ret F H (rs := [.tmp 4]) rfl (vs := [.int .i64 (IntKind.i64.wrap ((n + 1 : Nat) : Int))]) (.tmp rfl .nil) (.int .i64 (IntKind.i64.wrap ((n + 1 : Nat) : Int))) rfl ⟨rfl, H.kept, H.at_ (k := 0) rfl⟩

theorem msum_any (gm n : Nat) (ps : List SlP) (h0 : 0 < (catP ps).length) (h1 : (catP ps).length < 1099511627776) (h2 : ps.length < 1000000) (ad cp : Nat) (arr : Array Value) (ty : Nat) (ha : ∀ k, k < ps.length → arr[k]? = some (ps.getD k p0).v) (w : World) (hrd : AllR w ps) (hblk : w.heap[ad]? = some (.cells arr ty (0, 0))) (hb : ∀ x ∈ catP ps, x < 256) (hW : Laid w) (hm : w.heap[gm]? = some (.cells (mtr n) 91 (0, 0))) : Calls Tryd.prog 48 #[.pointer (some ⟨gm, 0, none⟩), .slice (some ⟨ad, 0, none⟩) ps.length cp] w fun e w' => ∃ r : SlR, e = .returned (.agg (arrF .u8 32 (shaK (catP ps)))) ∧ r.n = n + 1 ∧ Kept [gm] w w' ∧ w'.heap[gm]? = some (.cells (mtr r.n) 91 (0, 0)) := by
  refine C_enter Tryd.func48 rfl 39 Tryd.ntmps48 (Nat.le_of_ble_eq_true rfl) (fun a F => ?_)
  have H := Hp.start1 [] hblk
  replace F : Fm 39 [] [(0, pt gm 0), (1, sc ad 0 ps.length cp)] a := F.weak _ (subL_of kr)
  have h00 : 0 ∉ [gm] := fun h => by have := List.mem_singleton.1 h; subst this; rw [hW.start] at hm; cases hm
  have h01 : 1 ∉ [gm] := fun h => by have := List.mem_singleton.1 h; subst this; rw [hW.rounds] at hm; cases hm
  refine C_seqK fun K1 hK1 => C_region ?_;refine T_new F H kr (fun ad => pt ad 0) (ce z8 23) (fun w => kr) ?_;clear F H; intro aq2 a v F H;refine wpList_nil (hK1 _ _ ?_);clear hK1;refine C_seqK fun K3 hK3 => C_region ?_;refine T_k F H (sc ad 0 ps.length cp) ?_;clear F; intro a F;refine T_callX (α := SlR) F H kr 74 #[sc ad 0 ps.length cp] (fun rX => sc rX.g 0 (catP ps).length rX.cap) (fun rX => [bk rX.g (sl (oct (catP ps)) rX.rest) 5, bk aq2 z8 23, br ad arr ty]) (fun rX => Own (oct (catP ps)) rX.rest ((catP ps).length) rX.cap 1) (fun w => kr) (fun w H => callsX_newV H (join_any ps h0 (by omega) h2 ad cp arr ty ha _ (hrd.kept H.kept) (H.at_ (k := 1) rfl))) ?_;clear F H; intro rq4 a v Qrq4 F H;refine T_k F H (sc rq4.g 0 (catP ps).length rq4.cap) ?_;clear F; intro a F;refine wpList_nil ?_;replace H : Hp [] w [bk rq4.g (sl (oct (catP ps)) rq4.rest) 5, bk aq2 z8 23] v := H.pick [0, 1] kr _ rfl
  replace H := H.addX (H.kept.at_ hm) hm kr
  replace H : Hp [gm] w [bk gm (mtr n) 91, bk rq4.g (sl (oct (catP ps)) rq4.rest) 5, bk aq2 z8 23] v := H;refine hK3 _ _ ?_;clear hK3;refine C_seqK (fun K5 hK5 => ?_);refine C_seqK fun K6 hK6 => C_region ?_;refine T_k F H (pt gm 0) ?_;clear F; intro a F;refine T_k F H (.bool false) ?_;clear F; intro a F;refine wpList_nil (hK6 _ _ ?_);clear hK6;refine C_if F false rfl rfl ?_;refine wp_skip ?_;refine hK5 _ _ ?_;clear hK5;refine C_seqK fun K7 hK7 => C_region ?_;refine T_k F H (pt gm 0) ?_;clear F; intro a F;refine T_k F H (pt gm 0) ?_;clear F; intro a F;refine T_k F H (pt gm 0) ?_;clear F; intro a F;refine T_callX (α := SlR) F H kr 76 #[pt gm 0, ni 1] (fun rX => .int .i64 (IntKind.i64.wrap ((n + 1 : Nat) : Int))) (fun rX => [bk gm (mtr (n + 1)) 91, bk rq4.g (sl (oct (catP ps)) rq4.rest) 5, bk aq2 z8 23]) (fun rX => True) (fun w => kr) (fun w H => callsX_putV H (k := 0) rfl ((add_any gm n _ (H.at_ (k := 0) rfl)).mono (fun _ _ ⟨q1, q2, q3⟩ => ⟨r0, q1, trivial, q2, q3⟩))) ?_;clear F H; intro rq8 a v Qrq8 F H;refine wpList_nil (hK7 _ _ ?_);clear hK7;refine C_seqK (fun K9 hK9 => ?_);refine C_seqK fun K10 hK10 => C_region ?_;refine T_k F H (pt gm 0) ?_;clear F; intro a F;refine T_k F H (pt gm 0) ?_;clear F; intro a F;refine T_k F H (pt gm 1) ?_;clear F; intro a F;refine T_val F H kr (.bool false) (R_cell (own := true) (g := gm) (all := (mtr (n + 1))) (t := 91) (fr := (0, 0)) 0 kr 4 (.tmp 18) rfl 1 kr (.bool false) kr _ Tryd.underlying4 rfl) ?_;clear F; intro a F;refine wpList_nil (hK10 _ _ ?_);clear hK10;refine C_if F false rfl rfl ?_;refine wp_skip ?_;refine hK9 _ _ ?_;clear hK9;refine C_seqK fun K11 hK11 => C_region ?_;refine T_k F H (sc rq4.g 0 (catP ps).length rq4.cap) ?_;clear F; intro a F;refine T_call F H kr 75 #[sc rq4.g 0 (catP ps).length rq4.cap] (kyV (shaK (catP ps))) (fun w => kr) (sum_any ⟨some ⟨rq4.g, 0, none⟩, (catP ps).length, rq4.cap, catP ps⟩ hb rfl h1 _ (hW.kept H.kept h00 h01) (RdS.all (H.at_ (k := 1) rfl) (Own.le Qrq4))) ?_;clear F H; intro a v F H;refine T_set F H kr rfl 2 rfl (arrF .u8 32 (shaK (catP ps))) (S_row 2 rfl 23 (.tmp 4) (.tmp 38) rfl kr (arrF .u8 32 (shaK (catP ps))) kr (by rw [arrF_size]; kernel_rfl) (by rw [arrF_size]; kernel_rfl) (arrF_one _ _ _)) [bk gm (mtr (n + 1)) 91, bk rq4.g (sl (oct (catP ps)) rq4.rest) 5, bk aq2 (arrF .u8 32 (shaK (catP ps))) 23] rfl ?_;clear F H; intro a v F H;refine wpList_nil (hK11 _ _ ?_);clear hK11;refine wp_ret ?_
  exact C_ret F H (rs := [.cell 4 23]) rfl (vs := [kyV (shaK (catP ps))]) (.row 2 rfl rfl _ Tryd.underlying23 rfl kr .nil) (kyV (shaK (catP ps))) rfl ⟨⟨0, 0, [], n + 1⟩, rfl, rfl, H.kept, H.at_ (k := 0) rfl⟩

end Go.Proofs.YtdejhenkdbjakaaDoor
