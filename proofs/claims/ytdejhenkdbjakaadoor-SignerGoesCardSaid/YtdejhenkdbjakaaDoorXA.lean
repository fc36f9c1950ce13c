/- Walks: signers' tags, digests, keys, public keys, signatures. -/
import Derived.Test.YtdejhenkdbjakaaDoorWH
import Derived.Test.YtdejhenkdbjakaaDoorWD
import Derived.Test.YtdejhenkdbjakaaDoorS3
set_option linter.unusedVariables false
set_option linter.unusedSimpArgs false
namespace Go.Proofs.YtdejhenkdbjakaaDoor
open Go Go.RowKit
/-- What a slice reads, whatever changes but for the blocks X. -/
def RdK (X : List Nat) (w : World) (p : SlP) : Prop := ∀ w', Kept X w w' → RdS w' p.v p.n (oct p.l)
theorem RdK.kept {X : List Nat} {w w' : World} {p : SlP} (h : RdK X w p) (k : Kept X w w') : RdK X w' p := fun _ k2 => h _ (k.trans (fun _ hy => .inr hy) k2)
theorem RdK.sub {X Y : List Nat} {w : World} {p : SlP} (h : RdK X w p) (hs : ∀ y ∈ Y, y ∈ X) : RdK Y w p := fun _ k => h _ ⟨k.os, k.tape, k.output, k.size, fun i hi hx => k.block i hi fun hy => hx (hs i hy)⟩
theorem RdK.from {X : List Nat} {w w' : World} {p : SlP} (h : RdK [] w p) (k : Kept [] w w') (hx : ∀ x ∈ X, w.heap.size ≤ x) : RdK X w' p := fun _ k2 => h _ (k.trans (fun y hy => .inl (hx y hy)) k2)
theorem RdK.own {X : List Nat} {w : World} {g n c : Nat} {l : List Nat} {rest : List Value} {t : TypeId} {fr : Nat × Nat} (hg : w.heap[g]? = some (.cells (sl (oct l) rest) t fr)) (hc : n ≤ c) (hx : g ∉ X) : RdK X w ⟨some ⟨g, 0, none⟩, n, c, l⟩ := fun w' k =>
  RdS.all ((k.block g (heap_in hg) hx).trans hg) hc

theorem tgF_lt (n : Nat) (i : Nat) (h : i < 32) : tgF n i < 256 := shaK_lt _ i
theorem dgF_lt (l : List Nat) (i : Nat) (h : i < 32) : dgF l i < 256 := shaK_lt _ i
theorem sdF_lt (seed : Nat → Nat) (n i : Nat) (h : i < 32) : sdF seed n i < 256 := derK_lt _ _ _ _
theorem tg_b (n : Nat) : ∀ x ∈ [116, 97, 103] ++ highL n 4, x < 256 := fun x hx => (List.mem_append.1 hx).elim (fun h => by simp at h; omega) (highL_lt _ _ x)
theorem dg_b {l : List Nat} (hl : ∀ x ∈ l, x < 256) : ∀ x ∈ [99, 111, 114, 101] ++ l, x < 256 := fun x hx => (List.mem_append.1 hx).elim (fun h => by simp at h; omega) (hl x)
def chA (seed : Nat → Nat) (n : Nat) : Array Value := arrF .u8 32 seed ++ #[.int .u32 ((n : Nat) : Int)]
theorem chA_set (seed : Nat → Nat) (n m : Nat) : (chA seed n).setIfInBounds 32 (.int .u32 ((m : Nat) : Int)) = chA seed m := kr
theorem callsX_new2 {P : Program} {X : List Nat} {w0 : World} {L : List Blk} {f : Nat} {args : Array Value} {w : World} (H : Hp X w0 L w) {k k2 ad ad2 : Nat} {Z Z2 : Obj} {R R2 Y : SlR → Obj} {q : SlR → Prop} {v : SlR → Value} (hk : L[k]? = some ⟨true, ad, Z⟩) (hk2 : L[k2]? = some ⟨true, ad2, Z2⟩) (hne : k ≠ k2) (h : Calls P f args w fun en w' => ∃ r, en = .returned (v r) ∧ q r ∧ w.heap.size ≤ r.g ∧ w'.heap[r.g]? = some (Y r) ∧ Kept [ad, ad2] w w' ∧ w'.heap[ad]? = some (R r) ∧ w'.heap[ad2]? = some (R2 r)) :
    Calls P f args w fun en w' => ∃ r : SlR, en = .returned (v r) ∧ q r ∧ Hp X w0 (⟨true, r.g, Y r⟩ :: (L.set k ⟨true, ad, R r⟩).set k2 ⟨true, ad2, R2 r⟩) w' :=
  h.mono fun _ w' ⟨r, h1, h2, h3, h4, h5, h6, h7⟩ => by
    refine ⟨r, h1, h2, ?_⟩
    have H1 := H.put2 hk hk2 hne h5 h6 h7
    refine ⟨H1.kept, fun p hp => ?_, fun p hp ho => ?_, List.pairwise_cons.2 ⟨fun p hp => ?_, H1.far⟩⟩
    · rcases List.mem_cons.1 hp with rfl | hp
      · exact h4
      · exact H1.held p hp
    · rcases List.mem_cons.1 hp with rfl | hp
      · exact .inl (Nat.le_trans H.kept.size h3)
      · exact H1.own p hp ho
    · show r.g ≠ p.ad
      have hads : ((L.set k ⟨true, ad, R r⟩).set k2 ⟨true, ad2, R2 r⟩).map (·.ad) = L.map (·.ad) := by
        rw [List.map_set, List.map_set]
        have e1 : (L.map (·.ad))[k]? = some ad := by rw [List.getElem?_map, hk]; rfl
        have e2 : (L.map (·.ad))[k2]? = some ad2 := by rw [List.getElem?_map, hk2]; rfl
        obtain ⟨a1, a2⟩ := List.getElem?_eq_some_iff.1 e1
        obtain ⟨b1, b2⟩ := List.getElem?_eq_some_iff.1 e2
        have s1 : (L.map (·.ad)).set k ad = L.map (·.ad) := by rw [← a2]; exact List.set_getElem_self a1
        rw [s1]
        rw [← b2]; exact List.set_getElem_self b1
      have hm : p.ad ∈ L.map (·.ad) := by rw [← hads]; exact List.mem_map_of_mem hp
      obtain ⟨p0, hp0, e⟩ := List.mem_map.1 hm
      have := heap_in (H.held p0 hp0)
      rw [e] at this
      omega

theorem P_mark {P : Program} {o : Oper} {V : List (Nat × Value)} {w : World} {t e : TypeId} {x : Operand} (ho : o.op = .convert t t x) (ht : P.underlying t = some (.slice e)) (he : P.underlying e = some (.int .u8)) {g n c : Nat} {C : Array Value} {ty : TypeId} (hx : evV V x = .slice (some ⟨g, 0, none⟩) n c) (hg : w.heap[g]? = some (.cells C ty (0, 0))) :
    ∃ w', (execOp (evV V) o).run P w = .ok (.value (.slice (some ⟨g, 0, none⟩) n c)) w' ∧ Kept [g] w w' ∧ w'.heap[g]? = some (.cells C ty (C.size, C.size + 1)) := by
  have hsh : w.shape? g = some (ty, C.size) := by unfold World.shape?; rw [hg]
  refine ⟨w.freeze ⟨g, C.size, none⟩ 1, ?_, ⟨rfl, rfl, rfl, ?_, fun k hk hn => ?_⟩, ?_⟩
  · unfold execOp
    simp [ho, hx, convert, run_underlying ht, run_underlying he, markStringish, hsh, Sem.run_bind, Sem.run_pure, go_sem]
  · unfold World.freeze; rw [if_neg (by decide)]; simp
  · unfold World.freeze
    rw [if_neg (by decide)]
    have hne : g ≠ k := fun e => hn (by simp [e])
    simp [Array.getElem?_modify, hne]
  · unfold World.freeze
    rw [if_neg (by decide)]
    simp [Array.getElem?_modify, hg]

set_option maxRecDepth 100000 in
set_option maxHeartbeats 4000000 in
theorem stag_any (gm n : Nat) (nn : Nat) (hnn : nn < 4294967296) (w : World) (hW : Laid w) (hm : w.heap[gm]? = some (.cells (mtr n) 91 (0, 0))) : Calls Tryd.prog 59 #[.pointer (some ⟨gm, 0, none⟩), .int .u32 ((nn : Nat) : Int)] w fun e w' => ∃ r : SlR, e = .returned (.agg (arrF .u8 32 (tgF nn))) ∧ True ∧ Kept [gm] w w' ∧ w'.heap[gm]? = some (.cells (mtr r.n) 91 (0, 0)) := by
  obtain ⟨h00, h01⟩ := hW.apart hm
  refine C_enter Tryd.func59 rfl 13 Tryd.ntmps59 (Nat.le_of_ble_eq_true rfl) (fun a F => ?_)
  have H := Hp.startX hm
  replace F : Fm 13 [] [(0, pt gm 0), (1, nw nn)] a := F.weak _ (subL_of kr)
  refine C_seqK (fun K1 hK1 => ?_)
  refine C_region ?_
  refine T_new F H kr (fun ad => pt ad 0) (ce z8 23) (fun w => kr) ?_
  clear F H; intro aq2 a v F H
  refine wpList_nil ?_
  refine hK1 _ _ ?_
  clear hK1
  try clear K1
  refine C_seqK (fun K3 hK3 => ?_)
  refine C_region ?_
  refine T_k F H (pt gm 0) ?_
  clear F; intro a F
  refine T_new F H kr (fun ad => sc ad 0 3 3) (ce (sl (ints .u8 [116, 97, 103]) []) 5) (fun w => R_buildS (len := 3) rfl Tryd.underlying54 ((sl (ints .u8 [116, 97, 103]) [])) kr w) ?_
  clear F H; intro aq4 a v F H
  refine T_putV F H kr (sc aq4 0 3 3) 0 rfl (fun w hk hl => P_mark (x := (.tmp 6)) rfl Tryd.underlying54 Tryd.underlying5 kr (hl.at_ (k := 0) rfl)) [⟨true, aq4, .cells (sl (ints .u8 [116, 97, 103]) []) 5 ((sl (ints .u8 [116, 97, 103]) []).size, (sl (ints .u8 [116, 97, 103]) []).size + 1)⟩, bk aq2 z8 23, bk gm (mtr n) 91] rfl ?_
  clear F H; intro a v F H
  refine T_k F H (nw nn) ?_
  clear F; intro a F
  refine T_val F H kr (nu nn) (fun w _ => R_conv (x := (.tmp 8)) rfl (k0 := .u32) kr kr (k := .u32) (a := ((nn : Nat) : Int)) kr (wru64 (a := nn) (by omega)) w) ?_
  clear F; intro a F
  refine T_callX (α := SlR) F H kr 49 #[nu nn, ni 4] (fun rX => sc rX.g 0 4 rX.cap) (fun rX => [bk rX.g (sl (oct (highL nn 4)) rX.rest) 5, ⟨true, aq4, .cells (sl (ints .u8 [116, 97, 103]) []) 5 ((sl (ints .u8 [116, 97, 103]) []).size, (sl (ints .u8 [116, 97, 103]) []).size + 1)⟩, bk aq2 z8 23, bk gm (mtr n) 91]) (fun rX => Own (oct (highL nn 4)) rX.rest (4) rX.cap 1) (fun w => kr) (fun w H => callsX_newV H (high_any nn 4 (by omega) (by omega) _)) ?_
  clear F H; intro rq5 a v Qrq5 F H
  refine T_new F H kr (fun ad => sc ad 0 2 2) (ce #[sc aq4 0 3 3, sc rq5.g 0 4 rq5.cap] 54) (fun w => R_buildS (len := 2) rfl Tryd.underlying30 (#[sc aq4 0 3 3, sc rq5.g 0 4 rq5.cap]) kr w) ?_
  clear F H; intro aq6 a v F H
  refine T_callX (α := SlR) F H kr 48 #[pt gm 0, sc aq6 0 2 2] (fun rX => kyV (tgF nn)) (fun rX => [bk aq6 #[sc aq4 0 3 3, sc rq5.g 0 4 rq5.cap] 54, bk rq5.g (sl (oct (highL nn 4)) rq5.rest) 5, ⟨true, aq4, .cells (sl (ints .u8 [116, 97, 103]) []) 5 ((sl (ints .u8 [116, 97, 103]) []).size, (sl (ints .u8 [116, 97, 103]) []).size + 1)⟩, bk aq2 z8 23, bk gm (mtr rX.n) 91]) (fun rX => rX.n = n + 1) (fun w => kr) (fun w H => callsX_putV H (k := 4) rfl (msum_to gm n [⟨some ⟨aq4, 0, none⟩, 3, 3, [116, 97, 103]⟩, ⟨some ⟨rq5.g, 0, none⟩, 4, rq5.cap, highL nn 4⟩] (([116, 97, 103]) ++ (highL nn 4)) (by simp [catP]) ⟨by simp, by simp [highL_len], by simp⟩ _ _ (#[sc aq4 0 3 3, sc rq5.g 0 4 rq5.cap]) _ kr _ ⟨(RdS.all (H.at_ (k := 2) rfl) (Nat.le_refl _)), (by first | rfl | simp [highL_len, hb_len, kl_len]), ⟨(RdS.all (H.at_ (k := 1) rfl) (Own.le Qrq5)), (highL_len _ _), trivial⟩⟩ (H.at_ (k := 0) rfl) (tg_b _) (hW.kept H.kept h00 h01) (H.at_ (k := 4) rfl))) ?_
  clear F H; intro rq7 a v Qrq7 F H
  refine T_set F H kr rfl 3 rfl (arrF .u8 32 (tgF nn)) (S_row 3 rfl 23 (.tmp 4) (.tmp 12) rfl kr (arrF .u8 32 (tgF nn)) kr (by rw [arrF_size]; kernel_rfl) (by rw [arrF_size]; kernel_rfl) (arrF_one _ _ _)) [bk aq6 #[sc aq4 0 3 3, sc rq5.g 0 4 rq5.cap] 54, bk rq5.g (sl (oct (highL nn 4)) rq5.rest) 5, ⟨true, aq4, .cells (sl (ints .u8 [116, 97, 103]) []) 5 ((sl (ints .u8 [116, 97, 103]) []).size, (sl (ints .u8 [116, 97, 103]) []).size + 1)⟩, bk aq2 (arrF .u8 32 (tgF nn)) 23, bk gm (mtr rq7.n) 91] rfl ?_
  clear F H; intro a v F H
  refine wpList_nil ?_
  refine hK3 _ _ ?_
  clear hK3
  try clear K3
  refine wp_ret ?_
  exact C_ret F H (rs := [.cell 4 23]) rfl (vs := [kyV (tgF nn)]) (.row 3 rfl rfl _ Tryd.underlying23 rfl kr .nil) (kyV (tgF nn)) rfl ⟨⟨0, 0, [], rq7.n⟩, rfl, trivial, H.kept, H.at_ (k := 4) rfl⟩

set_option maxRecDepth 100000 in
set_option maxHeartbeats 4000000 in
theorem sdig_any (gm n : Nat) (p : SlP) (hbk : ∀ x ∈ p.l, x < 256) (hn : p.l.length = p.n) (h64 : p.n ≤ 1000) (w : World) (hrd : RdK [gm] w p) (hW : Laid w) (hm : w.heap[gm]? = some (.cells (mtr n) 91 (0, 0))) : Calls Tryd.prog 60 #[.pointer (some ⟨gm, 0, none⟩), .slice p.ad p.n p.c] w fun e w' => ∃ r : SlR, e = .returned (.agg (arrF .u8 32 (dgF p.l))) ∧ True ∧ Kept [gm] w w' ∧ w'.heap[gm]? = some (.cells (mtr r.n) 91 (0, 0)) := by
  obtain ⟨h00, h01⟩ := hW.apart hm
  refine C_enter Tryd.func60 rfl 11 Tryd.ntmps60 (Nat.le_of_ble_eq_true rfl) (fun a F => ?_)
  have H := Hp.startX hm
  replace F : Fm 11 [] [(0, pt gm 0), (1, .slice p.ad p.n p.c)] a := F.weak _ (subL_of kr)
  refine C_seqK (fun K1 hK1 => ?_)
  refine C_region ?_
  refine T_new F H kr (fun ad => pt ad 0) (ce z8 23) (fun w => kr) ?_
  clear F H; intro aq2 a v F H
  refine wpList_nil ?_
  refine hK1 _ _ ?_
  clear hK1
  try clear K1
  refine C_seqK (fun K3 hK3 => ?_)
  refine C_region ?_
  refine T_k F H (pt gm 0) ?_
  clear F; intro a F
  refine T_new F H kr (fun ad => sc ad 0 4 4) (ce (sl (ints .u8 [99, 111, 114, 101]) []) 5) (fun w => R_buildS (len := 4) rfl Tryd.underlying54 ((sl (ints .u8 [99, 111, 114, 101]) [])) kr w) ?_
  clear F H; intro aq4 a v F H
  refine T_putV F H kr (sc aq4 0 4 4) 0 rfl (fun w hk hl => P_mark (x := (.tmp 6)) rfl Tryd.underlying54 Tryd.underlying5 kr (hl.at_ (k := 0) rfl)) [⟨true, aq4, .cells (sl (ints .u8 [99, 111, 114, 101]) []) 5 ((sl (ints .u8 [99, 111, 114, 101]) []).size, (sl (ints .u8 [99, 111, 114, 101]) []).size + 1)⟩, bk aq2 z8 23, bk gm (mtr n) 91] rfl ?_
  clear F H; intro a v F H
  refine T_k F H (.slice p.ad p.n p.c) ?_
  clear F; intro a F
  refine T_new F H kr (fun ad => sc ad 0 2 2) (ce #[sc aq4 0 4 4, .slice p.ad p.n p.c] 54) (fun w => R_buildS (len := 2) rfl Tryd.underlying30 (#[sc aq4 0 4 4, .slice p.ad p.n p.c]) kr w) ?_
  clear F H; intro aq5 a v F H
  refine T_callX (α := SlR) F H kr 48 #[pt gm 0, sc aq5 0 2 2] (fun rX => kyV (dgF p.l)) (fun rX => [bk aq5 #[sc aq4 0 4 4, .slice p.ad p.n p.c] 54, ⟨true, aq4, .cells (sl (ints .u8 [99, 111, 114, 101]) []) 5 ((sl (ints .u8 [99, 111, 114, 101]) []).size, (sl (ints .u8 [99, 111, 114, 101]) []).size + 1)⟩, bk aq2 z8 23, bk gm (mtr rX.n) 91]) (fun rX => rX.n = n + 1) (fun w => kr) (fun w H => callsX_putV H (k := 3) rfl (msum_to gm n [⟨some ⟨aq4, 0, none⟩, 4, 4, [99, 111, 114, 101]⟩, p] (([99, 111, 114, 101]) ++ (p.l)) (by simp [catP]) ⟨by simp, by rw [List.length_append, hn]; simp; omega, by simp⟩ _ _ (#[sc aq4 0 4 4, .slice p.ad p.n p.c]) _ kr _ ⟨(RdS.all (H.at_ (k := 1) rfl) (Nat.le_refl _)), (by first | rfl | simp [highL_len, hb_len, kl_len]), ⟨(hrd _ H.kept), hn, trivial⟩⟩ (H.at_ (k := 0) rfl) (dg_b hbk) (hW.kept H.kept h00 h01) (H.at_ (k := 3) rfl))) ?_
  clear F H; intro rq6 a v Qrq6 F H
  refine T_set F H kr rfl 2 rfl (arrF .u8 32 (dgF p.l)) (S_row 2 rfl 23 (.tmp 4) (.tmp 10) rfl kr (arrF .u8 32 (dgF p.l)) kr (by rw [arrF_size]; kernel_rfl) (by rw [arrF_size]; kernel_rfl) (arrF_one _ _ _)) [bk aq5 #[sc aq4 0 4 4, .slice p.ad p.n p.c] 54, ⟨true, aq4, .cells (sl (ints .u8 [99, 111, 114, 101]) []) 5 ((sl (ints .u8 [99, 111, 114, 101]) []).size, (sl (ints .u8 [99, 111, 114, 101]) []).size + 1)⟩, bk aq2 (arrF .u8 32 (dgF p.l)) 23, bk gm (mtr rq6.n) 91] rfl ?_
  clear F H; intro a v F H
  refine wpList_nil ?_
  refine hK3 _ _ ?_
  clear hK3
  try clear K3
  refine wp_ret ?_
  exact C_ret F H (rs := [.cell 4 23]) rfl (vs := [kyV (dgF p.l)]) (.row 2 rfl rfl _ Tryd.underlying23 rfl kr .nil) (kyV (dgF p.l)) rfl ⟨⟨0, 0, [], rq6.n⟩, rfl, trivial, H.kept, H.at_ (k := 3) rfl⟩

set_option maxRecDepth 100000 in
set_option maxHeartbeats 4000000 in
theorem smade_any (gm n : Nat) (seed : Nat → Nat) (hseed : ∀ i, i < 32 → seed i < 256) (nn : Nat) (hnn : nn < 4294967296) (w : World) (hW : Laid w) (hm : w.heap[gm]? = some (.cells (mtr n) 91 (0, 0))) : Calls Tryd.prog 64 #[.pointer (some ⟨gm, 0, none⟩), .agg (arrF .u8 32 seed), .int .u32 ((nn : Nat) : Int)] w fun e w' => ∃ r : SlR, e = .returned (.agg #[.pointer (some ⟨r.g, 0, none⟩), .pointer (some ⟨gm, 0, none⟩)]) ∧ True ∧ True ∧ w.heap.size ≤ r.g ∧ w'.heap[r.g]? = some (.cells (sgA gm (sdF seed nn) (tgF nn) zF 0 0) 101 (0, 0)) ∧ Kept [gm] w w' ∧ w'.heap[gm]? = some (.cells (mtr r.n) 91 (0, 0)) := by
  obtain ⟨h00, h01⟩ := hW.apart hm
  refine C_enter Tryd.func64 rfl 21 Tryd.ntmps64 (Nat.le_of_ble_eq_true rfl) (fun a F => ?_)
  have H := Hp.startX hm
  replace F : Fm 21 [] [(0, pt gm 0), (1, kyV seed), (2, nw nn)] a := F.weak _ (subL_of kr)
  refine C_seqK (fun K1 hK1 => ?_)
  refine C_region ?_
  refine T_new F H kr (fun ad => pt ad 0) (ce (arrF .u8 32 seed) 23) (fun w => kr) ?_
  clear F H; intro aq2 a v F H
  refine T_new F H kr (fun ad => pt ad 0) (ce #[.pointer none, .pointer none] 113) (fun w => kr) ?_
  clear F H; intro aq3 a v F H
  refine wpList_nil ?_
  refine hK1 _ _ ?_
  clear hK1
  try clear K1
  refine C_seqK (fun K4 hK4 => ?_)
  refine E_region F H (fun β => [(7, pt gm 0), (8, pt gm 0), (9, kyV seed), (10, nw nn), (11, nu nn), (12, sc ((β 5).g) 0 4 (β 5).cap), (13, sc ((β 6).g) 0 1 1), (14, kyV (sdF seed nn)), (15, pt gm 0), (16, nw nn), (17, kyV (tgF nn)), (18, pt ((β 11).g) 0), (19, pt gm 0), (20, .agg #[pt ((β 11).g) 0, pt gm 0])]) [7, 8, 9, 10, 11, 12, 13, 14, 15, 16, 17, 18, 19, 20] [⟨some 5, none, 0, [5], fun q_ => ce (sl (oct (highL nn 4)) (gh q_ 0).rest) 5, fun q_ => Own (oct (highL nn 4)) (gh q_ 0).rest (4) (gh q_ 0).cap 1, []⟩,
    ⟨some 6, none, 0, [5], fun q_ => ce #[sc ((gh q_ 0).g) 0 4 (gh q_ 0).cap] 54, gT, []⟩,
    ⟨some 11, none, 0, [], fun q_ => ce (sgA gm (sdF seed nn) (tgF nn) zF 0 0) 101, gT, []⟩,
    ⟨none, none, gm, [], fun q_ => ce (mtr n) 91, gT, [⟨7, [7], fun q_ => ce (mtr (gh q_ 0).n) 91, gT⟩, ⟨10, [10], fun q_ => ce (mtr (gh q_ 0).n) 91, gT⟩]⟩,
    ⟨none, none, aq3, [], fun q_ => ce #[.pointer none, .pointer none] 113, gT, [⟨14, [11], fun q_ => ce #[pt ((gh q_ 0).g) 0, pt gm 0] 113, gT⟩]⟩] [bk aq2 (arrF .u8 32 seed) 23] [2, 0, 1] 2 [] kr kr kr (fun β => rfl) ⟨fun h _ => Bool.noConfusion h, ⟨fun h _ => Bool.noConfusion h, ⟨fun h _ => Bool.noConfusion h, ⟨fun _ _ => trivial, ⟨fun _ _ => trivial, trivial⟩⟩⟩⟩⟩ ⟨?_, ?_, ?_, ?_, ?_, ?_, ?_, ?_, ?_, ?_, ?_, ?_, ?_, ?_, ?_, trivial⟩ ?_
  · exact E_k 21 (fun β => pt gm 0) 7 2
  · exact E_k 21 (fun β => pt gm 0) 8 2
  · exact E_v 21 (fun β => kyV seed) 9 2 [] (fun β w hk hl hq => R_loadH hl (own := true) (g := aq2) (all := (arrF .u8 32 seed)) (t := 23) (fr := (0, 0)) 0 kr 23 (.tmp 4) rfl 0 kr (arrF .u8 32 seed) (part_all _) _ Tryd.underlying23 rfl (by rw [arrF_size]; kernel_rfl))
  · exact E_k 21 (fun β => nw nn) 10 2
  · exact E_v 21 (fun β => nu nn) 11 2 [] (fun β w hk hl hq => R_conv (x := (.tmp 10)) rfl (k0 := .u32) kr kr (k := .u32) (a := ((nn : Nat) : Int)) kr (wru64 (a := nn) (by omega)) w)
  · exact E_callS 21 kq (fun β => sc ((β 5).g) 0 4 (β 5).cap) 12 rfl kq 2 (fun β r => offAt2_of kr kr) 49 (fun β => #[nu nn, ni 4]) (fun β w => kr) 2 [] 0 _ rfl kr kr rfl (fun β w hk hl hq => high_any nn 4 (by omega) (by omega) _)
  · exact E_new 21 kq (fun β => sc ((β 6).g) 0 1 1) 13 rfl kq 2 (fun β r => offAt2_of kr kr) 2 [] 1 _ rfl kr kr rfl (fun β w hk hl hq => ⟨⟨w.heap.size, 0, [], 0⟩, _, (R_buildS (len := 1) rfl Tryd.underlying30 (#[sc ((β 5).g) 0 4 (β 5).cap]) kr w), trivial, Nat.le_refl _, heap_alloc_new _ _, Kept.alloc _ _⟩)
  · exact E_callP 21 kq (fun β => kyV (sdF seed nn)) 14 rfl kq 2 (fun β r => offAt2_of kr kr) 85 (fun β => #[pt gm 0, kyV seed, .string ⟨#[115, 105, 103, 110]⟩, sc ((β 6).g) 0 1 1]) (fun β w => kr) 2 [(0, 0), (1, 0)] 3 0 _ _ rfl rfl kr kr rfl (fun β w hk hl hq hm => (der_sign gm n seed hseed [⟨some ⟨(β 5).g, 0, none⟩, 4, (β 5).cap, highL nn 4⟩] (by simp [catP, highL_len]) _ _ (#[sc ((β 5).g) 0 4 (β 5).cap]) _ (arr_of [⟨some ⟨(β 5).g, 0, none⟩, 4, (β 5).cap, highL nn 4⟩] kr) _ ⟨(RdS.all (hl.at_ (k := 0) rfl) (Own.le hq.1.1)), (highL_len _ _), trivial⟩ (hl.at_ (k := 1) rfl) (fun x hx => by simp only [catP, List.map_cons, List.map_nil, List.flatten_cons, List.flatten_nil, List.append_nil] at hx; exact highL_lt _ _ x hx) (hW.kept hk h00 h01) hm).mono (fun _ _ ⟨r, q1, q2, q3⟩ => ⟨r, q1, trivial, q3⟩))
  · exact E_k 21 (fun β => pt gm 0) 15 2
  · exact E_k 21 (fun β => nw nn) 16 2
  · exact E_callP 21 kq (fun β => kyV (tgF nn)) 17 rfl kq 2 (fun β r => offAt2_of kr kr) 59 (fun β => #[pt gm 0, nw nn]) (fun β w => kr) 2 [] 3 1 _ _ rfl rfl kr kr rfl (fun β w hk hl hq hm => stag_any gm (β 7).n nn hnn _ (hW.kept hk h00 h01) hm)
  · exact E_callS 21 kq (fun β => pt ((β 11).g) 0) 18 rfl kq 2 (fun β r => offAt2_of kr kr) 21 (fun β => #[pt gm 0, kyV (sdF seed nn), kyV (tgF nn)]) (fun β w => kr) 2 [] 2 _ rfl kr kr rfl (fun β w hk hl hq => otsnew_any gm (sdF seed nn) (tgF nn) _)
  · exact E_k 21 (fun β => pt gm 0) 19 2
  · exact E_k 21 (fun β => .agg #[pt ((β 11).g) 0, pt gm 0]) 20 2
  · exact E_store 21 kq rfl 2 [] 4 0 _ _ rfl rfl kr rfl (fun _ => trivial) (fun β w hk hl hq hm => let ⟨w', h1, h2, h3⟩ := P_row (cs := #[pt ((β 11).g) 0, pt gm 0]) (old := #[.pointer none, .pointer none]) rfl rfl (ty := 113) (x := (.tmp 6)) (y := (.tmp 20)) rfl kr kr kr kr kr hm; ⟨w', h1, h2, h3⟩)
  clear F H; intro β a v Q F H
  replace H : Hp [gm] w [bk ((β 5).g) (sl (oct (highL nn 4)) (β 5).rest) 5, bk ((β 6).g) #[sc ((β 5).g) 0 4 (β 5).cap] 54, bk ((β 11).g) (sgA gm (sdF seed nn) (tgF nn) zF 0 0) 101, bk gm (mtr (β 10).n) 91, bk aq3 #[pt ((β 11).g) 0, pt gm 0] 113, bk aq2 (arrF .u8 32 seed) 23] v := H
  replace F : Fm 21 [] [(20, .agg #[pt ((β 11).g) 0, pt gm 0]), (19, pt gm 0), (18, pt ((β 11).g) 0), (17, kyV (tgF nn)), (16, nw nn), (15, pt gm 0), (14, kyV (sdF seed nn)), (13, sc ((β 6).g) 0 1 1), (12, sc ((β 5).g) 0 4 (β 5).cap), (11, nu nn), (10, nw nn), (9, kyV seed), (8, pt gm 0), (7, pt gm 0), (6, pt aq3 0), (4, pt aq2 0), (0, pt gm 0), (1, kyV seed), (2, nw nn)] a := F.weak _ (subL_of kr)
  have Qh9_0 : Own (oct (highL nn 4)) (β 5).rest (4) (β 5).cap 1 := Q.1
  clear Q
  generalize β 5 = rq5 at F H Qh9_0
  generalize β 6 = rq6 at F H Qh9_0
  generalize β 11 = rq7 at F H Qh9_0
  generalize β 7 = rq8 at F H Qh9_0
  generalize β 10 = rq9 at F H Qh9_0
  skip
  refine ?_
  refine hK4 _ _ ?_
  clear hK4
  try clear K4
  refine wp_ret ?_
  exact C_ret F H (rs := [.cell 6 113]) rfl (vs := [.agg #[pt rq7.g 0, pt gm 0]]) (.row 4 rfl rfl _ Tryd.underlying113 rfl kr .nil) (.agg #[pt rq7.g 0, pt gm 0]) rfl ⟨⟨rq7.g, 0, [], rq9.n⟩, rfl, trivial, trivial, (H.own ⟨true, rq7.g, _⟩ (List.mem_of_getElem? (i := 2) rfl) rfl).resolve_right (fun h => H.apart (i := 2) (j := 3) rfl rfl (by decide) (List.mem_singleton.1 h)), H.at_ (k := 2) rfl, H.kept, H.at_ (k := 3) rfl⟩

set_option maxRecDepth 100000 in
set_option maxHeartbeats 4000000 in
theorem sof_any (gm n sg : Nat) (seed : Nat → Nat) (nn : Nat) (p : SlP) (hbk : ∀ x ∈ p.l, x < 256) (hn : p.l.length = p.n) (h64 : p.n ≤ 1000) (w : World) (hrd : RdK [gm] w p) (hW : Laid w) (hm : w.heap[gm]? = some (.cells (mtr n) 91 (0, 0))) (hs : w.heap[sg]? = some (.cells (sgA gm (sdF seed nn) (tgF nn) zF 0 0) 101 (0, 0))) : Calls Tryd.prog 87 #[.agg #[.pointer (some ⟨sg, 0, none⟩), .pointer (some ⟨gm, 0, none⟩)], .slice p.ad p.n p.c] w fun e w' => ∃ r : SlR, e = .returned (.slice (some ⟨r.g, 0, none⟩) 67 r.cap) ∧ True ∧ Own (keysC (sigN seed nn p.l) 67) r.rest 67 r.cap 32 ∧ w.heap.size ≤ r.g ∧ w'.heap[r.g]? = some (.cells (sl (keysC (sigN seed nn p.l) 67) r.rest) 23 (0, 0)) ∧ Kept [gm] w w' ∧ w'.heap[gm]? = some (.cells (mtr r.n) 91 (0, 0)) := by
  obtain ⟨h00, h01⟩ := hW.apart hm
  have hne : gm ≠ sg := ne_of_ty hm hs rfl
  refine C_enter Tryd.func87 rfl 12 Tryd.ntmps87 (Nat.le_of_ble_eq_true rfl) (fun a F => ?_)
  have H := Hp.startM hm hs hne
  replace F : Fm 12 [] [(0, .agg #[pt sg 0, pt gm 0]), (1, .slice p.ad p.n p.c)] a := F.weak _ (subL_of kr)
  refine C_seqK (fun K1 hK1 => ?_)
  refine C_region ?_
  refine T_new F H kr (fun ad => pt ad 0) (ce #[pt sg 0, pt gm 0] 113) (fun w => kr) ?_
  clear F H; intro aq2 a v F H
  refine T_k F H (.slice none 0 0) ?_
  clear F; intro a F
  refine wpList_nil ?_
  refine hK1 _ _ ?_
  clear hK1
  try clear K1
  refine C_seqK (fun K3 hK3 => ?_)
  refine E_region F H (fun β => [(5, pt aq2 0), (6, pt sg 0), (7, pt aq2 1), (8, pt gm 0), (9, .slice p.ad p.n p.c), (10, kyV (dgF p.l)), (11, sc ((β 6).g) 0 67 (β 6).cap), (4, sc ((β 6).g) 0 67 (β 6).cap)]) [5, 6, 7, 8, 9, 10, 11, 4] [⟨some 6, none, 0, [6], fun q_ => ce (sl (keysC (sigN seed nn p.l) 67) (gh q_ 0).rest) 23, fun q_ => Own (keysC (sigN seed nn p.l) 67) (gh q_ 0).rest 67 (gh q_ 0).cap 32, []⟩,
    ⟨none, none, gm, [], fun q_ => ce (mtr n) 91, gT, [⟨5, [5], fun q_ => ce (mtr (gh q_ 0).n) 91, gT⟩, ⟨6, [6], fun q_ => ce (mtr (gh q_ 0).n) 91, gT⟩]⟩] [bk aq2 #[pt sg 0, pt gm 0] 113, br sg (sgA gm (sdF seed nn) (tgF nn) zF 0 0) 101] [1, 0, 2] 2 [] kr kr kr (fun β => rfl) ⟨fun h _ => Bool.noConfusion h, ⟨fun _ _ => trivial, trivial⟩⟩ ⟨?_, ?_, ?_, ?_, ?_, ?_, ?_, ?_, trivial⟩ ?_
  · exact E_k 12 (fun β => pt aq2 0) 5 2
  · exact E_v 12 (fun β => pt sg 0) 6 2 [] (fun β w hk hl hq => R_cellH hl (own := true) (g := aq2) (all := #[pt sg 0, pt gm 0]) (t := 113) (fr := (0, 0)) 0 kr 36 (.tmp 5) rfl 0 kr (pt sg 0) kr _ Tryd.underlying36 rfl)
  · exact E_k 12 (fun β => pt aq2 1) 7 2
  · exact E_v 12 (fun β => pt gm 0) 8 2 [] (fun β w hk hl hq => R_cellH hl (own := true) (g := aq2) (all := #[pt sg 0, pt gm 0]) (t := 113) (fr := (0, 0)) 0 kr 27 (.tmp 7) rfl 1 kr (pt gm 0) kr _ Tryd.underlying27 rfl)
  · exact E_k 12 (fun β => .slice p.ad p.n p.c) 9 2
  · exact E_callP 12 kq (fun β => kyV (dgF p.l)) 10 rfl kq 2 (fun β r => offAt2_of kr kr) 60 (fun β => #[pt gm 0, .slice p.ad p.n p.c]) (fun β w => kr) 2 [] 1 0 _ _ rfl rfl kr kr rfl (fun β w hk hl hq hm => sdig_any gm n p hbk hn h64 _ (hrd.kept hk) (hW.kept hk h00 h01) hm)
  · exact E_callSP 12 kq (fun β => sc ((β 6).g) 0 67 (β 6).cap) 11 rfl kq 2 (fun β r => offAt2_of kr kr) 23 (fun β => #[pt sg 0, kyV (dgF p.l)]) (fun β w => kr) 2 [] 0 0 1 _ _ _ rfl rfl rfl kr kr rfl (fun β w hk hl hq hm => sign_any gm (β 5).n sg (sdF seed nn) (sdF_lt _ _) (tgF nn) (tgF_lt _) zF 0 0 (dgF p.l) (dgF_lt _) _ (hW.kept hk h00 h01) hm (hl.at_ (k := 1) rfl))
  · exact E_k 12 (fun β => sc ((β 6).g) 0 67 (β 6).cap) 4 2
  clear F H; intro β a v Q F H
  replace H : Hp [gm] w [bk ((β 6).g) (sl (keysC (sigN seed nn p.l) 67) (β 6).rest) 23, bk gm (mtr (β 6).n) 91, bk aq2 #[pt sg 0, pt gm 0] 113, br sg (sgA gm (sdF seed nn) (tgF nn) zF 0 0) 101] v := H
  replace F : Fm 12 [] [(4, sc ((β 6).g) 0 67 (β 6).cap), (11, sc ((β 6).g) 0 67 (β 6).cap), (10, kyV (dgF p.l)), (9, .slice p.ad p.n p.c), (8, pt gm 0), (7, pt aq2 1), (6, pt sg 0), (5, pt aq2 0), (2, pt aq2 0), (0, .agg #[pt sg 0, pt gm 0]), (1, .slice p.ad p.n p.c)] a := F.weak _ (subL_of kr)
  have Qh5_0 : Own (keysC (sigN seed nn p.l) 67) (β 6).rest 67 (β 6).cap 32 := Q.1
  clear Q
  generalize β 6 = rq4 at F H Qh5_0
  generalize β 5 = rq5 at F H Qh5_0
  skip
  refine ?_
  refine hK3 _ _ ?_
  clear hK3
  try clear K3
  refine wp_ret ?_
  exact C_ret F H (rs := [.tmp 4]) rfl (vs := [sc rq4.g 0 67 rq4.cap]) (.tmp rfl .nil) (sc rq4.g 0 67 rq4.cap) rfl ⟨⟨rq4.g, rq4.cap, rq4.rest, rq4.n⟩, rfl, trivial, Qh5_0, (H.own ⟨true, rq4.g, _⟩ (List.mem_of_getElem? (i := 0) rfl) rfl).resolve_right (fun h => H.apart (i := 0) (j := 1) rfl rfl (by decide) (List.mem_singleton.1 h)), H.at_ (k := 0) rfl, H.kept, H.at_ (k := 1) rfl⟩

set_option maxRecDepth 100000 in
set_option maxHeartbeats 4000000 in
theorem spub_any (gm n : Nat) (seed : Nat → Nat) (hseed : ∀ i, i < 32 → seed i < 256) (nn : Nat) (hnn : nn < 4294967296) (w : World) (hW : Laid w) (hm : w.heap[gm]? = some (.cells (mtr n) 91 (0, 0))) : Calls Tryd.prog 36 #[.pointer (some ⟨gm, 0, none⟩), .agg (arrF .u8 32 seed), .int .u32 ((nn : Nat) : Int)] w fun e w' => ∃ r : SlR, e = .returned (.agg (arrF .u8 32 (pubN seed nn))) ∧ True ∧ Kept [gm] w w' ∧ w'.heap[gm]? = some (.cells (mtr r.n) 91 (0, 0)) := by
  obtain ⟨h00, h01⟩ := hW.apart hm
  obtain ⟨ky, hky⟩ : ∃ ky, ky = pubN seed nn := ⟨_, rfl⟩
  rw [← hky]
  refine C_enter Tryd.func36 rfl 13 Tryd.ntmps36 (Nat.le_of_ble_eq_true rfl) (fun a F => ?_)
  have H := Hp.startX hm
  replace F : Fm 13 [] [(0, pt gm 0), (1, kyV seed), (2, nw nn)] a := F.weak _ (subL_of kr)
  refine C_seqK (fun K1 hK1 => ?_)
  refine C_region ?_
  refine T_new F H kr (fun ad => pt ad 0) (ce (arrF .u8 32 seed) 23) (fun w => kr) ?_
  clear F H; intro aq2 a v F H
  refine T_new F H kr (fun ad => pt ad 0) (ce z8 23) (fun w => kr) ?_
  clear F H; intro aq3 a v F H
  refine wpList_nil ?_
  refine hK1 _ _ ?_
  clear hK1
  try clear K1
  refine C_seqK (fun K4 hK4 => ?_)
  refine C_region ?_
  refine T_k F H (pt gm 0) ?_
  clear F; intro a F
  refine T_val F H kr (kyV seed) (R_load (own := true) (g := aq2) (all := (arrF .u8 32 seed)) (t := 23) (fr := (0, 0)) 1 kr 23 (.tmp 4) rfl 0 kr (arrF .u8 32 seed) (part_all _) _ Tryd.underlying23 rfl (by rw [arrF_size]; kernel_rfl)) ?_
  clear F; intro a F
  refine T_k F H (nw nn) ?_
  clear F; intro a F
  refine T_callX (α := SlR) F H kr 64 #[pt gm 0, kyV seed, nw nn] (fun rX => .agg #[pt rX.g 0, pt gm 0]) (fun rX => [bk rX.g (sgA gm (sdF seed nn) (tgF nn) zF 0 0) 101, bk aq3 z8 23, bk aq2 (arrF .u8 32 seed) 23, bk gm (mtr rX.n) 91]) (fun rX => (True) ∧ (True)) (fun w => kr) (fun w H => callsX_bothV H (k := 2) rfl (smade_any gm n seed hseed nn hnn _ (hW.kept H.kept h00 h01) (H.at_ (k := 2) rfl))) ?_
  clear F H; intro rq5 a v Qrq5 F H
  refine T_k F H (pt rq5.g 0) ?_
  clear F; intro a F
  refine T_callX (α := SlR) F H kr 22 #[pt rq5.g 0] (fun rX => kyV ky) (fun rX => [bk rq5.g (sgA gm (sdF seed nn) (tgF nn) ky 1 0) 101, bk aq3 z8 23, bk aq2 (arrF .u8 32 seed) 23, bk gm (mtr rX.n) 91]) (fun rX => True) (fun w => kr) (fun w H => callsX_put2 H (k := 3) (k2 := 0) rfl rfl (by decide) (pubP_first gm rq5.n rq5.g (sdF seed nn) (sdF_lt _ _) (tgF nn) (tgF_lt _) ky hky.symm zF _ (hW.kept H.kept h00 h01) (H.at_ (k := 3) rfl) (H.at_ (k := 0) rfl))) ?_
  clear F H; intro rq6 a v Qrq6 F H
  refine T_set F H kr rfl 1 rfl (arrF .u8 32 ky) (S_row 1 rfl 23 (.tmp 6) (.tmp 12) rfl kr (arrF .u8 32 ky) kr (by rw [arrF_size]; kernel_rfl) (by rw [arrF_size]; kernel_rfl) (arrF_one _ _ _)) [bk rq5.g (sgA gm (sdF seed nn) (tgF nn) ky 1 0) 101, bk aq3 (arrF .u8 32 ky) 23, bk aq2 (arrF .u8 32 seed) 23, bk gm (mtr rq6.n) 91] rfl ?_
  clear F H; intro a v F H
  refine wpList_nil ?_
  refine hK4 _ _ ?_
  clear hK4
  try clear K4
  refine wp_ret ?_
  exact C_ret F H (rs := [.cell 6 23]) rfl (vs := [kyV ky]) (.row 1 rfl rfl _ Tryd.underlying23 rfl kr .nil) (kyV ky) rfl ⟨⟨0, 0, [], rq6.n⟩, rfl, trivial, H.kept, H.at_ (k := 3) rfl⟩

set_option maxRecDepth 100000 in
set_option maxHeartbeats 4000000 in
theorem ssign_any (gm n : Nat) (seed : Nat → Nat) (hseed : ∀ i, i < 32 → seed i < 256) (nn : Nat) (hnn : nn < 4294967296) (p : SlP) (hbk : ∀ x ∈ p.l, x < 256) (hn : p.l.length = p.n) (h64 : p.n ≤ 1000) (w : World) (hrd : RdK [gm] w p) (hW : Laid w) (hm : w.heap[gm]? = some (.cells (mtr n) 91 (0, 0))) : Calls Tryd.prog 58 #[.pointer (some ⟨gm, 0, none⟩), .agg (arrF .u8 32 seed), .int .u32 ((nn : Nat) : Int), .slice p.ad p.n p.c] w fun e w' => ∃ r : SlR, e = .returned (.slice (some ⟨r.g, 0, none⟩) 67 r.cap) ∧ True ∧ Own (keysC (sigN seed nn p.l) 67) r.rest 67 r.cap 32 ∧ w.heap.size ≤ r.g ∧ w'.heap[r.g]? = some (.cells (sl (keysC (sigN seed nn p.l) 67) r.rest) 23 (0, 0)) ∧ Kept [gm] w w' ∧ w'.heap[gm]? = some (.cells (mtr r.n) 91 (0, 0)) := by
  obtain ⟨h00, h01⟩ := hW.apart hm
  refine C_enter Tryd.func58 rfl 15 Tryd.ntmps58 (Nat.le_of_ble_eq_true rfl) (fun a F => ?_)
  have H := Hp.startX hm
  replace F : Fm 15 [] [(0, pt gm 0), (1, kyV seed), (2, nw nn), (3, .slice p.ad p.n p.c)] a := F.weak _ (subL_of kr)
  refine C_seqK (fun K1 hK1 => ?_)
  refine C_region ?_
  refine T_new F H kr (fun ad => pt ad 0) (ce (arrF .u8 32 seed) 23) (fun w => kr) ?_
  clear F H; intro aq2 a v F H
  refine T_k F H (.slice none 0 0) ?_
  clear F; intro a F
  refine wpList_nil ?_
  refine hK1 _ _ ?_
  clear hK1
  try clear K1
  refine C_seqK (fun K3 hK3 => ?_)
  refine C_region ?_
  refine T_k F H (pt gm 0) ?_
  clear F; intro a F
  refine T_val F H kr (kyV seed) (R_load (own := true) (g := aq2) (all := (arrF .u8 32 seed)) (t := 23) (fr := (0, 0)) 0 kr 23 (.tmp 5) rfl 0 kr (arrF .u8 32 seed) (part_all _) _ Tryd.underlying23 rfl (by rw [arrF_size]; kernel_rfl)) ?_
  clear F; intro a F
  refine T_k F H (nw nn) ?_
  clear F; intro a F
  refine T_callX (α := SlR) F H kr 64 #[pt gm 0, kyV seed, nw nn] (fun rX => .agg #[pt rX.g 0, pt gm 0]) (fun rX => [bk rX.g (sgA gm (sdF seed nn) (tgF nn) zF 0 0) 101, bk aq2 (arrF .u8 32 seed) 23, bk gm (mtr rX.n) 91]) (fun rX => (True) ∧ (True)) (fun w => kr) (fun w H => callsX_bothV H (k := 1) rfl (smade_any gm n seed hseed nn hnn _ (hW.kept H.kept h00 h01) (H.at_ (k := 1) rfl))) ?_
  clear F H; intro rq4 a v Qrq4 F H
  refine T_k F H (.slice p.ad p.n p.c) ?_
  clear F; intro a F
  refine T_callX (α := SlR) F H kr 87 #[.agg #[pt rq4.g 0, pt gm 0], .slice p.ad p.n p.c] (fun rX => sc rX.g 0 67 rX.cap) (fun rX => [bk rX.g (sl (keysC (sigN seed nn p.l) 67) rX.rest) 23, bk rq4.g (sgA gm (sdF seed nn) (tgF nn) zF 0 0) 101, bk aq2 (arrF .u8 32 seed) 23, bk gm (mtr rX.n) 91]) (fun rX => (True) ∧ (Own (keysC (sigN seed nn p.l) 67) rX.rest 67 rX.cap 32)) (fun w => kr) (fun w H => callsX_bothV H (k := 2) rfl (sof_any gm rq4.n rq4.g seed nn p hbk hn h64 _ (hrd.kept H.kept) (hW.kept H.kept h00 h01) (H.at_ (k := 2) rfl) (H.at_ (k := 0) rfl))) ?_
  clear F H; intro rq5 a v Qrq5 F H
  refine T_k F H (sc rq5.g 0 67 rq5.cap) ?_
  clear F; intro a F
  refine wpList_nil ?_
  refine hK3 _ _ ?_
  clear hK3
  try clear K3
  refine wp_ret ?_
  exact C_ret F H (rs := [.tmp 8]) rfl (vs := [sc rq5.g 0 67 rq5.cap]) (.tmp rfl .nil) (sc rq5.g 0 67 rq5.cap) rfl ⟨⟨rq5.g, rq5.cap, rq5.rest, rq5.n⟩, rfl, trivial, Qrq5.2, (H.own ⟨true, rq5.g, _⟩ (List.mem_of_getElem? (i := 0) rfl) rfl).resolve_right (fun h => H.apart (i := 0) (j := 3) rfl rfl (by decide) (List.mem_singleton.1 h)), H.at_ (k := 0) rfl, H.kept, H.at_ (k := 3) rfl⟩
end Go.Proofs.YtdejhenkdbjakaaDoor
