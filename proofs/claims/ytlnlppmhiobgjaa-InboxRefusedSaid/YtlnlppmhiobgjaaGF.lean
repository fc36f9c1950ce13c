/- Walks: outbox.Due: its iterator. -/
import Derived.Test.YtlnlppmhiobgjaaGE
set_option linter.unusedVariables false
set_option linter.unusedSimpArgs false
namespace Go.Proofs.Ytlnlppmhiobgjaa
open Go Go.RowKit
/-- What Due leaves of an entry. -/
def dueU (now : Nat) (e : Ent) : Ent := if e.due ≤ now then { e with due := now + 5 } else e
def dueK (now k : Nat) (E : List Ent) : List Ent := (E.take k).map (dueU now) ++ E.drop k
theorem dueK_zero (now : Nat) (E : List Ent) : dueK now 0 E = E := by simp [dueK]
theorem dueK_all (now : Nat) (E : List Ent) : dueK now E.length E = E.map (dueU now) := by simp [dueK]
theorem dueK_len (now : Nat) {k : Nat} {E : List Ent} (h : k ≤ E.length) : (dueK now k E).length = E.length := by
  simp only [dueK, List.length_append, List.length_map, List.length_take, List.length_drop]; omega
theorem dueK_at (now : Nat) {k : Nat} {E : List Ent} {e : Ent} (h : E[k]? = some e) : (dueK now k E)[k]? = some e := by
  have hk := (List.getElem?_eq_some_iff.1 h).1
  unfold dueK
  rw [List.getElem?_append_right (by simp; omega), List.getElem?_drop]
  rw [List.length_map, List.length_take, Nat.min_eq_left (by omega), Nat.sub_self, Nat.add_zero]; exact h
theorem dueK_next (now : Nat) {k : Nat} {E : List Ent} {e : Ent} (h : E[k]? = some e) : dueK now (k + 1) E = (dueK now k E).set k (dueU now e) := by
  have hk := (List.getElem?_eq_some_iff.1 h).1
  have hd : E.drop k = e :: E.drop (k + 1) := by
    rw [List.drop_eq_getElem_cons hk, (List.getElem?_eq_some_iff.1 h).2]
  unfold dueK
  rw [List.set_append_right _ _ (by simp; omega), List.length_map, List.length_take, Nat.min_eq_left (by omega), Nat.sub_self, hd, List.set_cons_zero, List.take_add_one, h]
  simp
theorem set_self {α : Type} {l : List α} {k : Nat} {e : α} (h : l[k]? = some e) : l.set k e = l := by
  obtain ⟨h1, h2⟩ := List.getElem?_eq_some_iff.1 h
  rw [← h2]; exact List.set_getElem_self h1
theorem take_filter {E : List Ent} {k : Nat} {e : Ent} (p : Ent → Bool) (h : E[k]? = some e) : (E.take (k + 1)).filter p = (E.take k).filter p ++ if p e then [e] else [] := by
  rw [List.take_add_one, h, List.filter_append]
  congr 1
  simp [List.filter_cons]
/-- The octets of those that are due. -/
def dueO (now : Nat) (E : List Ent) : List (List Nat) := (E.filter fun e => decide (e.due ≤ now)).map (·.c.l)

theorem due_rnd (X : List Nat) (w0 : World) (m ob nb pb qb xb ag n cap fn D lp now : Nat) (rest : List Value) (hnow : now < 4611686018427387904) (a : Act) (F : Fm 28 [] [(5, .pointer (some ⟨ob, 0, none⟩)), (3, .pointer (some ⟨nb, 0, none⟩))] a) (tm : Array Value) (E : List Ent) (k : Nat) (e : Ent) (he : E[k]? = some e) (hec : e.c.ok) (hb : e.c.sv.RdK X w0) (o : Ls) (ho : o.ok) (hn3 : o.cs.length < 1000) (w : World) (H : Hp X w0 (⟨true, lp, duRec fn tm D .ready none⟩ :: ⟨true, D, .deferred (some [])⟩ :: ⟨true, ob, .cells #[(o.v)] 26 (0, 0)⟩ :: ⟨true, nb, .cells #[.int .u64 ((now : Nat) : Int)] 48 (0, 0)⟩ :: ⟨true, pb, .cells #[.pointer (some ⟨xb, 0, none⟩)] 44 (0, 0)⟩ :: ⟨true, qb, .cells #[.int .u64 ((now : Nat) : Int)] 48 (0, 0)⟩ :: ⟨false, xb, .cells #[.slice (some ⟨ag, 0, none⟩) n cap] 47 (0, 0)⟩ :: ⟨true, ag, .cells (sl (entC E) rest) 71 (0, 0)⟩ :: o.blks) w) :
    RoundIn Fence.wide m Try.prog lp fn (a.tmps.setIfInBounds 10 (.pointer (some ⟨ag, 0 + k * 3, none⟩))) duAs duBd w fun en w' => en = .returned (.bool true) ∧ ∃ (o' : Ls) (c : Cl), o'.ok ∧ o'.cs = o.cs ++ [c] ∧ c.ok ∧ c.l = e.c.l ∧ Hp X w0 (⟨true, lp, duRec fn tm D .ready none⟩ :: ⟨true, D, .deferred (some [])⟩ :: ⟨true, ob, .cells #[(o'.v)] 26 (0, 0)⟩ :: ⟨true, nb, .cells #[.int .u64 ((now : Nat) : Int)] 48 (0, 0)⟩ :: ⟨true, pb, .cells #[.pointer (some ⟨xb, 0, none⟩)] 44 (0, 0)⟩ :: ⟨true, qb, .cells #[.int .u64 ((now : Nat) : Int)] 48 (0, 0)⟩ :: ⟨false, xb, .cells #[.slice (some ⟨ag, 0, none⟩) n cap] 47 (0, 0)⟩ :: ⟨true, ag, .cells (sl (entC (E.set k { e with due := now + 5 })) rest) 71 (0, 0)⟩ :: o'.blks) w' := by
  obtain ⟨onl, og, oc, orest, cs⟩ := o
  obtain ⟨ix, du, ⟨nl, bg, bc, br_, l⟩⟩ := e
  cases onl with
  | true =>
    have h0 : cs = [] := ho.nil rfl
    subst h0
    cases nl with
    | true =>
      have h1 : l = [] := hec.nil rfl
      subst h1
      exact due_first_nil X w0 m ob nb pb qb xb ag n cap fn D lp now rest hnow a F tm E k ix du bg bc br_ he w H
    | false => exact due_first_some X w0 m ob nb pb qb xb ag n cap fn D lp now rest hnow a F tm E k ix du bg bc br_ l hec.big hb he w H
  | false =>
    cases nl with
    | true =>
      have h1 : l = [] := hec.nil rfl
      subst h1
      exact due_later_nil X w0 m ob nb pb qb xb ag n cap fn D lp now rest hnow a F tm E k ix du bg bc br_ he og oc orest cs hn3 (ho.own rfl) ho.each w H
    | false => exact due_later_some X w0 m ob nb pb qb xb ag n cap fn D lp now rest hnow a F tm E k ix du bg bc br_ l hec.big hb he og oc orest cs hn3 (ho.own rfl) ho.each w H

set_option maxRecDepth 100000 in
set_option maxHeartbeats 4000000 in
theorem due_iter (X : List Nat) (w0 : World) (ob nb pb qb xb ag n cap fn D lp now : Nat) (rest : List Value) (hnow : now < 4611686018427387904) (E : List Ent) (hn : n = E.length) (hn3 : n < 1000) (hok : ∀ e ∈ E, e.c.ok) (hrd : ∀ e ∈ E, e.c.sv.RdK X w0) (aM : Act) (FM : Fm 28 [] [(5, .pointer (some ⟨ob, 0, none⟩)), (3, .pointer (some ⟨nb, 0, none⟩))] aM) (w : World) (H : Hp X w0 (⟨true, lp, duRec fn aM.tmps D .ready none⟩ :: ⟨true, D, .deferred (some [])⟩ :: ⟨true, ob, .cells #[((⟨true, 0, 0, [], []⟩ : Ls).v)] 26 (0, 0)⟩ :: ⟨true, nb, .cells #[.int .u64 ((now : Nat) : Int)] 48 (0, 0)⟩ :: ⟨true, pb, .cells #[.pointer (some ⟨xb, 0, none⟩)] 44 (0, 0)⟩ :: ⟨true, qb, .cells #[.int .u64 ((now : Nat) : Int)] 48 (0, 0)⟩ :: ⟨false, xb, .cells #[.slice (some ⟨ag, 0, none⟩) n cap] 47 (0, 0)⟩ :: ⟨true, ag, .cells (sl (entC E) rest) 71 (0, 0)⟩ :: (⟨true, 0, 0, [], []⟩ : Ls).blks) w) : Calls Try.prog 37 (#[.func (.yield lp) #[] #[]] ++ #[.pointer (some ⟨pb, 0, none⟩), .pointer (some ⟨qb, 0, none⟩)]) w fun en w' => ∃ (u : Value) (o : Ls), en = .returned u ∧ (o.ok ∧ o.ls = dueO now E ∧ o.cs.length ≤ E.length) ∧ Hp X w0 (⟨true, lp, duRec fn aM.tmps D .ready none⟩ :: ⟨true, D, .deferred (some [])⟩ :: ⟨true, ob, .cells #[(o.v)] 26 (0, 0)⟩ :: ⟨true, nb, .cells #[.int .u64 ((now : Nat) : Int)] 48 (0, 0)⟩ :: ⟨true, pb, .cells #[.pointer (some ⟨xb, 0, none⟩)] 44 (0, 0)⟩ :: ⟨true, qb, .cells #[.int .u64 ((now : Nat) : Int)] 48 (0, 0)⟩ :: ⟨false, xb, .cells #[.slice (some ⟨ag, 0, none⟩) n cap] 47 (0, 0)⟩ :: ⟨true, ag, .cells (sl (entC (E.map (dueU now))) rest) 71 (0, 0)⟩ :: o.blks) w' := by
  refine C_enter Try.func37 rfl 35 Try.ntmps37 (Nat.le_of_ble_eq_true rfl) (fun a F => ?_)
  replace F : Fm 35 [] [(0, .func (.yield lp) #[] #[]), (1, pt pb 0), (2, pt qb 0)] a := F.weak _ (subL_of kr)
  refine C_seqK (fun K1 hK1 => ?_)
  refine C_region ?_
  refine T_val F H kr (pt xb 0) (R_cell (own := true) (g := pb) (all := #[pt xb 0]) (t := 44) (fr := (0, 0)) 4 kr 44 (.tmp 1) rfl 0 kr (pt xb 0) kr _ Try.underlying44 rfl) ?_
  clear F; intro a F
  refine T_k F H (pt xb 0) ?_
  clear F; intro a F
  refine T_k F H (pt xb 0) ?_
  clear F; intro a F
  refine T_val F H kr (sc ag 0 n cap) (R_cell (own := false) (g := xb) (all := #[sc ag 0 n cap]) (t := 47) (fr := (0, 0)) 6 kr 45 (.tmp 7) rfl 0 kr (sc ag 0 n cap) kr _ Try.underlying45 rfl) ?_
  clear F; intro a F
  refine T_k F H (ni n) ?_
  clear F; intro a F
  refine T_k F H (ni 0) ?_
  clear F; intro a F
  refine wpList_nil ?_
  refine hK1 _ _ ?_
  clear hK1
  try clear K1
  replace F : Fm 35 [] [(10, ni 0), (9, ni n), (0, .func (.yield lp) #[] #[]), (1, pt pb 0), (2, pt qb 0)] a := F.weak _ (subL_of kr)
  refine wp_block ?_
  refine C_loop (fun m a v => ∃ (k : Nat) (o : Ls), k + m = n ∧ (o.ok ∧ o.ls = dueO now (E.take k) ∧ o.cs.length ≤ k) ∧ Fm 35 [] [(10, ni k), (9, ni n), (0, .func (.yield lp) #[] #[]), (1, pt pb 0), (2, pt qb 0)] a ∧ Hp X w0 (⟨true, lp, duRec fn aM.tmps D .ready none⟩ :: ⟨true, D, .deferred (some [])⟩ :: (bk ob #[(o.v)] 26) :: (bk nb #[nu now] 48) :: (bk pb #[pt xb 0] 44) :: (bk qb #[nu now] 48) :: (br xb #[sc ag 0 n cap] 47) :: (bk ag (sl (entC (dueK now k E)) rest) 71) :: o.blks) v) n ⟨0, ⟨true, 0, 0, [], []⟩, Nat.zero_add _, ⟨⟨fun _ => rfl, (fun e => by cases e), fun c hc => by cases hc⟩, rfl, Nat.le_refl _⟩, F, by rw [dueK_zero]; exact H⟩ ?_
  clear F H
  intro m a v ⟨k, o, hk, hI, F, H⟩
  obtain ⟨ho, hls, hcn⟩ := hI
  rcases m with _ | m
  rotate_left
  · obtain ⟨e, he⟩ : ∃ e, E[k]? = some e := ⟨_, List.getElem?_eq_getElem (show k < E.length by omega)⟩
    have hmem := List.mem_of_getElem? he
    have heK := dueK_at now he
    by_cases hd : e.due ≤ now
    · skip
      refine C_seqK (fun K2 hK2 => ?_)
      refine C_region ?_
      refine T_val F H kr (.bool true) (fun w _ => R_bin (x := (.tmp 10)) (y := (.tmp 9)) rfl (k := .i64) (a := ((k : Nat) : Int)) (b := ((n : Nat) : Int)) kr kr (i_lt (by omega)) w) ?_
      clear F; intro a F
      refine wpList_nil ?_
      refine hK2 _ _ ?_
      clear hK2
      try clear K2
      refine C_seqK (fun K3 hK3 => ?_)
      refine C_if F true rfl rfl ?_
      refine wp_skip ?_
      refine hK3 _ _ ?_
      clear hK3
      try clear K3
      refine C_seqK (fun K4 hK4 => ?_)
      refine wp_block ?_
      refine C_seqK (fun K5 hK5 => ?_)
      refine C_region ?_
      refine T_k F H (ni k) ?_
      clear F; intro a F
      refine T_k F H (ni k) ?_
      clear F; intro a F
      refine wpList_nil ?_
      refine hK5 _ _ ?_
      clear hK5
      try clear K5
      refine C_seqK (fun K6 hK6 => ?_)
      refine Y_region F H 1 [(13, pt xb 0), (14, pt xb 0), (15, pt xb 0), (16, sc ag 0 n cap), (17, ni k), (18, pt ag (0 + (k) * 3)), (19, pt ag ((0 + (k) * 3) + 1)), (20, nu e.due), (21, nu now), (22, .bool true), (23, .bool true), (24, .func (.yield lp) #[] #[]), (25, pt xb 0), (26, pt xb 0), (27, pt xb 0), (28, sc ag 0 n cap), (29, ni k), (30, pt ag (0 + (k) * 3)), (31, .bool true), (32, .bool false), (33, .bool false)] [13, 14, 15, 16, 17, 18, 19, 20, 21, 22, 23, 24, 25, 26, 27, 28, 29, 30, 31, 32, 33] 18 (fun w' => ∃ (o' : Ls) (c : Cl), o'.ok ∧ o'.cs = o.cs ++ [c] ∧ c.ok ∧ c.l = e.c.l ∧ Hp X w0 (⟨true, lp, duRec fn aM.tmps D .ready none⟩ :: ⟨true, D, .deferred (some [])⟩ :: (bk ob #[(o'.v)] 26) :: (bk nb #[nu now] 48) :: (bk pb #[pt xb 0] 44) :: (bk qb #[nu now] 48) :: (br xb #[sc ag 0 n cap] 47) :: (bk ag (sl (entC ((dueK now k E).set k { e with due := now + 5 })) rest) 71) :: o'.blks) w') 8 [] kr kr rfl ?_ kr ⟨?_, ?_, ?_, ?_, ?_, ?_, ?_, ?_, ?_, ?_, ?_, ?_, ?_, ?_, ?_, ?_, ?_, ?_, ?_, ?_, ?_, trivial⟩ ?_
      · rintro ⟨_, _, _, _, h, _⟩; cases h
      · exact Y_pre (fu := 8) kr (pt xb 0) (fun w hk hl => R_cellH hl (own := true) (g := pb) (all := #[pt xb 0]) (t := 44) (fr := (0, 0)) 4 kr 44 (.tmp 1) rfl 0 kr (pt xb 0) kr _ Try.underlying44 rfl)
      · exact Y_any kr (pt xb 0)
      · exact Y_any kr (pt xb 0)
      · exact Y_pre (fu := 8) kr (sc ag 0 n cap) (fun w hk hl => R_cellH hl (own := false) (g := xb) (all := #[sc ag 0 n cap]) (t := 47) (fr := (0, 0)) 6 kr 45 (.tmp 15) rfl 0 kr (sc ag 0 n cap) kr _ Try.underlying45 rfl)
      · exact Y_any kr (ni k)
      · exact Y_any kr (pt ag (0 + (k) * 3)) (fun w => R_indexS (k := .i64) (g := ag) (off := 0) (len := n) (cap := cap) (x := (.tmp 16)) (y := (.tmp 17)) rfl Try.underlying45 kr (k) kr (by omega) (sz := 3) kr w)
      · exact Y_any kr (pt ag ((0 + (k) * 3) + 1))
      · exact Y_pre (fu := 8) kr (nu e.due) (fun w hk hl => R_cellH hl (own := true) (g := ag) (all := (sl (entC (dueK now k E)) rest)) (t := 71) (fr := (0, 0)) 7 kr 48 (.tmp 19) rfl ((0 + (k) * 3) + 1) kr (nu e.due) (ent_due heK) _ Try.underlying48 rfl)
      · exact Y_pre (fu := 8) kr (nu now) (fun w hk hl => R_cellH hl (own := true) (g := qb) (all := #[nu now]) (t := 48) (fr := (0, 0)) 5 kr 48 (.tmp 2) rfl 0 kr (nu now) kr _ Try.underlying48 rfl)
      · exact Y_any kr (.bool true) (fun w => R_bin (x := (.tmp 20)) (y := (.tmp 21)) rfl (k := .u64) (a := ((e.due : Nat) : Int)) (b := ((now : Nat) : Int)) kr kr (i_leqd.trans (by rw [decide_eq_true hd])) w)
      · exact Y_any kr (.bool true)
      · exact Y_any kr (.func (.yield lp) #[] #[])
      · exact Y_pre (fu := 8) kr (pt xb 0) (fun w hk hl => R_cellH hl (own := true) (g := pb) (all := #[pt xb 0]) (t := 44) (fr := (0, 0)) 4 kr 44 (.tmp 1) rfl 0 kr (pt xb 0) kr _ Try.underlying44 rfl)
      · exact Y_any kr (pt xb 0)
      · exact Y_any kr (pt xb 0)
      · exact Y_pre (fu := 8) kr (sc ag 0 n cap) (fun w hk hl => R_cellH hl (own := false) (g := xb) (all := #[sc ag 0 n cap]) (t := 47) (fr := (0, 0)) 6 kr 45 (.tmp 27) rfl 0 kr (sc ag 0 n cap) kr _ Try.underlying45 rfl)
      · exact Y_any kr (ni k)
      · exact Y_any kr (pt ag (0 + (k) * 3)) (fun w => R_indexS (k := .i64) (g := ag) (off := 0) (len := n) (cap := cap) (x := (.tmp 28)) (y := (.tmp 29)) rfl Try.underlying45 kr (k) kr (by omega) (sz := 3) kr w)
      · exact Y_yield (x := .tmp 24) (y := .tmp 30) rfl (l := lp) (k := 0) kr (val := pt ag (0 + k * 3)) kr rfl (t := 10) rfl rfl kr (fun w H => due_rnd X w0 0 ob nb pb qb xb ag n cap fn D lp now rest hnow aM FM aM.tmps (dueK now k E) k e heK (hok e hmem) (hrd e hmem) o ho (by omega) w H)
      · exact Y_any kr (.bool false)
      · exact Y_any kr (.bool false)
      clear F H; intro a v hK18 F
      obtain ⟨o', c, ho', hcs', hc', hcl', H⟩ := hK18
      replace F : Fm 35 [] [(13, pt xb 0), (14, pt xb 0), (15, pt xb 0), (16, sc ag 0 n cap), (17, ni k), (18, pt ag (0 + (k) * 3)), (19, pt ag ((0 + (k) * 3) + 1)), (20, nu e.due), (21, nu now), (22, .bool true), (23, .bool true), (24, .func (.yield lp) #[] #[]), (25, pt xb 0), (26, pt xb 0), (27, pt xb 0), (28, sc ag 0 n cap), (29, ni k), (30, pt ag (0 + (k) * 3)), (31, .bool true), (32, .bool false), (33, .bool false), (4, ni k), (12, ni k), (11, .bool true), (10, ni k), (9, ni n), (0, .func (.yield lp) #[] #[]), (1, pt pb 0), (2, pt qb 0)] a := F.weak _ (subL_of kr)
      refine ?_
      refine hK6 _ _ ?_
      clear hK6
      try clear K6
      refine C_if F false rfl rfl ?_
      refine wp_skip ?_
      refine hK4 _ _ ?_
      clear hK4
      try clear K4
      refine C_region ?_
      refine T_val F H kr (ni (k + 1)) (fun w _ => R_bin (x := (.tmp 10)) (y := (.const (.int .i64 1))) rfl (k := .i64) (a := ((k : Nat) : Int)) (b := ((1 : Nat) : Int)) kr kr (i_addn64 (a := k) (b := 1) (by omega)) w) ?_
      clear F; intro a F
      refine T_k F H (ni (k + 1)) ?_
      clear F; intro a F
      refine wpList_nil ?_
      replace F : Fm 35 [] [(10, ni (k + 1)), (9, ni n), (0, .func (.yield lp) #[] #[]), (1, pt pb 0), (2, pt qb 0)] a := F.weak _ (subL_of kr)
      refine ⟨m, Nat.lt_succ_self m, k + 1, o', by omega, ⟨ho', ?_, ?_⟩, F, ?_⟩
      · unfold Ls.ls dueO at hls ⊢
        rw [take_filter _ he, if_pos (decide_eq_true hd), hcs', List.map_append, List.map_append, ← hls]
        show _ = _ ++ [e.c.l]
        rw [← hcl']
        rfl
      · rw [hcs', List.length_append]; exact Nat.succ_le_succ hcn
      · rw [dueK_next now he, show dueU now e = { e with due := now + 5 } from if_pos hd]; exact H
    · skip
      refine C_seqK (fun K7 hK7 => ?_)
      refine C_region ?_
      refine T_val F H kr (.bool true) (fun w _ => R_bin (x := (.tmp 10)) (y := (.tmp 9)) rfl (k := .i64) (a := ((k : Nat) : Int)) (b := ((n : Nat) : Int)) kr kr (i_lt (by omega)) w) ?_
      clear F; intro a F
      refine wpList_nil ?_
      refine hK7 _ _ ?_
      clear hK7
      try clear K7
      refine C_seqK (fun K8 hK8 => ?_)
      refine C_if F true rfl rfl ?_
      refine wp_skip ?_
      refine hK8 _ _ ?_
      clear hK8
      try clear K8
      refine C_seqK (fun K9 hK9 => ?_)
      refine wp_block ?_
      refine C_seqK (fun K10 hK10 => ?_)
      refine C_region ?_
      refine T_k F H (ni k) ?_
      clear F; intro a F
      refine T_k F H (ni k) ?_
      clear F; intro a F
      refine wpList_nil ?_
      refine hK10 _ _ ?_
      clear hK10
      try clear K10
      refine C_seqK (fun K11 hK11 => ?_)
      refine E_regionH (A := [⟨true, lp, duRec fn aM.tmps D .ready none⟩, ⟨true, D, .deferred (some [])⟩, bk ob #[(o.v)] 26, bk nb #[nu now] 48, bk pb #[pt xb 0] 44, bk qb #[nu now] 48, br xb #[sc ag 0 n cap] 47, bk ag (sl (entC (dueK now k E)) rest) 71]) (R := o.blks) F H (fun β => [(13, pt xb 0), (14, pt xb 0), (15, pt xb 0), (16, sc ag 0 n cap), (17, ni k), (18, pt ag (0 + (k) * 3)), (19, pt ag ((0 + (k) * 3) + 1)), (20, nu e.due), (21, nu now), (22, .bool false), (23, .bool false), (24, undef), (25, undef), (26, undef), (27, undef), (28, undef), (29, undef), (30, undef), (31, undef), (32, undef), (33, .bool false)]) [13, 14, 15, 16, 17, 18, 19, 20, 21, 22, 23, 24, 25, 26, 27, 28, 29, 30, 31, 32, 33] [] [⟨true, lp, duRec fn aM.tmps D .ready none⟩, ⟨true, D, .deferred (some [])⟩, bk ob #[(o.v)] 26, bk nb #[nu now] 48, bk pb #[pt xb 0] 44, bk qb #[nu now] 48, br xb #[sc ag 0 n cap] 47, bk ag (sl (entC (dueK now k E)) rest) 71] [0, 1, 2, 3, 4, 5, 6, 7] 2 [] kr kr kr kr (fun β => rfl) trivial ⟨?_, ?_, ?_, ?_, ?_, ?_, ?_, ?_, ?_, ?_, ?_, ?_, ?_, ?_, ?_, ?_, ?_, ?_, ?_, ?_, ?_, trivial⟩ ?_
      · exact E_v 35 (fun β => pt xb 0) 13 2 [] (fun β w hk hl hq => R_cellH hl (own := true) (g := pb) (all := #[pt xb 0]) (t := 44) (fr := (0, 0)) 4 kr 44 (.tmp 1) rfl 0 kr (pt xb 0) kr _ Try.underlying44 rfl)
      · exact E_k 35 (fun β => pt xb 0) 14 2
      · exact E_k 35 (fun β => pt xb 0) 15 2
      · exact E_v 35 (fun β => sc ag 0 n cap) 16 2 [] (fun β w hk hl hq => R_cellH hl (own := false) (g := xb) (all := #[sc ag 0 n cap]) (t := 47) (fr := (0, 0)) 6 kr 45 (.tmp 15) rfl 0 kr (sc ag 0 n cap) kr _ Try.underlying45 rfl)
      · exact E_k 35 (fun β => ni k) 17 2
      · exact E_v 35 (fun β => pt ag (0 + (k) * 3)) 18 2 [] (fun β w hk hl hq => R_indexS (k := .i64) (g := ag) (off := 0) (len := n) (cap := cap) (x := (.tmp 16)) (y := (.tmp 17)) rfl Try.underlying45 kr (k) kr (by omega) (sz := 3) kr w)
      · exact E_k 35 (fun β => pt ag ((0 + (k) * 3) + 1)) 19 2
      · exact E_v 35 (fun β => nu e.due) 20 2 [] (fun β w hk hl hq => R_cellH hl (own := true) (g := ag) (all := (sl (entC (dueK now k E)) rest)) (t := 71) (fr := (0, 0)) 7 kr 48 (.tmp 19) rfl ((0 + (k) * 3) + 1) kr (nu e.due) (ent_due heK) _ Try.underlying48 rfl)
      · exact E_v 35 (fun β => nu now) 21 2 [] (fun β w hk hl hq => R_cellH hl (own := true) (g := qb) (all := #[nu now]) (t := 48) (fr := (0, 0)) 5 kr 48 (.tmp 2) rfl 0 kr (nu now) kr _ Try.underlying48 rfl)
      · exact E_v 35 (fun β => .bool false) 22 2 [] (fun β w hk hl hq => R_bin (x := (.tmp 20)) (y := (.tmp 21)) rfl (k := .u64) (a := ((e.due : Nat) : Int)) (b := ((now : Nat) : Int)) kr kr (i_leqd.trans (by rw [decide_eq_false hd])) w)
      · exact E_k 35 (fun β => .bool false) 23 2
      · exact E_skip kq 24 rfl kq kr
      · exact E_skip kq 25 rfl kq kr
      · exact E_skip kq 26 rfl kq kr
      · exact E_skip kq 27 rfl kq kr
      · exact E_skip kq 28 rfl kq kr
      · exact E_skip kq 29 rfl kq kr
      · exact E_skip kq 30 rfl kq kr
      · exact E_skip kq 31 rfl kq kr
      · exact E_skip kq 32 rfl kq kr
      · exact E_k 35 (fun β => .bool false) 33 2
      clear F H; intro β a v Q F H
      replace H : Hp X w0 (⟨true, lp, duRec fn aM.tmps D .ready none⟩ :: ⟨true, D, .deferred (some [])⟩ :: (bk ob #[(o.v)] 26) :: (bk nb #[nu now] 48) :: (bk pb #[pt xb 0] 44) :: (bk qb #[nu now] 48) :: (br xb #[sc ag 0 n cap] 47) :: (bk ag (sl (entC (dueK now k E)) rest) 71) :: o.blks) v := H
      replace F : Fm 35 [] [(33, .bool false), (32, undef), (31, undef), (30, undef), (29, undef), (28, undef), (27, undef), (26, undef), (25, undef), (24, undef), (23, .bool false), (22, .bool false), (21, nu now), (20, nu e.due), (19, pt ag ((0 + (k) * 3) + 1)), (18, pt ag (0 + (k) * 3)), (17, ni k), (16, sc ag 0 n cap), (15, pt xb 0), (14, pt xb 0), (13, pt xb 0), (4, ni k), (12, ni k), (11, .bool true), (10, ni k), (9, ni n), (0, .func (.yield lp) #[] #[]), (1, pt pb 0), (2, pt qb 0)] a := F.weak _ (subL_of kr)
      clear Q
      refine ?_
      refine hK11 _ _ ?_
      clear hK11
      try clear K11
      refine C_if F false rfl rfl ?_
      refine wp_skip ?_
      refine hK9 _ _ ?_
      clear hK9
      try clear K9
      refine C_region ?_
      refine T_val F H kr (ni (k + 1)) (fun w _ => R_bin (x := (.tmp 10)) (y := (.const (.int .i64 1))) rfl (k := .i64) (a := ((k : Nat) : Int)) (b := ((1 : Nat) : Int)) kr kr (i_addn64 (a := k) (b := 1) (by omega)) w) ?_
      clear F; intro a F
      refine T_k F H (ni (k + 1)) ?_
      clear F; intro a F
      refine wpList_nil ?_
      replace F : Fm 35 [] [(10, ni (k + 1)), (9, ni n), (0, .func (.yield lp) #[] #[]), (1, pt pb 0), (2, pt qb 0)] a := F.weak _ (subL_of kr)
      refine ⟨m, Nat.lt_succ_self m, k + 1, o, by omega, ⟨ho, ?_, Nat.le_succ_of_le hcn⟩, F, ?_⟩
      · unfold Ls.ls dueO at hls ⊢
        rw [take_filter _ he, if_neg (by rw [decide_eq_false hd]; simp), List.append_nil]
        exact hls
      · rw [dueK_next now he, show dueU now e = e from if_neg hd, set_self heK]; exact H
  refine C_seqK (fun K12 hK12 => ?_)
  refine C_region ?_
  refine T_val F H kr (.bool false) (fun w _ => R_bin (x := (.tmp 10)) (y := (.tmp 9)) rfl (k := .i64) (a := ((k : Nat) : Int)) (b := ((n : Nat) : Int)) kr kr (i_nlt (by omega)) w) ?_
  clear F; intro a F
  refine wpList_nil ?_
  refine hK12 _ _ ?_
  clear hK12
  try clear K12
  refine C_seqK (fun K13 hK13 => ?_)
  refine C_if F false rfl rfl ?_
  refine wp_exit ?_
  have hkt : k = E.length := by omega
  rw [hkt, List.take_length] at hls
  rw [hkt, dueK_all] at H
  exact ⟨F.df, _, results_none rfl _ _ _, _, o, rfl, ⟨ho, hls, by omega⟩, H⟩
end Go.Proofs.Ytlnlppmhiobgjaa
