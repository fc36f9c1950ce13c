/- What Do does, at each event. -/
import Derived.Test.YtffgechbmhgndaaL2
import Derived.Laws.EntriesVeiled
set_option linter.unusedVariables false
set_option linter.unusedSimpArgs false
namespace Go.Proofs.Ytffgechbmhgndaa
open Go.RowKit

theorem Goes.after {w w0 w1 : World} {b : Nat} {L : Led} {fs : List Nat} (h0 : Fr [] w w0) (h : Goes w0 b L fs w1) : Goes w b L fs w1 := by
  obtain ⟨fs', h1, h2, h3⟩ := h
  exact ⟨fs', h1, h0.trans h2 (by simp) (fun _ h _ => h), fun k hk => (h3 k hk).imp id fun h => Nat.le_trans h0.size h⟩
theorem Goes.same {w w1 : World} {b : Nat} {L : Led} {fs : List Nat} (h : LedAt w b L fs) (h0 : Fr [] w w1) : Goes w b L fs w1 :=
  ⟨fs, h.keep fun k hk => h0.block k (h.lt k hk) (by simp), h0.mono (by simp), fun _ hk => .inl hk⟩

def kindCells : Array Value := #[.func (.func 52) #[] #[], .func (.func 54) #[] #[], .func (.func 55) #[] #[], .func (.func 56) #[] #[], .func (.func 57) #[] #[], .func (.func 58) #[] #[], .func (.func 51) #[] #[], .func (.func 59) #[] #[], .func (.func 51) #[] #[], .func (.func 60) #[] #[]]
set_option maxHeartbeats 400000 in
theorem kinds_any (w : World) : Calls Try.prog 32 #[] w fun r w' => r = .returned (.slice (some ⟨w.heap.size, 0, none⟩) 5 5) ∧ w' = w.alloc (.cells kindCells 68) := by
  go_enter Try.func32, Try.ntmps32
  go_wp2
  go_ret
  exact ⟨rfl, rfl⟩

/-- An event that is none. -/
theorem do_none {w : World} {b : Nat} (ev : Int) (h : ev < 1 ∨ 5 < ev) :
    Calls Try.prog 13 #[.pointer (some ⟨b, 0, none⟩), .int .i64 ev] w fun r w' => r = .returned (.int .i64 1) ∧ Below w.heap.size w w' := by
  by_cases h1 : ev < 1
  · go_enter Try.func13, Try.ntmps13
    go_wp2
    go_ret
    exact ⟨rfl, (Below.refl _ _).alloc (Nat.le_refl _) _⟩
  · have h2 : 5 < ev := by omega
    clear h
    go_enter Try.func13, Try.ntmps13
    go_wp2
    go_ret
    exact ⟨rfl, (Below.refl _ _).alloc (Nat.le_refl _) _⟩


set_option maxHeartbeats 400000 in
theorem do_1 {w : World} {b : Nat} {L : Led} {fs : List Nat} (h : LedAt w b L fs) (ok : L.Ok) :
    Calls Try.prog 13 #[.pointer (some ⟨b, 0, none⟩), .int .i64 1] w fun r w' => r = .returned (.int .i64 (L.err 1)) ∧ Goes w b (L.next 1) fs w' := by
  have hx := Lib.hid h; clear h
  have okx := Lib.hid ok; clear ok
  by_cases hc : L.epochs.length < 6
  · have e1 : L.err 1 = 0 := by simp [Led.err, hc]
    rw [e1]
    have HE := Lib.hid e1; clear e1
    have HC := Lib.hid hc; clear hc
    go_enter Try.func13, Try.ntmps13
    go_wp2_with fail
    refine (kinds_any _).mono ?_
    rintro e w1 ⟨rfl, rfl⟩
    unfold kindCells
    go_wp2_with fail
    refine (wrong1 (hx.out.keep (fun k hk => (((Fr.refl [] w).alloc _).alloc _).block k (hx.out.lt k hk) (by simp))) okx.out).mono ?_
    rintro e w1 ⟨rfl, n, rfl⟩
    rw [HE.out]
    go_wp2_with fail
    refine (does1 (hx.out.keep (fun k hk => (((Fr.refl [] w).alloc _).alloc _ |>.drewN _).block k (hx.out.lt k hk) (by simp))) HC.out).mono ?_
    rintro e w1 ⟨rfl, hg⟩
    go_wp2
    go_ret
    exact ⟨rfl, Goes.after (((Fr.refl [] w).alloc _).alloc _ |>.drewN _) hg⟩
  · have e1 : (L.err 1 == 0) = false := by simp [Led.err, hc]
    have e2 : L.next 1 = L := by simp [Led.next, hc]
    have HE2 := Lib.hid e2; clear e2
    clear hc
    go_enter Try.func13, Try.ntmps13
    go_wp2_with fail
    refine (kinds_any _).mono ?_
    rintro e w1 ⟨rfl, rfl⟩
    unfold kindCells
    go_wp2_with fail
    refine (wrong1 (hx.out.keep (fun k hk => (((Fr.refl [] w).alloc _).alloc _).block k (hx.out.lt k hk) (by simp))) okx.out).mono ?_
    rintro e w1 ⟨rfl, n, rfl⟩
    go_wp2
    go_ret
    exact ⟨rfl, by rw [HE2.out]; exact Goes.same hx.out (((Fr.refl [] w).alloc _).alloc _ |>.drewN _)⟩

set_option maxHeartbeats 400000 in
theorem do_2 {w : World} {b : Nat} {L : Led} {fs : List Nat} (h : LedAt w b L fs) (ok : L.Ok) :
    Calls Try.prog 13 #[.pointer (some ⟨b, 0, none⟩), .int .i64 2] w fun r w' => r = .returned (.int .i64 (L.err 2)) ∧ Goes w b (L.next 2) fs w' := by
  have hx := Lib.hid h; clear h
  have okx := Lib.hid ok; clear ok
  by_cases hc : L.got < L.epochs.length
  · have e1 : L.err 2 = 0 := by simp [Led.err, hc]
    rw [e1]
    have HE := Lib.hid e1; clear e1
    have HC := Lib.hid hc; clear hc
    go_enter Try.func13, Try.ntmps13
    go_wp2_with fail
    refine (kinds_any _).mono ?_
    rintro e w1 ⟨rfl, rfl⟩
    unfold kindCells
    go_wp2_with fail
    refine (wrong2 (hx.out.keep (fun k hk => (((Fr.refl [] w).alloc _).alloc _).block k (hx.out.lt k hk) (by simp))) okx.out).mono ?_
    rintro e w1 ⟨rfl, n, rfl⟩
    rw [HE.out]
    go_wp2_with fail
    refine (does2 (hx.out.keep (fun k hk => (((Fr.refl [] w).alloc _).alloc _ |>.drewN _).block k (hx.out.lt k hk) (by simp))) okx.out HC.out).mono ?_
    rintro e w1 ⟨rfl, hg⟩
    go_wp2
    go_ret
    exact ⟨rfl, Goes.after (((Fr.refl [] w).alloc _).alloc _ |>.drewN _) hg⟩
  · have e1 : (L.err 2 == 0) = false := by simp [Led.err, hc]
    have e2 : L.next 2 = L := by simp [Led.next, hc]
    have HE2 := Lib.hid e2; clear e2
    clear hc
    go_enter Try.func13, Try.ntmps13
    go_wp2_with fail
    refine (kinds_any _).mono ?_
    rintro e w1 ⟨rfl, rfl⟩
    unfold kindCells
    go_wp2_with fail
    refine (wrong2 (hx.out.keep (fun k hk => (((Fr.refl [] w).alloc _).alloc _).block k (hx.out.lt k hk) (by simp))) okx.out).mono ?_
    rintro e w1 ⟨rfl, n, rfl⟩
    go_wp2
    go_ret
    exact ⟨rfl, by rw [HE2.out]; exact Goes.same hx.out (((Fr.refl [] w).alloc _).alloc _ |>.drewN _)⟩

set_option maxHeartbeats 400000 in
theorem do_3 {w : World} {b : Nat} {L : Led} {fs : List Nat} (h : LedAt w b L fs) (ok : L.Ok) :
    Calls Try.prog 13 #[.pointer (some ⟨b, 0, none⟩), .int .i64 3] w fun r w' => r = .returned (.int .i64 (L.err 3)) ∧ Goes w b (L.next 3) fs w' := by
  have hx := Lib.hid h; clear h
  have okx := Lib.hid ok; clear ok
  by_cases hc : L.newest < 6
  · have e1 : L.err 3 = 0 := by simp [Led.err, hc]
    rw [e1]
    have HE := Lib.hid e1; clear e1
    have HC := Lib.hid hc; clear hc
    go_enter Try.func13, Try.ntmps13
    go_wp2_with fail
    refine (kinds_any _).mono ?_
    rintro e w1 ⟨rfl, rfl⟩
    unfold kindCells
    go_wp2_with fail
    refine (wrong3 (hx.out.keep (fun k hk => (((Fr.refl [] w).alloc _).alloc _).block k (hx.out.lt k hk) (by simp))) okx.out).mono ?_
    rintro e w1 ⟨rfl, n, rfl⟩
    rw [HE.out]
    go_wp2_with fail
    refine (does3 (hx.out.keep (fun k hk => (((Fr.refl [] w).alloc _).alloc _ |>.drewN _).block k (hx.out.lt k hk) (by simp))) HC.out).mono ?_
    rintro e w1 ⟨rfl, hg⟩
    go_wp2
    go_ret
    exact ⟨rfl, Goes.after (((Fr.refl [] w).alloc _).alloc _ |>.drewN _) hg⟩
  · have e1 : (L.err 3 == 0) = false := by simp [Led.err, hc]
    have e2 : L.next 3 = L := by simp [Led.next, hc]
    have HE2 := Lib.hid e2; clear e2
    clear hc
    go_enter Try.func13, Try.ntmps13
    go_wp2_with fail
    refine (kinds_any _).mono ?_
    rintro e w1 ⟨rfl, rfl⟩
    unfold kindCells
    go_wp2_with fail
    refine (wrong3 (hx.out.keep (fun k hk => (((Fr.refl [] w).alloc _).alloc _).block k (hx.out.lt k hk) (by simp))) okx.out).mono ?_
    rintro e w1 ⟨rfl, n, rfl⟩
    go_wp2
    go_ret
    exact ⟨rfl, by rw [HE2.out]; exact Goes.same hx.out (((Fr.refl [] w).alloc _).alloc _ |>.drewN _)⟩

set_option maxHeartbeats 400000 in
theorem do_4 {w : World} {b : Nat} {L : Led} {fs : List Nat} (h : LedAt w b L fs) (ok : L.Ok) :
    Calls Try.prog 13 #[.pointer (some ⟨b, 0, none⟩), .int .i64 4] w fun r w' => r = .returned (.int .i64 (L.err 4)) ∧ Goes w b (L.next 4) fs w' := by
  have hx := Lib.hid h; clear h
  have okx := Lib.hid ok; clear ok
  · have hc := True.intro
    have e1 : L.err 4 = 0 := by simp [Led.err, hc]
    rw [e1]
    have HE := Lib.hid e1; clear e1
    have HC := Lib.hid hc; clear hc
    go_enter Try.func13, Try.ntmps13
    go_wp2_with fail
    refine (kinds_any _).mono ?_
    rintro e w1 ⟨rfl, rfl⟩
    unfold kindCells
    go_wp2_with fail
    refine (wrong4 _ _).mono ?_
    rintro e w1 ⟨rfl, n, rfl⟩
    skip
    go_wp2_with fail
    refine (does4 _ _).mono ?_
    rintro e w1 ⟨rfl, rfl⟩
    go_wp2
    go_ret
    exact ⟨rfl, Goes.same hx.out (((Fr.refl [] w).alloc _).alloc _ |>.drewN _)⟩

set_option maxHeartbeats 400000 in
theorem do_5 {w : World} {b : Nat} {L : Led} {fs : List Nat} (h : LedAt w b L fs) (ok : L.Ok) :
    Calls Try.prog 13 #[.pointer (some ⟨b, 0, none⟩), .int .i64 5] w fun r w' => r = .returned (.int .i64 (L.err 5)) ∧ Goes w b (L.next 5) fs w' := by
  have hx := Lib.hid h; clear h
  have okx := Lib.hid ok; clear ok
  · have hc := True.intro
    have e1 : L.err 5 = 0 := by simp [Led.err, hc]
    rw [e1]
    have HE := Lib.hid e1; clear e1
    have HC := Lib.hid hc; clear hc
    go_enter Try.func13, Try.ntmps13
    go_wp2_with fail
    refine (kinds_any _).mono ?_
    rintro e w1 ⟨rfl, rfl⟩
    unfold kindCells
    go_wp2_with fail
    refine (wrong4 _ _).mono ?_
    rintro e w1 ⟨rfl, n, rfl⟩
    skip
    go_wp2_with fail
    refine (does5 (hx.out.keep (fun k hk => (((Fr.refl [] w).alloc _).alloc _ |>.drewN _).block k (hx.out.lt k hk) (by simp))) okx.out).mono ?_
    rintro e w1 ⟨rfl, hg⟩
    go_wp2
    go_ret
    exact ⟨rfl, Goes.after (((Fr.refl [] w).alloc _).alloc _ |>.drewN _) hg⟩

end Go.Proofs.Ytffgechbmhgndaa
