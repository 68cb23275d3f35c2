/- gangplanklaw06: works, and the laws, walked. -/
import Derived.WalkKit
import Derived.Lib.Hide
import Derived.Laws.IdiomStrings
import Derived.Test.YtjfijllnmjajpaaPp
import Derived.Test.YtjfijllnmjajpaaRq
import Derived.Test.YtjfijllnmjajpaaBp
set_option linter.unusedSimpArgs false
set_option linter.unusedVariables false
namespace Go.Proofs.Ytjfijllnmjajpaa
open Go.RowKit Go.BigFrame

theorem app_nil (s : ByteArray) : s ++ ⟨#[]⟩ = s := ByteArray.append_empty
theorem Tri.alloc {T n : Nat} {a b c : Int} {w : World} (h : Tri T n a b c w) (o : Obj) : Tri T n a b c (w.alloc o) := h.later ((Below.refl _ _).alloc (Nat.le_refl _) _)

set_option maxHeartbeats 1000000 in
set_option maxRecDepth 100000 in
theorem works6 (w : World) : Calls Try.prog 15 #[] w fun e w' => e = .returned (.bool true) ∧ Below w.heap.size w w' := by
  have hE : puE 17 1 2 0 = 0 := by rw [puE_iff]; decide
  have hF : puE 6 1 2 18 = 0 := by rw [puE_iff]; decide
  have hS : puS 17 1 2 0 = ⟨#[0, 1, 0, 2, 0, 8, 0, 0]⟩ := rfl
  have c1 := portPut_calls 17 1 2 0
  rw [hE, hS] at c1
  have c2 := portParse_calls 17 (puS 17 1 2 0 ++ ⟨#[]⟩) (by rw [app_nil, hS]; decide)
  obtain ⟨k1, k2, k3, k4⟩ := back_p 17 1 2 0 ⟨#[]⟩ hE
  rw [k1, k2, k3, k4, app_nil, hS] at c2
  have c3 := portParse_calls 1 ⟨#[0, 1, 0, 2, 0, 8, 0, 0]⟩ (by decide)
  rw [show ppE 1 ⟨#[0, 1, 0, 2, 0, 8, 0, 0]⟩ = 7 from rfl, show ppA 1 ⟨#[0, 1, 0, 2, 0, 8, 0, 0]⟩ = 0 from rfl, show ppB 1 ⟨#[0, 1, 0, 2, 0, 8, 0, 0]⟩ = 0 from rfl, show ppF 1 ⟨#[0, 1, 0, 2, 0, 8, 0, 0]⟩ = 0 from rfl] at c3
  have c4 := portPut_calls 6 1 2 18
  have hz := puS_size hF
  rw [if_pos rfl] at hz
  have c5 := portParse_calls 6 (puS 6 1 2 18 ++ ⟨#[]⟩) (by rw [app_nil]; omega)
  obtain ⟨m1, m2, m3, m4⟩ := back_p 6 1 2 18 ⟨#[]⟩ hF
  rw [m1, m2, m3, m4, app_nil] at c5
  rw [hF] at c4
  have c6 := portPut_calls 17 0 0 1
  rw [show puE 17 0 0 1 = 1 from rfl, show puS 17 0 0 1 = ⟨#[]⟩ from rfl] at c6
  clear k1 k2 k3 k4 m1 m2 m3 m4 hE hF hS
  generalize puS 6 1 2 18 = S at *
  have hq : ((S.size : Int) == 20) = true := by rw [hz]; rfl
  have C1 := fun w => Lib.hid (c1 w)
  have C2 := fun w => Lib.hid (c2 w)
  have C3 := fun w => Lib.hid (c3 w)
  have C4 := fun w => Lib.hid (c4 w)
  have C5 := fun w => Lib.hid (c5 w)
  have C6 := fun w => Lib.hid (c6 w)
  clear c1 c2 c3 c4 c5 c6
  go_enter Try.func15, Try.ntmps15
  go_wp2_with (go_at_call 18; with_reducible refine ((C1 _).out).mono ?_)
  rintro e w1 ⟨rfl, hb1⟩
  go_wp2_with (go_at_call 16; with_reducible refine ((C2 _).out).mono ?_)
  rintro e w2 ⟨rfl, hb2⟩
  go_wp2_with (go_at_call 16; with_reducible refine ((C3 _).out).mono ?_)
  rintro e w3 ⟨rfl, hb3⟩
  go_wp2_with (go_at_call 18; with_reducible refine ((C4 _).out).mono ?_)
  rintro e w4 ⟨rfl, hb4⟩
  go_wp2_with (go_at_call 16; with_reducible refine ((C5 _).out).mono ?_)
  rintro e w5 ⟨rfl, hb5⟩
  go_wp2_with (go_at_call 18; with_reducible refine ((C6 _).out).mono ?_)
  rintro e w6 ⟨rfl, hb6⟩
  have h2 := (((((((Tri.new 24 1 2 0 w2).later hb3).alloc (.cells #[.int .i64 0, .int .i64 0, .int .i64 0] 24)).later hb4).later hb5).alloc (.cells #[.int .i64 1, .int .i64 2, .int .i64 18] 24)).later hb6)
  have h5 := ((Tri.new 24 1 2 18 w5).later hb6)
  obtain ⟨q0, q1, q2, _, _, _⟩ := h2.cells
  obtain ⟨r0, r1, r2, _, _, _⟩ := h5.cells
  have hB := bl (bl (bl (bl (bl (bl (bl (bl hb1 hb2) ((Below.refl _ _).alloc (Nat.le_refl _) (.cells #[.int .i64 1, .int .i64 2, .int .i64 0] 24) : Below w2.heap.size w2 (w2.alloc _))) hb3) ((Below.refl _ _).alloc (Nat.le_refl _) (.cells #[.int .i64 0, .int .i64 0, .int .i64 0] 24) : Below w3.heap.size w3 (w3.alloc _))) hb4) hb5) ((Below.refl _ _).alloc (Nat.le_refl _) (.cells #[.int .i64 1, .int .i64 2, .int .i64 18] 24) : Below w5.heap.size w5 (w5.alloc _))) hb6
  clear h2 h5 hb1 hb2 hb3 hb4 hb5 hb6
  go_wp2_with fail
  go_ret
  exact ⟨rfl, hB⟩

set_option maxHeartbeats 1000000 in
set_option maxRecDepth 100000 in
theorem PortParses_walk (proto : Int) (s : ByteArray) (h_proto : -9223372036854775808 ≤ proto ∧ proto ≤ 9223372036854775807) (h_s : s.size ≤ 9223372036854775807) (w : World) :
    Calls Try.prog 3 #[.int .i64 proto, .string s] w fun e w' => e = .returned (.bool true) ∧ Below w.heap.size w w' := by
  have CW := fun w => Lib.hid (works6 w)
  by_cases g_s : 300 < s.size
  · have d_s : decide (300 < (s.size : Int)) = true := by simp; omega
    clear g_s
    go_enter Try.func3, Try.ntmps3
    go_wp2_with (go_at_call 15; with_reducible refine ((CW _).out).mono ?_)
    rintro e w1 ⟨rfl, hb1⟩
    go_wp2_with fail
    go_ret
    exact ⟨rfl, hb1⟩
  have d_s : decide (300 < (s.size : Int)) = false := by simp; omega
  have l_s : s.size ≤ 300 := by omega
  clear g_s
  have C1 := fun w => Lib.hid (portParse_calls proto s h_s w)
  have C2 := fun w => Lib.hid (refPortParse_calls proto s h_s w)
  generalize ppA proto s = A at *
  generalize ppB proto s = B at *
  generalize ppF proto s = P at *
  generalize ppE proto s = E at *
  go_enter Try.func3, Try.ntmps3
  go_wp2_with (go_at_call 15; with_reducible refine ((CW _).out).mono ?_)
  rintro e w1 ⟨rfl, hb1⟩
  go_wp2_with (go_at_call 16; with_reducible refine ((C1 _).out).mono ?_)
  rintro e w2 ⟨rfl, hb2⟩
  go_wp2_with (go_at_call 17; with_reducible refine ((C2 _).out).mono ?_)
  rintro e w3 ⟨rfl, hb3⟩
  have h0 := (((Tri.new 24 A B P w2).later hb3).alloc (.cells #[.int .i64 A, .int .i64 B, .int .i64 P] 28))
  obtain ⟨q0, q1, q2, _, _, _⟩ := h0.cells
  have hB := bl (bl (bl (bl hb1 hb2) ((Below.refl _ _).alloc (Nat.le_refl _) (.cells #[.int .i64 A, .int .i64 B, .int .i64 P] 24) : Below w2.heap.size w2 (w2.alloc _))) hb3) ((Below.refl _ _).alloc (Nat.le_refl _) (.cells #[.int .i64 A, .int .i64 B, .int .i64 P] 28) : Below w3.heap.size w3 (w3.alloc _))
  clear h0 hb1 hb2 hb3
  go_wp2_with fail
  go_ret
  exact ⟨rfl, hB⟩

set_option maxHeartbeats 1000000 in
set_option maxRecDepth 100000 in
theorem PortPuts_walk (proto : Int) (from_ : Int) (to_ : Int) (flags : Int) (h_proto : -9223372036854775808 ≤ proto ∧ proto ≤ 9223372036854775807) (h_from_ : -9223372036854775808 ≤ from_ ∧ from_ ≤ 9223372036854775807) (h_to_ : -9223372036854775808 ≤ to_ ∧ to_ ≤ 9223372036854775807) (h_flags : -9223372036854775808 ≤ flags ∧ flags ≤ 9223372036854775807) (w : World) :
    Calls Try.prog 4 #[.int .i64 proto, .int .i64 from_, .int .i64 to_, .int .i64 flags] w fun e w' => e = .returned (.bool true) ∧ Below w.heap.size w w' := by
  have CW := fun w => Lib.hid (works6 w)
  have C1 := fun w => Lib.hid (portPut_calls proto from_ to_ flags w)
  have C2 := fun w => Lib.hid (refPortPut_calls proto from_ to_ flags w)
  generalize puS proto from_ to_ flags = S at *
  generalize puE proto from_ to_ flags = E at *
  go_enter Try.func4, Try.ntmps4
  go_wp2_with (go_at_call 15; with_reducible refine ((CW _).out).mono ?_)
  rintro e w1 ⟨rfl, hb1⟩
  go_wp2_with (go_at_call 18; with_reducible refine ((C1 _).out).mono ?_)
  rintro e w2 ⟨rfl, hb2⟩
  go_wp2_with (go_at_call 19; with_reducible refine ((C2 _).out).mono ?_)
  rintro e w3 ⟨rfl, hb3⟩
  have hB := bl (bl hb1 hb2) hb3
  go_wp2_with fail
  go_ret
  exact ⟨rfl, hB⟩

set_option maxHeartbeats 1000000 in
set_option maxRecDepth 100000 in
theorem PortBack_walk (proto : Int) (from_ : Int) (to_ : Int) (flags : Int) (behind : ByteArray) (h_proto : -9223372036854775808 ≤ proto ∧ proto ≤ 9223372036854775807) (h_from_ : -9223372036854775808 ≤ from_ ∧ from_ ≤ 9223372036854775807) (h_to_ : -9223372036854775808 ≤ to_ ∧ to_ ≤ 9223372036854775807) (h_flags : -9223372036854775808 ≤ flags ∧ flags ≤ 9223372036854775807) (h_behind : behind.size ≤ 9223372036854775807) (w : World) :
    Calls Try.prog 5 #[.int .i64 proto, .int .i64 from_, .int .i64 to_, .int .i64 flags, .string behind] w fun e w' => e = .returned (.bool true) ∧ Below w.heap.size w w' := by
  have CW := fun w => Lib.hid (works6 w)
  by_cases g_behind : 300 < behind.size
  · have d_behind : decide (300 < (behind.size : Int)) = true := by simp; omega
    clear g_behind
    go_enter Try.func5, Try.ntmps5
    go_wp2_with (go_at_call 15; with_reducible refine ((CW _).out).mono ?_)
    rintro e w1 ⟨rfl, hb1⟩
    go_wp2_with fail
    go_ret
    exact ⟨rfl, hb1⟩
  have d_behind : decide (300 < (behind.size : Int)) = false := by simp; omega
  have l_behind : behind.size ≤ 300 := by omega
  clear g_behind
  have c1 := portPut_calls proto from_ to_ flags
  by_cases hE : puE proto from_ to_ flags = 0
  · obtain ⟨k1, k2, k3, k4⟩ := back_p proto from_ to_ flags behind hE
    have hz : (puS proto from_ to_ flags).size ≤ 20 := by rw [puS_size hE]; split <;> omega
    rw [hE] at c1
    generalize puS proto from_ to_ flags = S at *
    have c2 := portParse_calls proto (S ++ behind) (by rw [ByteArray.size_append]; omega)
    rw [k1, k2, k3, k4] at c2
    have C1 := fun w => Lib.hid (c1 w)
    have C2 := fun w => Lib.hid (c2 w)
    have n1 : ¬ (9223372036854775807 < S.size + behind.size) := by omega
    clear c1 c2 k1 k2 k3 k4 hE hz
    go_enter Try.func5, Try.ntmps5
    go_wp2_with (go_at_call 15; with_reducible refine ((CW _).out).mono ?_)
    rintro e w1 ⟨rfl, hb1⟩
    go_wp2_with (go_at_call 18; with_reducible refine ((C1 _).out).mono ?_)
    rintro e w2 ⟨rfl, hb2⟩
    go_wp2_with (go_at_call 16; with_reducible refine ((C2 _).out).mono ?_)
    rintro e w3 ⟨rfl, hb3⟩
    have h0 := ((((Tri.new 24 from_ to_ flags w1).later hb2).later hb3).alloc (.cells #[.int .i64 from_, .int .i64 to_, .int .i64 flags] 24))
    obtain ⟨q0, q1, q2, _, _, _⟩ := h0.cells
    have hB := bl (bl (bl (bl hb1 ((Below.refl _ _).alloc (Nat.le_refl _) (.cells #[.int .i64 from_, .int .i64 to_, .int .i64 flags] 24) : Below w1.heap.size w1 (w1.alloc _))) hb2) hb3) ((Below.refl _ _).alloc (Nat.le_refl _) (.cells #[.int .i64 from_, .int .i64 to_, .int .i64 flags] 24) : Below w3.heap.size w3 (w3.alloc _))
    clear h0 hb1 hb2 hb3
    go_wp2_with fail
    go_ret
    exact ⟨rfl, hB⟩
  · rw [puS_none hE] at c1
    have d0 : (puE proto from_ to_ flags != 0) = true := by simpa using hE
    generalize puE proto from_ to_ flags = E at *
    have C1 := fun w => Lib.hid (c1 w)
    clear c1 hE
    go_enter Try.func5, Try.ntmps5
    go_wp2_with (go_at_call 15; with_reducible refine ((CW _).out).mono ?_)
    rintro e w1 ⟨rfl, hb1⟩
    go_wp2_with (go_at_call 18; with_reducible refine ((C1 _).out).mono ?_)
    rintro e w2 ⟨rfl, hb2⟩
    have hB := bl (bl hb1 ((Below.refl _ _).alloc (Nat.le_refl _) (.cells #[.int .i64 from_, .int .i64 to_, .int .i64 flags] 24) : Below w1.heap.size w1 (w1.alloc _))) hb2
    go_wp2_with fail
    go_ret
    exact ⟨rfl, hB⟩

set_option maxHeartbeats 1000000 in
set_option maxRecDepth 100000 in
theorem PortHeld_walk (proto : Int) (s : ByteArray) (behind : ByteArray) (h_proto : -9223372036854775808 ≤ proto ∧ proto ≤ 9223372036854775807) (h_s : s.size ≤ 9223372036854775807) (h_behind : behind.size ≤ 9223372036854775807) (w : World) :
    Calls Try.prog 6 #[.int .i64 proto, .string s, .string behind] w fun e w' => e = .returned (.bool true) ∧ Below w.heap.size w w' := by
  have CW := fun w => Lib.hid (works6 w)
  by_cases g_s : 300 < s.size
  · have d_s : decide (300 < (s.size : Int)) = true := by simp; omega
    clear g_s
    go_enter Try.func6, Try.ntmps6
    go_wp2_with (go_at_call 15; with_reducible refine ((CW _).out).mono ?_)
    rintro e w1 ⟨rfl, hb1⟩
    go_wp2_with fail
    go_ret
    exact ⟨rfl, hb1⟩
  have d_s : decide (300 < (s.size : Int)) = false := by simp; omega
  have l_s : s.size ≤ 300 := by omega
  clear g_s
  by_cases g_behind : 300 < behind.size
  · have d_behind : decide (300 < (behind.size : Int)) = true := by simp; omega
    clear g_behind
    go_enter Try.func6, Try.ntmps6
    go_wp2_with (go_at_call 15; with_reducible refine ((CW _).out).mono ?_)
    rintro e w1 ⟨rfl, hb1⟩
    go_wp2_with fail
    go_ret
    exact ⟨rfl, hb1⟩
  have d_behind : decide (300 < (behind.size : Int)) = false := by simp; omega
  have l_behind : behind.size ≤ 300 := by omega
  clear g_behind
  have c1 := portParse_calls proto s h_s
  by_cases hE : ppE proto s = 0
  · obtain ⟨z1, z2, z3, z4, z5, hU⟩ := held_p proto s hE
    obtain ⟨k1, k2, k3, k4⟩ := behind_p proto s behind hE
    obtain ⟨m1, m2, m3, m4⟩ := back_p proto (ppA proto s) (ppB proto s) (ppF proto s) ⟨#[]⟩ hU
    have c2 := portParse_calls proto (s ++ behind) (by rw [ByteArray.size_append]; omega)
    rw [k1, k2, k3, k4] at c2
    rw [hE] at c1
    have c3 := portPut_calls proto (ppA proto s) (ppB proto s) (ppF proto s)
    have hz : (puS proto (ppA proto s) (ppB proto s) (ppF proto s)).size ≤ 20 := by rw [puS_size hU]; split <;> omega
    rw [hU] at c3
    rw [app_nil] at m1 m2 m3 m4
    have c4 := portParse_calls proto (puS proto (ppA proto s) (ppB proto s) (ppF proto s)) (by omega)
    rw [m1, m2, m3, m4] at c4
    clear m1 m2 m3 m4 k1 k2 k3 k4 hU hE hz
    generalize puS proto (ppA proto s) (ppB proto s) (ppF proto s) = T at *
    generalize ppA proto s = A at *
    generalize ppB proto s = B at *
    generalize ppF proto s = P at *
    have C1 := fun w => Lib.hid (c1 w)
    have C2 := fun w => Lib.hid (c2 w)
    have C3 := fun w => Lib.hid (c3 w)
    have C4 := fun w => Lib.hid (c4 w)
    have n1 : ¬ (9223372036854775807 < s.size + behind.size) := by omega
    have y1 : decide (0 ≤ A) = true := by simp; omega
    have y2 : decide (A ≤ 65535) = true := by simp; omega
    have y3 : decide (0 ≤ B) = true := by simp; omega
    have y4 : decide (B ≤ 65535) = true := by simp; omega
    clear c1 c2 c3 c4 z1 z2 z3 z4
    by_cases h6 : proto = 6
    · have y5 : (proto == 6) = true := by simpa using h6
      clear h6 z5
      go_enter Try.func6, Try.ntmps6
      go_wp2_with (go_at_call 15; with_reducible refine ((CW _).out).mono ?_)
      rintro e w1 ⟨rfl, hb1⟩
      go_wp2_with (go_at_call 16; with_reducible refine ((C1 _).out).mono ?_)
      rintro e w2 ⟨rfl, hb2⟩
      go_wp2_with (go_at_call 16; with_reducible refine ((C2 _).out).mono ?_)
      rintro e w3 ⟨rfl, hb3⟩
      have h0 := (((Tri.new 24 A B P w2).later hb3).alloc (.cells #[.int .i64 A, .int .i64 B, .int .i64 P] 24))
      obtain ⟨q0, q1, q2, _, _, _⟩ := h0.cells
      go_wp2_with (go_at_call 18; with_reducible refine ((C3 _).out).mono ?_)
      rintro e w4 ⟨rfl, hb4⟩
      clear q0 q1 q2 h0
      go_wp2_with (go_at_call 16; with_reducible refine ((C4 _).out).mono ?_)
      rintro e w5 ⟨rfl, hb5⟩
      have h0 := ((((((Tri.new 24 A B P w2).later hb3).alloc (.cells #[.int .i64 A, .int .i64 B, .int .i64 P] 24)).later hb4).later hb5).alloc (.cells #[.int .i64 A, .int .i64 B, .int .i64 P] 24))
      have h3 := ((((Tri.new 24 A B P w3).later hb4).later hb5).alloc (.cells #[.int .i64 A, .int .i64 B, .int .i64 P] 24))
      obtain ⟨q0, q1, q2, _, _, _⟩ := h0.cells
      obtain ⟨r0, r1, r2, _, _, _⟩ := h3.cells
      have hB := bl (bl (bl (bl (bl (bl (bl hb1 hb2) ((Below.refl _ _).alloc (Nat.le_refl _) (.cells #[.int .i64 A, .int .i64 B, .int .i64 P] 24) : Below w2.heap.size w2 (w2.alloc _))) hb3) ((Below.refl _ _).alloc (Nat.le_refl _) (.cells #[.int .i64 A, .int .i64 B, .int .i64 P] 24) : Below w3.heap.size w3 (w3.alloc _))) hb4) hb5) ((Below.refl _ _).alloc (Nat.le_refl _) (.cells #[.int .i64 A, .int .i64 B, .int .i64 P] 24) : Below w5.heap.size w5 (w5.alloc _))
      clear h0 h3 hb1 hb2 hb3 hb4 hb5
      go_wp2_with fail
      go_ret
      exact ⟨rfl, hB⟩
    · have y5 : (proto == 6) = false := by simpa using h6
      have y6 : (P == 0) = true := by rcases z5 with g | g; exact absurd g h6; simpa using g
      clear h6 z5
      go_enter Try.func6, Try.ntmps6
      go_wp2_with (go_at_call 15; with_reducible refine ((CW _).out).mono ?_)
      rintro e w1 ⟨rfl, hb1⟩
      go_wp2_with (go_at_call 16; with_reducible refine ((C1 _).out).mono ?_)
      rintro e w2 ⟨rfl, hb2⟩
      go_wp2_with (go_at_call 16; with_reducible refine ((C2 _).out).mono ?_)
      rintro e w3 ⟨rfl, hb3⟩
      have h0 := (((Tri.new 24 A B P w2).later hb3).alloc (.cells #[.int .i64 A, .int .i64 B, .int .i64 P] 24))
      obtain ⟨q0, q1, q2, _, _, _⟩ := h0.cells
      go_wp2_with (go_at_call 18; with_reducible refine ((C3 _).out).mono ?_)
      rintro e w4 ⟨rfl, hb4⟩
      clear q0 q1 q2 h0
      go_wp2_with (go_at_call 16; with_reducible refine ((C4 _).out).mono ?_)
      rintro e w5 ⟨rfl, hb5⟩
      have h0 := ((((((Tri.new 24 A B P w2).later hb3).alloc (.cells #[.int .i64 A, .int .i64 B, .int .i64 P] 24)).later hb4).later hb5).alloc (.cells #[.int .i64 A, .int .i64 B, .int .i64 P] 24))
      have h3 := ((((Tri.new 24 A B P w3).later hb4).later hb5).alloc (.cells #[.int .i64 A, .int .i64 B, .int .i64 P] 24))
      obtain ⟨q0, q1, q2, _, _, _⟩ := h0.cells
      obtain ⟨r0, r1, r2, _, _, _⟩ := h3.cells
      have hB := bl (bl (bl (bl (bl (bl (bl hb1 hb2) ((Below.refl _ _).alloc (Nat.le_refl _) (.cells #[.int .i64 A, .int .i64 B, .int .i64 P] 24) : Below w2.heap.size w2 (w2.alloc _))) hb3) ((Below.refl _ _).alloc (Nat.le_refl _) (.cells #[.int .i64 A, .int .i64 B, .int .i64 P] 24) : Below w3.heap.size w3 (w3.alloc _))) hb4) hb5) ((Below.refl _ _).alloc (Nat.le_refl _) (.cells #[.int .i64 A, .int .i64 B, .int .i64 P] 24) : Below w5.heap.size w5 (w5.alloc _))
      clear h0 h3 hb1 hb2 hb3 hb4 hb5
      go_wp2_with fail
      go_ret
      exact ⟨rfl, hB⟩
  · obtain ⟨k1, k2, k3⟩ := pp_none' hE
    rw [k1, k2, k3] at c1
    have d0 : (ppE proto s != 0) = true := by simpa using hE
    generalize ppE proto s = E at *
    have C1 := fun w => Lib.hid (c1 w)
    clear c1 k1 k2 k3 hE
    go_enter Try.func6, Try.ntmps6
    go_wp2_with (go_at_call 15; with_reducible refine ((CW _).out).mono ?_)
    rintro e w1 ⟨rfl, hb1⟩
    go_wp2_with (go_at_call 16; with_reducible refine ((C1 _).out).mono ?_)
    rintro e w2 ⟨rfl, hb2⟩
    have hB := bl (bl hb1 hb2) ((Below.refl _ _).alloc (Nat.le_refl _) (.cells #[.int .i64 0, .int .i64 0, .int .i64 0] 24) : Below w2.heap.size w2 (w2.alloc _))
    go_wp2_with fail
    go_ret
    exact ⟨rfl, hB⟩

set_option maxHeartbeats 1000000 in
set_option maxRecDepth 100000 in
theorem PortCut_walk (proto : Int) (from_ : Int) (to_ : Int) (flags : Int) (n : Int) (h_proto : -9223372036854775808 ≤ proto ∧ proto ≤ 9223372036854775807) (h_from_ : -9223372036854775808 ≤ from_ ∧ from_ ≤ 9223372036854775807) (h_to_ : -9223372036854775808 ≤ to_ ∧ to_ ≤ 9223372036854775807) (h_flags : -9223372036854775808 ≤ flags ∧ flags ≤ 9223372036854775807) (h_n : -9223372036854775808 ≤ n ∧ n ≤ 9223372036854775807) (w : World) :
    Calls Try.prog 7 #[.int .i64 proto, .int .i64 from_, .int .i64 to_, .int .i64 flags, .int .i64 n] w fun e w' => e = .returned (.bool true) ∧ Below w.heap.size w w' := by
  have CW := fun w => Lib.hid (works6 w)
  have c1 := portPut_calls proto from_ to_ flags
  by_cases hE : puE proto from_ to_ flags = 0
  · have hz : (puS proto from_ to_ flags).size ≤ 20 := by rw [puS_size hE]; split <;> omega
    have e0 : ((0 : Int) != 0) = false := rfl
    rw [hE] at c1
    by_cases hn0 : n < 0
    · have e1 : decide (n < 0) = true := by simpa using hn0
      generalize puS proto from_ to_ flags = S at *
      have C1 := fun w => Lib.hid (c1 w)
      clear c1 hn0
      go_enter Try.func7, Try.ntmps7
      go_wp2_with (go_at_call 15; with_reducible refine ((CW _).out).mono ?_)
      rintro e w1 ⟨rfl, hb1⟩
      go_wp2_with (go_at_call 18; with_reducible refine ((C1 _).out).mono ?_)
      rintro e w2 ⟨rfl, hb2⟩
      have hB := bl hb1 hb2
      go_wp2_with fail
      go_ret
      exact ⟨rfl, hB⟩
    · have e1 : decide (n < 0) = false := by simpa using hn0
      by_cases hn1 : ((puS proto from_ to_ flags).size : Int) ≤ n
      · have e2 : decide (((puS proto from_ to_ flags).size : Int) ≤ n) = true := by simpa using hn1
        generalize puS proto from_ to_ flags = S at *
        have C1 := fun w => Lib.hid (c1 w)
        clear c1 hn0 hn1
        go_enter Try.func7, Try.ntmps7
        go_wp2_with (go_at_call 15; with_reducible refine ((CW _).out).mono ?_)
        rintro e w1 ⟨rfl, hb1⟩
        go_wp2_with (go_at_call 18; with_reducible refine ((C1 _).out).mono ?_)
        rintro e w2 ⟨rfl, hb2⟩
        have hB := bl hb1 hb2
        go_wp2_with fail
        go_ret
        exact ⟨rfl, hB⟩
      · obtain ⟨m, rfl⟩ : ∃ m : Nat, n = (m : Int) := ⟨n.toNat, by omega⟩
        have hcut := cut_p proto from_ to_ flags hE m (by omega)
        have hpe : ppE proto ((puS proto from_ to_ flags).extract 0 m) ≠ 0 := by rw [hcut]; decide
        obtain ⟨k1, k2, k3⟩ := pp_none' hpe
        have c2 := portParse_calls proto ((puS proto from_ to_ flags).extract 0 m) (by rw [ByteArray.size_extract]; omega)
        rw [k1, k2, k3, hcut] at c2
        clear k1 k2 k3 hpe hcut
        have e2 : decide (((puS proto from_ to_ flags).size : Int) ≤ (m : Int)) = false := by simp; omega
        have e2' : decide ((puS proto from_ to_ flags).size ≤ m) = false := by simp; omega
        have e3 : (m : Int) ≤ ((puS proto from_ to_ flags).size : Int) := by omega
        have e3' : m ≤ (puS proto from_ to_ flags).size := by omega
        generalize puS proto from_ to_ flags = S at *
        have C1 := fun w => Lib.hid (c1 w)
        have C2 := fun w => Lib.hid (c2 w)
        clear c1 c2 hn0 hn1 hE hz
        go_enter Try.func7, Try.ntmps7
        go_wp2_with (go_at_call 15; with_reducible refine ((CW _).out).mono ?_)
        rintro e w1 ⟨rfl, hb1⟩
        go_wp2_with (go_at_call 18; with_reducible refine ((C1 _).out).mono ?_)
        rintro e w2 ⟨rfl, hb2⟩
        go_wp2_with (go_at_call 16; with_reducible refine ((C2 _).out).mono ?_)
        rintro e w3 ⟨rfl, hb3⟩
        have hB := bl (bl (bl hb1 hb2) hb3) ((Below.refl _ _).alloc (Nat.le_refl _) (.cells #[.int .i64 0, .int .i64 0, .int .i64 0] 24) : Below w3.heap.size w3 (w3.alloc _))
        go_wp2_with fail
        go_ret
        exact ⟨rfl, hB⟩
  · have d0 : (puE proto from_ to_ flags != 0) = true := by simpa using hE
    generalize puE proto from_ to_ flags = E at *
    generalize puS proto from_ to_ flags = S at *
    have C1 := fun w => Lib.hid (c1 w)
    clear c1 hE
    go_enter Try.func7, Try.ntmps7
    go_wp2_with (go_at_call 15; with_reducible refine ((CW _).out).mono ?_)
    rintro e w1 ⟨rfl, hb1⟩
    go_wp2_with (go_at_call 18; with_reducible refine ((C1 _).out).mono ?_)
    rintro e w2 ⟨rfl, hb2⟩
    have hB := bl hb1 hb2
    go_wp2_with fail
    go_ret
    exact ⟨rfl, hB⟩

end Go.Proofs.Ytjfijllnmjajpaa
