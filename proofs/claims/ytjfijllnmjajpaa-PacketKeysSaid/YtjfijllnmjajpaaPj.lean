/- packet.Put, gangplankref07.Put, and Closing: what they answer. -/
import Derived.WalkKit
import Derived.Lib.Hide
import Derived.Laws.IdiomStrings
import Derived.Laws.BitsLemmas
import Derived.Test.YtjfijllnmjajpaaKd
import Derived.Test.YtjfijllnmjajpaaRq
import Derived.Test.YtjfijllnmjajpaaV4
import Derived.Test.YtjfijllnmjajpaaT4
import Derived.Test.YtjfijllnmjajpaaV6
import Derived.Test.YtjfijllnmjajpaaT6
set_option linter.unusedSimpArgs false
set_option linter.unusedVariables false
namespace Go.Proofs.Ytjfijllnmjajpaa
open Go.RowKit Go.BigFrame

theorem puS_le (k a b f : Int) : (puS k a b f).size ≤ 20 := by
  by_cases h : puE k a b f = 0
  · rw [puS_size h]; split <;> omega
  · rw [puS_none h]; exact Nat.zero_le _

set_option maxHeartbeats 2000000 in
set_option maxRecDepth 100000 in
theorem pj_ver (v : Int) (a b : ByteArray) (f t p g : Int) (w : World) (h4 : ¬ v = 4) (h6 : ¬ v = 6) :
    Calls Try.prog 24 #[.agg #[.int .i64 v, .string a, .string b, .int .i64 f, .int .i64 t, .int .i64 p, .int .i64 g]] w fun e w' => e = .returned (.tuple #[.string ⟨#[]⟩, .int .i64 3]) ∧ Below w.heap.size w w' := by
  have d4 : (v != 4) = true := by simpa using h4
  have d6 : (v != 6) = true := by simpa using h6
  clear h4 h6
  go_enter Try.func24, Try.ntmps24
  go_wp2
  go_ret2
  exact ⟨rfl, ((Below.refl w.heap.size w).alloc (Nat.le_refl _) (.cells #[.int .i64 v, .string a, .string b, .int .i64 f, .int .i64 t, .int .i64 p, .int .i64 g] 42)).alloc (by rw [World.size_alloc]; omega) (.cells #[.int .i64 v, .string a, .string b, .int .i64 f, .int .i64 t, .int .i64 p] 40)⟩

set_option maxHeartbeats 2000000 in
set_option maxRecDepth 100000 in
theorem pj_port4 (a b : ByteArray) (f t p g : Int) (w : World) (h : puE p f t g ≠ 0) :
    Calls Try.prog 24 #[.agg #[.int .i64 4, .string a, .string b, .int .i64 f, .int .i64 t, .int .i64 p, .int .i64 g]] w fun e w' => e = .returned (.tuple #[.string ⟨#[]⟩, .int .i64 (puE p f t g)]) ∧ Below w.heap.size w w' := by
  have c1 := portPut_calls p f t g
  have d0 : (puE p f t g != 0) = true := by simpa using h
  generalize puS p f t g = S at *
  generalize puE p f t g = E at *
  have C1 := fun w => Lib.hid (c1 w)
  clear c1 h
  go_enter Try.func24, Try.ntmps24
  go_wp2_with (go_at_call 18; with_reducible refine (C1 _).out.mono ?_)
  rintro e w1 ⟨rfl, hb1⟩
  have K0 := Ky.new 40 4 a b f t p (w.alloc (.cells #[.int .i64 4, .string a, .string b, .int .i64 f, .int .i64 t, .int .i64 p, .int .i64 g] 42))
  simp only [World.size_alloc] at K0
  have K1 := K0.later hb1
  have B1 := bl (((Below.refl w.heap.size w).alloc (Nat.le_refl _) (.cells #[.int .i64 4, .string a, .string b, .int .i64 f, .int .i64 t, .int .i64 p, .int .i64 g] 42)).alloc (by rw [World.size_alloc]; omega) (.cells #[.int .i64 4, .string a, .string b, .int .i64 f, .int .i64 t, .int .i64 p] 40)) hb1
  obtain ⟨q0, q1, q2, q3, q4, q5⟩ := K1.cells
  clear K0 K1 hb1
  go_wp2_with fail
  go_ret2
  exact ⟨rfl, B1⟩

set_option maxHeartbeats 2000000 in
set_option maxRecDepth 100000 in
theorem pj_ok4 (a b : ByteArray) (f t p g : Int) (w : World) (h : puE p f t g = 0) :
    Calls Try.prog 24 #[.agg #[.int .i64 4, .string a, .string b, .int .i64 f, .int .i64 t, .int .i64 p, .int .i64 g]] w fun e w' => e = .returned (.tuple #[.string (u4S a b p (puS p f t g)), .int .i64 (u4E a b p (puS p f t g))]) ∧ Below w.heap.size w w' := by
  have c1 := portPut_calls p f t g
  rw [h] at c1
  have C2 := fun w => Lib.hid (ip4Put_calls a b p (puS p f t g) (by have := puS_le p f t g; omega) w)
  generalize puS p f t g = S at *
  generalize u4S a b p S = R at *
  generalize u4E a b p S = E at *
  have C1 := fun w => Lib.hid (c1 w)
  clear c1 h
  go_enter Try.func24, Try.ntmps24
  go_wp2_with (go_at_call 18; with_reducible refine (C1 _).out.mono ?_)
  rintro e w1 ⟨rfl, hb1⟩
  have K0 := Ky.new 40 4 a b f t p (w.alloc (.cells #[.int .i64 4, .string a, .string b, .int .i64 f, .int .i64 t, .int .i64 p, .int .i64 g] 42))
  simp only [World.size_alloc] at K0
  have K1 := K0.later hb1
  have B1 := bl (((Below.refl w.heap.size w).alloc (Nat.le_refl _) (.cells #[.int .i64 4, .string a, .string b, .int .i64 f, .int .i64 t, .int .i64 p, .int .i64 g] 42)).alloc (by rw [World.size_alloc]; omega) (.cells #[.int .i64 4, .string a, .string b, .int .i64 f, .int .i64 t, .int .i64 p] 40)) hb1
  obtain ⟨q0, q1, q2, q3, q4, q5⟩ := K1.cells
  clear K0 K1 hb1
  go_wp2_with (go_at_call 41; with_reducible refine (C2 _).out.mono ?_)
  rintro e w2 ⟨rfl, hb2⟩
  go_wp2_with fail
  go_ret2
  exact ⟨rfl, bl B1 hb2⟩

set_option maxHeartbeats 2000000 in
set_option maxRecDepth 100000 in
theorem pj_port6 (a b : ByteArray) (f t p g : Int) (w : World) (h : puE p f t g ≠ 0) :
    Calls Try.prog 24 #[.agg #[.int .i64 6, .string a, .string b, .int .i64 f, .int .i64 t, .int .i64 p, .int .i64 g]] w fun e w' => e = .returned (.tuple #[.string ⟨#[]⟩, .int .i64 (puE p f t g)]) ∧ Below w.heap.size w w' := by
  have c1 := portPut_calls p f t g
  have d0 : (puE p f t g != 0) = true := by simpa using h
  generalize puS p f t g = S at *
  generalize puE p f t g = E at *
  have C1 := fun w => Lib.hid (c1 w)
  clear c1 h
  go_enter Try.func24, Try.ntmps24
  go_wp2_with (go_at_call 18; with_reducible refine (C1 _).out.mono ?_)
  rintro e w1 ⟨rfl, hb1⟩
  have K0 := Ky.new 40 6 a b f t p (w.alloc (.cells #[.int .i64 6, .string a, .string b, .int .i64 f, .int .i64 t, .int .i64 p, .int .i64 g] 42))
  simp only [World.size_alloc] at K0
  have K1 := K0.later hb1
  have B1 := bl (((Below.refl w.heap.size w).alloc (Nat.le_refl _) (.cells #[.int .i64 6, .string a, .string b, .int .i64 f, .int .i64 t, .int .i64 p, .int .i64 g] 42)).alloc (by rw [World.size_alloc]; omega) (.cells #[.int .i64 6, .string a, .string b, .int .i64 f, .int .i64 t, .int .i64 p] 40)) hb1
  obtain ⟨q0, q1, q2, q3, q4, q5⟩ := K1.cells
  clear K0 K1 hb1
  go_wp2_with fail
  go_ret2
  exact ⟨rfl, B1⟩

set_option maxHeartbeats 2000000 in
set_option maxRecDepth 100000 in
theorem pj_ok6 (a b : ByteArray) (f t p g : Int) (w : World) (h : puE p f t g = 0) :
    Calls Try.prog 24 #[.agg #[.int .i64 6, .string a, .string b, .int .i64 f, .int .i64 t, .int .i64 p, .int .i64 g]] w fun e w' => e = .returned (.tuple #[.string (u6S a b p (puS p f t g)), .int .i64 (u6E a b p (puS p f t g))]) ∧ Below w.heap.size w w' := by
  have c1 := portPut_calls p f t g
  rw [h] at c1
  have C2 := fun w => Lib.hid (ip6Put_calls a b p (puS p f t g) (by have := puS_le p f t g; omega) w)
  generalize puS p f t g = S at *
  generalize u6S a b p S = R at *
  generalize u6E a b p S = E at *
  have C1 := fun w => Lib.hid (c1 w)
  clear c1 h
  go_enter Try.func24, Try.ntmps24
  go_wp2_with (go_at_call 18; with_reducible refine (C1 _).out.mono ?_)
  rintro e w1 ⟨rfl, hb1⟩
  have K0 := Ky.new 40 6 a b f t p (w.alloc (.cells #[.int .i64 6, .string a, .string b, .int .i64 f, .int .i64 t, .int .i64 p, .int .i64 g] 42))
  simp only [World.size_alloc] at K0
  have K1 := K0.later hb1
  have B1 := bl (((Below.refl w.heap.size w).alloc (Nat.le_refl _) (.cells #[.int .i64 6, .string a, .string b, .int .i64 f, .int .i64 t, .int .i64 p, .int .i64 g] 42)).alloc (by rw [World.size_alloc]; omega) (.cells #[.int .i64 6, .string a, .string b, .int .i64 f, .int .i64 t, .int .i64 p] 40)) hb1
  obtain ⟨q0, q1, q2, q3, q4, q5⟩ := K1.cells
  clear K0 K1 hb1
  go_wp2_with (go_at_call 40; with_reducible refine (C2 _).out.mono ?_)
  rintro e w2 ⟨rfl, hb2⟩
  go_wp2_with fail
  go_ret2
  exact ⟨rfl, bl B1 hb2⟩

theorem packetPut_calls (v : Int) (a b : ByteArray) (f t p g : Int) (w : World) :
    Calls Try.prog 24 #[.agg #[.int .i64 v, .string a, .string b, .int .i64 f, .int .i64 t, .int .i64 p, .int .i64 g]] w fun e w' => e = .returned (.tuple #[.string (jS v a b f t p g), .int .i64 (jE v a b f t p g)]) ∧ Below w.heap.size w w' := by
  unfold jS jE
  by_cases h4 : v = 4
  · subst h4
    have o : (4 : Int) = 4 ∨ (4 : Int) = 6 := by decide
    rw [if_pos o, if_pos o]
    by_cases h : puE p f t g = 0
    · rw [if_pos h, if_pos h, if_pos rfl, if_pos rfl]; exact pj_ok4 a b f t p g w h
    · rw [if_neg h, if_neg h]; exact pj_port4 a b f t p g w h
  · by_cases h6 : v = 6
    · subst h6
      have o : (6 : Int) = 4 ∨ (6 : Int) = 6 := by decide
      have o4 : ¬ (6 : Int) = 4 := by decide
      rw [if_pos o, if_pos o]
      by_cases h : puE p f t g = 0
      · rw [if_pos h, if_pos h, if_neg o4, if_neg o4]; exact pj_ok6 a b f t p g w h
      · rw [if_neg h, if_neg h]; exact pj_port6 a b f t p g w h
    · rw [if_neg (by omega), if_neg (by omega)]; exact pj_ver v a b f t p g w h4 h6

set_option maxHeartbeats 2000000 in
set_option maxRecDepth 100000 in
theorem rj_ver (v : Int) (a b : ByteArray) (f t p g : Int) (w : World) (h4 : ¬ v = 4) (h6 : ¬ v = 6) :
    Calls Try.prog 25 #[.agg #[.int .i64 v, .string a, .string b, .int .i64 f, .int .i64 t, .int .i64 p, .int .i64 g]] w fun e w' => e = .returned (.tuple #[.string ⟨#[]⟩, .int .i64 3]) ∧ Below w.heap.size w w' := by
  have d4 : (v != 4) = true := by simpa using h4
  have d6 : (v != 6) = true := by simpa using h6
  clear h4 h6
  go_enter Try.func25, Try.ntmps25
  go_wp2
  go_ret2
  exact ⟨rfl, ((Below.refl w.heap.size w).alloc (Nat.le_refl _) (.cells #[.int .i64 v, .string a, .string b, .int .i64 f, .int .i64 t, .int .i64 p, .int .i64 g] 42)).alloc (by rw [World.size_alloc]; omega) (.cells #[.int .i64 v, .string a, .string b, .int .i64 f, .int .i64 t, .int .i64 p] 40)⟩

set_option maxHeartbeats 2000000 in
set_option maxRecDepth 100000 in
theorem rj_port4 (a b : ByteArray) (f t p g : Int) (w : World) (h : puE p f t g ≠ 0) :
    Calls Try.prog 25 #[.agg #[.int .i64 4, .string a, .string b, .int .i64 f, .int .i64 t, .int .i64 p, .int .i64 g]] w fun e w' => e = .returned (.tuple #[.string ⟨#[]⟩, .int .i64 (puE p f t g)]) ∧ Below w.heap.size w w' := by
  have c1 := refPortPut_calls p f t g
  have d0 : (puE p f t g != 0) = true := by simpa using h
  generalize puS p f t g = S at *
  generalize puE p f t g = E at *
  have C1 := fun w => Lib.hid (c1 w)
  clear c1 h
  go_enter Try.func25, Try.ntmps25
  go_wp2_with (go_at_call 19; with_reducible refine (C1 _).out.mono ?_)
  rintro e w1 ⟨rfl, hb1⟩
  have K0 := Ky.new 40 4 a b f t p (w.alloc (.cells #[.int .i64 4, .string a, .string b, .int .i64 f, .int .i64 t, .int .i64 p, .int .i64 g] 42))
  simp only [World.size_alloc] at K0
  have K1 := K0.later hb1
  have B1 := bl (((Below.refl w.heap.size w).alloc (Nat.le_refl _) (.cells #[.int .i64 4, .string a, .string b, .int .i64 f, .int .i64 t, .int .i64 p, .int .i64 g] 42)).alloc (by rw [World.size_alloc]; omega) (.cells #[.int .i64 4, .string a, .string b, .int .i64 f, .int .i64 t, .int .i64 p] 40)) hb1
  obtain ⟨q0, q1, q2, q3, q4, q5⟩ := K1.cells
  clear K0 K1 hb1
  go_wp2_with fail
  go_ret2
  exact ⟨rfl, B1⟩

set_option maxHeartbeats 2000000 in
set_option maxRecDepth 100000 in
theorem rj_ok4 (a b : ByteArray) (f t p g : Int) (w : World) (h : puE p f t g = 0) :
    Calls Try.prog 25 #[.agg #[.int .i64 4, .string a, .string b, .int .i64 f, .int .i64 t, .int .i64 p, .int .i64 g]] w fun e w' => e = .returned (.tuple #[.string (u4S a b p (puS p f t g)), .int .i64 (u4E a b p (puS p f t g))]) ∧ Below w.heap.size w w' := by
  have c1 := refPortPut_calls p f t g
  rw [h] at c1
  have C2 := fun w => Lib.hid (ref4Put_calls a b p (puS p f t g) (by have := puS_le p f t g; omega) w)
  generalize puS p f t g = S at *
  generalize u4S a b p S = R at *
  generalize u4E a b p S = E at *
  have C1 := fun w => Lib.hid (c1 w)
  clear c1 h
  go_enter Try.func25, Try.ntmps25
  go_wp2_with (go_at_call 19; with_reducible refine (C1 _).out.mono ?_)
  rintro e w1 ⟨rfl, hb1⟩
  have K0 := Ky.new 40 4 a b f t p (w.alloc (.cells #[.int .i64 4, .string a, .string b, .int .i64 f, .int .i64 t, .int .i64 p, .int .i64 g] 42))
  simp only [World.size_alloc] at K0
  have K1 := K0.later hb1
  have B1 := bl (((Below.refl w.heap.size w).alloc (Nat.le_refl _) (.cells #[.int .i64 4, .string a, .string b, .int .i64 f, .int .i64 t, .int .i64 p, .int .i64 g] 42)).alloc (by rw [World.size_alloc]; omega) (.cells #[.int .i64 4, .string a, .string b, .int .i64 f, .int .i64 t, .int .i64 p] 40)) hb1
  obtain ⟨q0, q1, q2, q3, q4, q5⟩ := K1.cells
  clear K0 K1 hb1
  go_wp2_with (go_at_call 42; with_reducible refine (C2 _).out.mono ?_)
  rintro e w2 ⟨rfl, hb2⟩
  go_wp2_with fail
  go_ret2
  exact ⟨rfl, bl B1 hb2⟩

set_option maxHeartbeats 2000000 in
set_option maxRecDepth 100000 in
theorem rj_port6 (a b : ByteArray) (f t p g : Int) (w : World) (h : puE p f t g ≠ 0) :
    Calls Try.prog 25 #[.agg #[.int .i64 6, .string a, .string b, .int .i64 f, .int .i64 t, .int .i64 p, .int .i64 g]] w fun e w' => e = .returned (.tuple #[.string ⟨#[]⟩, .int .i64 (puE p f t g)]) ∧ Below w.heap.size w w' := by
  have c1 := refPortPut_calls p f t g
  have d0 : (puE p f t g != 0) = true := by simpa using h
  generalize puS p f t g = S at *
  generalize puE p f t g = E at *
  have C1 := fun w => Lib.hid (c1 w)
  clear c1 h
  go_enter Try.func25, Try.ntmps25
  go_wp2_with (go_at_call 19; with_reducible refine (C1 _).out.mono ?_)
  rintro e w1 ⟨rfl, hb1⟩
  have K0 := Ky.new 40 6 a b f t p (w.alloc (.cells #[.int .i64 6, .string a, .string b, .int .i64 f, .int .i64 t, .int .i64 p, .int .i64 g] 42))
  simp only [World.size_alloc] at K0
  have K1 := K0.later hb1
  have B1 := bl (((Below.refl w.heap.size w).alloc (Nat.le_refl _) (.cells #[.int .i64 6, .string a, .string b, .int .i64 f, .int .i64 t, .int .i64 p, .int .i64 g] 42)).alloc (by rw [World.size_alloc]; omega) (.cells #[.int .i64 6, .string a, .string b, .int .i64 f, .int .i64 t, .int .i64 p] 40)) hb1
  obtain ⟨q0, q1, q2, q3, q4, q5⟩ := K1.cells
  clear K0 K1 hb1
  go_wp2_with fail
  go_ret2
  exact ⟨rfl, B1⟩

set_option maxHeartbeats 2000000 in
set_option maxRecDepth 100000 in
theorem rj_ok6 (a b : ByteArray) (f t p g : Int) (w : World) (h : puE p f t g = 0) :
    Calls Try.prog 25 #[.agg #[.int .i64 6, .string a, .string b, .int .i64 f, .int .i64 t, .int .i64 p, .int .i64 g]] w fun e w' => e = .returned (.tuple #[.string (u6S a b p (puS p f t g)), .int .i64 (u6E a b p (puS p f t g))]) ∧ Below w.heap.size w w' := by
  have c1 := refPortPut_calls p f t g
  rw [h] at c1
  have C2 := fun w => Lib.hid (ref6Put_calls a b p (puS p f t g) (by have := puS_le p f t g; omega) w)
  generalize puS p f t g = S at *
  generalize u6S a b p S = R at *
  generalize u6E a b p S = E at *
  have C1 := fun w => Lib.hid (c1 w)
  clear c1 h
  go_enter Try.func25, Try.ntmps25
  go_wp2_with (go_at_call 19; with_reducible refine (C1 _).out.mono ?_)
  rintro e w1 ⟨rfl, hb1⟩
  have K0 := Ky.new 40 6 a b f t p (w.alloc (.cells #[.int .i64 6, .string a, .string b, .int .i64 f, .int .i64 t, .int .i64 p, .int .i64 g] 42))
  simp only [World.size_alloc] at K0
  have K1 := K0.later hb1
  have B1 := bl (((Below.refl w.heap.size w).alloc (Nat.le_refl _) (.cells #[.int .i64 6, .string a, .string b, .int .i64 f, .int .i64 t, .int .i64 p, .int .i64 g] 42)).alloc (by rw [World.size_alloc]; omega) (.cells #[.int .i64 6, .string a, .string b, .int .i64 f, .int .i64 t, .int .i64 p] 40)) hb1
  obtain ⟨q0, q1, q2, q3, q4, q5⟩ := K1.cells
  clear K0 K1 hb1
  go_wp2_with (go_at_call 43; with_reducible refine (C2 _).out.mono ?_)
  rintro e w2 ⟨rfl, hb2⟩
  go_wp2_with fail
  go_ret2
  exact ⟨rfl, bl B1 hb2⟩

theorem refPacketPut_calls (v : Int) (a b : ByteArray) (f t p g : Int) (w : World) :
    Calls Try.prog 25 #[.agg #[.int .i64 v, .string a, .string b, .int .i64 f, .int .i64 t, .int .i64 p, .int .i64 g]] w fun e w' => e = .returned (.tuple #[.string (jS v a b f t p g), .int .i64 (jE v a b f t p g)]) ∧ Below w.heap.size w w' := by
  unfold jS jE
  by_cases h4 : v = 4
  · subst h4
    have o : (4 : Int) = 4 ∨ (4 : Int) = 6 := by decide
    rw [if_pos o, if_pos o]
    by_cases h : puE p f t g = 0
    · rw [if_pos h, if_pos h, if_pos rfl, if_pos rfl]; exact rj_ok4 a b f t p g w h
    · rw [if_neg h, if_neg h]; exact rj_port4 a b f t p g w h
  · by_cases h6 : v = 6
    · subst h6
      have o : (6 : Int) = 4 ∨ (6 : Int) = 6 := by decide
      have o4 : ¬ (6 : Int) = 4 := by decide
      rw [if_pos o, if_pos o]
      by_cases h : puE p f t g = 0
      · rw [if_pos h, if_pos h, if_neg o4, if_neg o4]; exact rj_ok6 a b f t p g w h
      · rw [if_neg h, if_neg h]; exact rj_port6 a b f t p g w h
    · rw [if_neg (by omega), if_neg (by omega)]; exact rj_ver v a b f t p g w h4 h6

theorem bits_low (g : Int) (c : Nat) (hc : c < 8) : bits .and .i64 g (c : Int) = ((((BitVec.ofInt 64 g).toNat % 8) &&& c : Nat) : Int) := by
  have h1 : (BitVec.ofInt 64 (c : Int)).toNat = c := by
    rw [BitVec.ofInt_natCast, BitVec.toNat_ofNat]; exact Nat.mod_eq_of_lt (by omega)
  have hx : ∀ m : Nat, m &&& c < 8 := fun m => Nat.and_lt_two_pow (n := 3) _ hc
  have h7 : ∀ m : Nat, m &&& c = (m % 8) &&& c := by
    intro m
    have e : 7 &&& c = c := by rw [Nat.and_comm]; exact (Nat.and_two_pow_sub_one_eq_mod c 3).trans (Nat.mod_eq_of_lt hc)
    have e2 : m &&& 7 = m % 8 := Nat.and_two_pow_sub_one_eq_mod m 3
    rw [← e2, Nat.and_assoc, e]
  show IntKind.i64.wrap ((BitVec.ofInt 64 g &&& BitVec.ofInt 64 (c : Int)).toNat : Int) = _
  rw [BitVec.toNat_and, h1, ← h7]
  have := hx (BitVec.ofInt 64 g).toNat
  exact IntWalk.i64_in _ (by omega)
/-- Does a packet of this protocol with these flags close its flow? -/
def cB (p g : Int) : Bool := decide (p = 6) && (bits .and .i64 g 5 != 0)
theorem low_or (m : Nat) (h : m < 8) : ((((m &&& 5 : Nat) : Int)) != 0) = (((((m &&& 1 : Nat) : Int)) == 1) || ((((m &&& 4 : Nat) : Int)) == 4)) := by
  rcases (show m = 0 ∨ m = 1 ∨ m = 2 ∨ m = 3 ∨ m = 4 ∨ m = 5 ∨ m = 6 ∨ m = 7 by omega) with rfl | rfl | rfl | rfl | rfl | rfl | rfl | rfl <;> decide
theorem cB_or (g : Int) : (bits .and .i64 g 5 != 0) = ((bits .and .i64 g 1 == 1) || (bits .and .i64 g 4 == 4)) := by
  have e5 := bits_low g 5 (by decide)
  have e1 := bits_low g 1 (by decide)
  have e4 := bits_low g 4 (by decide)
  have := low_or ((BitVec.ofInt 64 g).toNat % 8) (by omega)
  rw [← e5, ← e1, ← e4] at this
  exact this

set_option maxHeartbeats 2000000 in
set_option maxRecDepth 100000 in
theorem closing_calls (v : Int) (a b : ByteArray) (f t p g : Int) (w : World) :
    Calls Try.prog 26 #[.agg #[.int .i64 v, .string a, .string b, .int .i64 f, .int .i64 t, .int .i64 p, .int .i64 g]] w fun e w' => e = .returned (.bool (cB p g)) ∧ Below w.heap.size w w' := by
  unfold cB
  by_cases h : p = 6
  · have d : (p == 6) = true := by simpa using h
    have e : decide (p = 6) = true := by simpa using h
    rw [e, Bool.true_and]
    clear h e
    go_enter Try.func26, Try.ntmps26
    go_wp2
    go_ret
    exact ⟨rfl, (Below.refl _ _).alloc (Nat.le_refl _) _⟩
  · have d : (p == 6) = false := by simpa using h
    have e : decide (p = 6) = false := by simpa using h
    rw [e, Bool.false_and]
    clear h e
    go_enter Try.func26, Try.ntmps26
    go_wp2
    go_ret
    exact ⟨rfl, (Below.refl _ _).alloc (Nat.le_refl _) _⟩

set_option maxHeartbeats 2000000 in
set_option maxRecDepth 100000 in
theorem refClosing_calls (v : Int) (a b : ByteArray) (f t p g : Int) (w : World) :
    Calls Try.prog 27 #[.agg #[.int .i64 v, .string a, .string b, .int .i64 f, .int .i64 t, .int .i64 p, .int .i64 g]] w fun e w' => e = .returned (.bool (cB p g)) ∧ Below w.heap.size w w' := by
  unfold cB
  rw [cB_or]
  by_cases h : p = 6
  · have d : (p == 6) = true := by simpa using h
    have e : decide (p = 6) = true := by simpa using h
    rw [e, Bool.true_and]
    clear h e
    cases d1 : (bits .and .i64 g 1 == 1) with
    | true =>
      rw [Bool.true_or]
      go_enter Try.func27, Try.ntmps27
      go_wp2
      go_ret
      exact ⟨rfl, (Below.refl _ _).alloc (Nat.le_refl _) _⟩
    | false =>
      rw [Bool.false_or]
      go_enter Try.func27, Try.ntmps27
      go_wp2
      go_ret
      exact ⟨rfl, (Below.refl _ _).alloc (Nat.le_refl _) _⟩
  · have d : (p == 6) = false := by simpa using h
    have e : decide (p = 6) = false := by simpa using h
    rw [e, Bool.false_and]
    clear h e
    go_enter Try.func27, Try.ntmps27
    go_wp2
    go_ret
    exact ⟨rfl, (Below.refl _ _).alloc (Nat.le_refl _) _⟩
end Go.Proofs.Ytjfijllnmjajpaa
