/- gangplankref06: what it answers. -/
import Derived.WalkKit
import Derived.Lib.Hide
import Derived.Laws.IdiomStrings
import Derived.BigQuiet
import Derived.Deep.QuietTactic
import Derived.Test.YtjfijllnmjajpaaQr
import Derived.Test.YtjfijllnmjajpaaP6
import Derived.Test.YtjfijllnmjajpaaSp
set_option linter.unusedSimpArgs false
set_option linter.unusedVariables false
namespace Go.Proofs.Ytjfijllnmjajpaa
open Go.RowKit Go.BigFrame

set_option maxHeartbeats 1000000 in
set_option maxRecDepth 100000 in
theorem rp_none (k : Int) (s : ByteArray) (w : World) (h6 : ¬ k = 6) (h17 : ¬ k = 17) :
    Calls Try.prog 17 #[.int .i64 k, .string s] w fun e w' => e = .returned (.tuple #[.agg #[.int .i64 0, .int .i64 0, .int .i64 0], .int .i64 7]) ∧ Below w.heap.size w w' := by
  have d1 : (k != 6) = true := by simpa using h6
  have d2 : (k != 17) = true := by simpa using h17
  clear h6 h17
  go_enter Try.func17, Try.ntmps17
  go_wp2
  refine bodyPost_ret (v := .tuple #[.agg #[.int .i64 0, .int .i64 0, .int .i64 0], .int .i64 7]) (by simp [results, Try.results17, go_sem]) rfl ⟨rfl, (Below.refl _ _).alloc (Nat.le_refl _) _⟩

set_option maxHeartbeats 1000000 in
set_option maxRecDepth 100000 in
theorem rp_short6 (s : ByteArray) (w : World) (h1 : s.size < 20) :
    Calls Try.prog 17 #[.int .i64 6, .string s] w fun e w' => e = .returned (.tuple #[.agg #[.int .i64 0, .int .i64 0, .int .i64 0], .int .i64 2]) ∧ Below w.heap.size w w' := by
  have d1 : decide ((s.size : Int) < 20) = true := by simp; omega
  go_enter Try.func17, Try.ntmps17
  go_wp2
  refine bodyPost_ret (v := .tuple #[.agg #[.int .i64 0, .int .i64 0, .int .i64 0], .int .i64 2]) (by simp [results, Try.results17, go_sem]) rfl ⟨rfl, (Below.refl _ _).alloc (Nat.le_refl _) _⟩

set_option maxHeartbeats 1000000 in
set_option maxRecDepth 100000 in
theorem rp_short17 (s : ByteArray) (w : World) (h1 : s.size < 8) :
    Calls Try.prog 17 #[.int .i64 17, .string s] w fun e w' => e = .returned (.tuple #[.agg #[.int .i64 0, .int .i64 0, .int .i64 0], .int .i64 2]) ∧ Below w.heap.size w w' := by
  have d1 : decide ((s.size : Int) < 8) = true := by simp; omega
  go_enter Try.func17, Try.ntmps17
  go_wp2
  refine bodyPost_ret (v := .tuple #[.agg #[.int .i64 0, .int .i64 0, .int .i64 0], .int .i64 2]) (by simp [results, Try.results17, go_sem]) rfl ⟨rfl, (Below.refl _ _).alloc (Nat.le_refl _) _⟩

set_option maxHeartbeats 1000000 in
set_option maxRecDepth 100000 in
theorem rp_len (s : ByteArray) (w : World) (hs : s.size ≤ 9223372036854775807) (h1 : ¬ s.size < 8) (h2 : (decide (getV s 4 2 < 8) || decide ((s.size : Int) < getV s 4 2)) = true) :
    Calls Try.prog 17 #[.int .i64 17, .string s] w fun e w' => e = .returned (.tuple #[.agg #[.int .i64 0, .int .i64 0, .int .i64 0], .int .i64 4]) ∧ Below w.heap.size w w' := by
  have d1 : decide ((s.size : Int) < 8) = false := by simp; omega
  have C4 := word_calls s 4 hs
  obtain ⟨V, hV⟩ : ∃ V : Nat, getV s 4 2 = (V : Int) := ⟨(getV s 4 2).toNat, by have := getV2_bd s 4; omega⟩
  rw [hV] at C4 h2
  have W4 := fun w => Lib.hid (C4 w)
  clear C4 hV
  have C0 := word_calls s 0 (by omega)
  have C2 := word_calls s 2 (by omega)
  generalize getV s 0 2 = A at *
  generalize getV s 2 2 = B at *
  have W0 := fun w => Lib.hid (C0 w)
  have W2 := fun w => Lib.hid (C2 w)
  clear C0 C2
  cases f3 : decide ((V : Int) < 8) with
  | true =>
    have d3 : decide (V < 8) = true := by simp at f3 ⊢; omega
    clear h2
    go_enter Try.func17, Try.ntmps17
    go_wp2_with (go_at_call 34; with_reducible refine (W0 _).out.mono ?_)
    rintro e w1 ⟨rfl, rfl⟩
    go_wp2_with (go_at_call 34; with_reducible refine (W2 _).out.mono ?_)
    rintro e w1 ⟨rfl, rfl⟩
    go_wp2_with (go_at_call 34; with_reducible refine (W4 _).out.mono ?_)
    rintro e w1 ⟨rfl, rfl⟩
    go_wp2_with fail
    refine bodyPost_ret (v := .tuple #[.agg #[.int .i64 0, .int .i64 0, .int .i64 0], .int .i64 4]) (by simp [results, Try.results17, go_sem]) rfl ⟨rfl, ((Below.refl _ _).alloc (Nat.le_refl _) _).alloc (by rw [World.size_alloc]; omega) _⟩
  | false =>
    have d3 : decide (V < 8) = false := by simp at f3 ⊢; omega
    have f4 : decide ((s.size : Int) < (V : Int)) = true := by simpa [f3] using h2
    have d4 : decide (s.size < V) = true := by simp at f4 ⊢; omega
    clear h2
    go_enter Try.func17, Try.ntmps17
    go_wp2_with (go_at_call 34; with_reducible refine (W0 _).out.mono ?_)
    rintro e w1 ⟨rfl, rfl⟩
    go_wp2_with (go_at_call 34; with_reducible refine (W2 _).out.mono ?_)
    rintro e w1 ⟨rfl, rfl⟩
    go_wp2_with (go_at_call 34; with_reducible refine (W4 _).out.mono ?_)
    rintro e w1 ⟨rfl, rfl⟩
    go_wp2_with fail
    refine bodyPost_ret (v := .tuple #[.agg #[.int .i64 0, .int .i64 0, .int .i64 0], .int .i64 4]) (by simp [results, Try.results17, go_sem]) rfl ⟨rfl, ((Below.refl _ _).alloc (Nat.le_refl _) _).alloc (by rw [World.size_alloc]; omega) _⟩

set_option maxHeartbeats 1000000 in
set_option maxRecDepth 100000 in
theorem rp_ok17 (s : ByteArray) (w : World) (hs : s.size ≤ 9223372036854775807) (h1 : ¬ s.size < 8) (h2 : (decide (getV s 4 2 < 8) || decide ((s.size : Int) < getV s 4 2)) = false) :
    Calls Try.prog 17 #[.int .i64 17, .string s] w fun e w' => e = .returned (.tuple #[.agg #[.int .i64 (getV s 0 2), .int .i64 (getV s 2 2), .int .i64 0], .int .i64 0]) ∧ Below w.heap.size w w' := by
  have d1 : decide ((s.size : Int) < 8) = false := by simp; omega
  have C4 := word_calls s 4 hs
  obtain ⟨V, hV⟩ : ∃ V : Nat, getV s 4 2 = (V : Int) := ⟨(getV s 4 2).toNat, by have := getV2_bd s 4; omega⟩
  rw [hV] at C4 h2
  have W4 := fun w => Lib.hid (C4 w)
  clear C4 hV
  have C0 := word_calls s 0 (by omega)
  have C2 := word_calls s 2 (by omega)
  generalize getV s 0 2 = A at *
  generalize getV s 2 2 = B at *
  have W0 := fun w => Lib.hid (C0 w)
  have W2 := fun w => Lib.hid (C2 w)
  clear C0 C2
  obtain ⟨f3, f4⟩ := Bool.or_eq_false_iff.1 h2
  have d3 : decide (V < 8) = false := by simp at f3 ⊢; omega
  have d4 : decide (s.size < V) = false := by simp at f4 ⊢; omega
  clear h2
  go_enter Try.func17, Try.ntmps17
  go_wp2_with (go_at_call 34; with_reducible refine (W0 _).out.mono ?_)
  rintro e w1 ⟨rfl, rfl⟩
  go_wp2_with (go_at_call 34; with_reducible refine (W2 _).out.mono ?_)
  rintro e w1 ⟨rfl, rfl⟩
  go_wp2_with (go_at_call 34; with_reducible refine (W4 _).out.mono ?_)
  rintro e w1 ⟨rfl, rfl⟩
  go_wp2_with fail
  refine bodyPost_ret (v := .tuple #[.agg #[.int .i64 A, .int .i64 B, .int .i64 0], .int .i64 0]) (by simp [results, Try.results17, go_sem]) rfl ⟨rfl, ((Below.refl _ _).alloc (Nat.le_refl _) _).alloc (by rw [World.size_alloc]; omega) _⟩

set_option maxHeartbeats 1000000 in
set_option maxRecDepth 100000 in
theorem rp_off (s : ByteArray) (w : World) (hs : s.size ≤ 9223372036854775807) (h1 : ¬ s.size < 20) (h2 : (decide (offT s < 20) || decide (s.size < offT s)) = true) :
    Calls Try.prog 17 #[.int .i64 6, .string s] w fun e w' => e = .returned (.tuple #[.agg #[.int .i64 0, .int .i64 0, .int .i64 0], .int .i64 8]) ∧ Below w.heap.size w w' := by
  have C0 := word_calls s 0 (by omega)
  have C2 := word_calls s 2 (by omega)
  generalize getV s 0 2 = A at *
  generalize getV s 2 2 = B at *
  have W0 := fun w => Lib.hid (C0 w)
  have W2 := fun w => Lib.hid (C2 w)
  clear C0 C2
  cases d3 : decide (offT s < 20) with
  | true =>
    have f3 : decide ((offT s : Int) < 20) = true := by simp at d3 ⊢; omega
    have d1 : decide ((s.size : Int) < 20) = false := by simp; omega
    have d1' : decide ((s.size : Int) < 8) = false := by simp; omega
    have g12 : 12 < s.size := by omega
    have e12 := byteN_get s 12 g12
    have hb := byteN_lt s 12
    obtain ⟨z, hz⟩ : ∃ z : Nat, z = offT s := ⟨_, rfl⟩
    have hzi : (byteN s 12 : Int) / 16 * 4 = (z : Int) := by rw [hz]; simp [offT]
    have hz4 : z < 64 := by rw [hz]; unfold offT; omega
    have hw4 : IntKind.i64.wrap (z : Int) = (z : Int) := IntWalk.i64_in _ (by omega)
    have hb16 : (byteN s 12 : Int) / 16 % 256 = (byteN s 12 : Int) / 16 := by omega
    have hw16 : IntKind.i64.wrap ((byteN s 12 : Int) / 16) = (byteN s 12 : Int) / 16 := IntWalk.i64_in _ (by omega)
    have hW16 : wrap64 ((byteN s 12 : Int) / 16) = (byteN s 12 : Int) / 16 := by unfold wrap64; omega
    rw [← hz] at d3 f3
    have HZ := Lib.hid hz
    clear hz h2
    go_enter Try.func17, Try.ntmps17
    go_wp2_with (go_at_call 34; with_reducible refine (W0 _).out.mono ?_)
    rintro e w1 ⟨rfl, rfl⟩
    go_wp2_with (go_at_call 34; with_reducible refine (W2 _).out.mono ?_)
    rintro e w1 ⟨rfl, rfl⟩
    go_wp2_with fail
    refine bodyPost_ret (v := .tuple #[.agg #[.int .i64 0, .int .i64 0, .int .i64 0], .int .i64 8]) (by simp [results, Try.results17, go_sem]) rfl ⟨rfl, ((Below.refl _ _).alloc (Nat.le_refl _) _).alloc (by rw [World.size_alloc]; omega) _⟩
  | false =>
    have f3 : decide ((offT s : Int) < 20) = false := by simp at d3 ⊢; omega
    have d4 : decide (s.size < offT s) = true := by simpa [d3] using h2
    have f4 : decide ((s.size : Int) < (offT s : Int)) = true := by simp at d4 ⊢; omega
    have d1 : decide ((s.size : Int) < 20) = false := by simp; omega
    have d1' : decide ((s.size : Int) < 8) = false := by simp; omega
    have g12 : 12 < s.size := by omega
    have e12 := byteN_get s 12 g12
    have hb := byteN_lt s 12
    obtain ⟨z, hz⟩ : ∃ z : Nat, z = offT s := ⟨_, rfl⟩
    have hzi : (byteN s 12 : Int) / 16 * 4 = (z : Int) := by rw [hz]; simp [offT]
    have hz4 : z < 64 := by rw [hz]; unfold offT; omega
    have hw4 : IntKind.i64.wrap (z : Int) = (z : Int) := IntWalk.i64_in _ (by omega)
    have hb16 : (byteN s 12 : Int) / 16 % 256 = (byteN s 12 : Int) / 16 := by omega
    have hw16 : IntKind.i64.wrap ((byteN s 12 : Int) / 16) = (byteN s 12 : Int) / 16 := IntWalk.i64_in _ (by omega)
    have hW16 : wrap64 ((byteN s 12 : Int) / 16) = (byteN s 12 : Int) / 16 := by unfold wrap64; omega
    rw [← hz] at d3 f3 d4 f4
    have HZ := Lib.hid hz
    clear hz h2
    go_enter Try.func17, Try.ntmps17
    go_wp2_with (go_at_call 34; with_reducible refine (W0 _).out.mono ?_)
    rintro e w1 ⟨rfl, rfl⟩
    go_wp2_with (go_at_call 34; with_reducible refine (W2 _).out.mono ?_)
    rintro e w1 ⟨rfl, rfl⟩
    go_wp2_with fail
    refine bodyPost_ret (v := .tuple #[.agg #[.int .i64 0, .int .i64 0, .int .i64 0], .int .i64 8]) (by simp [results, Try.results17, go_sem]) rfl ⟨rfl, ((Below.refl _ _).alloc (Nat.le_refl _) _).alloc (by rw [World.size_alloc]; omega) _⟩

set_option maxHeartbeats 1000000 in
set_option maxRecDepth 100000 in
theorem rp_ok6 (s : ByteArray) (w : World) (hs : s.size ≤ 9223372036854775807) (h1 : ¬ s.size < 20) (h2 : (decide (offT s < 20) || decide (s.size < offT s)) = false) :
    Calls Try.prog 17 #[.int .i64 6, .string s] w fun e w' => e = .returned (.tuple #[.agg #[.int .i64 (getV s 0 2), .int .i64 (getV s 2 2), .int .i64 (byteN s 13 : Int)], .int .i64 0]) ∧ Below w.heap.size w w' := by
  have C0 := word_calls s 0 (by omega)
  have C2 := word_calls s 2 (by omega)
  generalize getV s 0 2 = A at *
  generalize getV s 2 2 = B at *
  have W0 := fun w => Lib.hid (C0 w)
  have W2 := fun w => Lib.hid (C2 w)
  clear C0 C2
  obtain ⟨d3, d4⟩ := Bool.or_eq_false_iff.1 h2
  have f3 : decide ((offT s : Int) < 20) = false := by simp at d3 ⊢; omega
  have f4 : decide ((s.size : Int) < (offT s : Int)) = false := by simp at d4 ⊢; omega
  have g13 : 13 < s.size := by omega
  have e13 := byteN_get s 13 g13
  have hb13 := byteN_lt s 13
  have hw13 : wrap64 (byteN s 13 : Int) = (byteN s 13 : Int) := by unfold wrap64; omega
  have d1 : decide ((s.size : Int) < 20) = false := by simp; omega
  have d1' : decide ((s.size : Int) < 8) = false := by simp; omega
  have g12 : 12 < s.size := by omega
  have e12 := byteN_get s 12 g12
  have hb := byteN_lt s 12
  obtain ⟨z, hz⟩ : ∃ z : Nat, z = offT s := ⟨_, rfl⟩
  have hzi : (byteN s 12 : Int) / 16 * 4 = (z : Int) := by rw [hz]; simp [offT]
  have hz4 : z < 64 := by rw [hz]; unfold offT; omega
  have hw4 : IntKind.i64.wrap (z : Int) = (z : Int) := IntWalk.i64_in _ (by omega)
  have hb16 : (byteN s 12 : Int) / 16 % 256 = (byteN s 12 : Int) / 16 := by omega
  have hw16 : IntKind.i64.wrap ((byteN s 12 : Int) / 16) = (byteN s 12 : Int) / 16 := IntWalk.i64_in _ (by omega)
  have hW16 : wrap64 ((byteN s 12 : Int) / 16) = (byteN s 12 : Int) / 16 := by unfold wrap64; omega
  rw [← hz] at d3 f3 d4 f4
  have HZ := Lib.hid hz
  clear hz h2
  go_enter Try.func17, Try.ntmps17
  go_wp2_with (go_at_call 34; with_reducible refine (W0 _).out.mono ?_)
  rintro e w1 ⟨rfl, rfl⟩
  go_wp2_with (go_at_call 34; with_reducible refine (W2 _).out.mono ?_)
  rintro e w1 ⟨rfl, rfl⟩
  go_wp2_with fail
  refine bodyPost_ret (v := .tuple #[.agg #[.int .i64 A, .int .i64 B, .int .i64 (byteN s 13 : Int)], .int .i64 0]) (by simp [results, Try.results17, go_sem]) rfl ⟨rfl, ((Below.refl _ _).alloc (Nat.le_refl _) _).alloc (by rw [World.size_alloc]; omega) _⟩

theorem refPortParse_calls (k : Int) (s : ByteArray) (hs : s.size ≤ 9223372036854775807) (w : World) :
    Calls Try.prog 17 #[.int .i64 k, .string s] w fun e w' => e = .returned (.tuple #[.agg #[.int .i64 (ppA k s), .int .i64 (ppB k s), .int .i64 (ppF k s)], .int .i64 (ppE k s)]) ∧ Below w.heap.size w w' := by
  unfold ppA ppB ppF
  by_cases h6 : k = 6
  · subst h6
    have e : ppE 6 s = tcpE s := rfl
    rw [e, if_pos rfl]
    unfold tcpF
    by_cases h1 : s.size < 20
    · have e : tcpE s = 2 := by unfold tcpE; rw [if_pos h1]
      rw [e]; exact rp_short6 s w h1
    · cases h2 : (decide (offT s < 20) || decide (s.size < offT s)) with
      | true =>
        have e : tcpE s = 8 := by unfold tcpE; rw [if_neg h1, if_pos h2]
        rw [e]; exact rp_off s w hs h1 h2
      | false =>
        have e : tcpE s = 0 := by unfold tcpE; rw [if_neg h1, if_neg (by rw [h2]; decide)]
        rw [e]; exact rp_ok6 s w hs h1 h2
  · rw [if_neg h6]
    by_cases h17 : k = 17
    · subst h17
      have e : ppE 17 s = udpE s := rfl
      rw [e]
      by_cases h1 : s.size < 8
      · have e : udpE s = 2 := by unfold udpE; rw [if_pos h1]
        rw [e]; exact rp_short17 s w h1
      · cases h2 : (decide (getV s 4 2 < 8) || decide ((s.size : Int) < getV s 4 2)) with
        | true =>
          have e : udpE s = 4 := by unfold udpE; rw [if_neg h1, if_pos h2]
          rw [e]; exact rp_len s w hs h1 h2
        | false =>
          have e : udpE s = 0 := by unfold udpE; rw [if_neg h1, if_neg (by rw [h2]; decide)]
          rw [e]; exact rp_ok17 s w hs h1 h2
    · have e : ppE k s = 7 := by unfold ppE; rw [if_neg h6, if_neg h17]
      rw [e]; exact rp_none k s w h6 h17

set_option maxHeartbeats 1000000 in
set_option maxRecDepth 100000 in
theorem in_calls (n m : Int) (w : World) : Calls Try.prog 36 #[.int .i64 n, .int .i64 m] w fun e w' => e = .returned (.bool (inB n m)) ∧ w = w' := by
  unfold inB
  cases h0 : decide (0 ≤ n) with
  | true =>
    cases h1 : decide (n ≤ m) <;>
      (go_enter Try.func36, Try.ntmps36; go_wp2; go_ret; exact ⟨rfl, rfl⟩)
  | false =>
    go_enter Try.func36, Try.ntmps36
    go_wp2
    go_ret
    exact ⟨rfl, rfl⟩

set_option maxHeartbeats 1000000 in
set_option maxRecDepth 100000 in
theorem ru_none (k a b f : Int) (w : World) (h6 : ¬ k = 6) (h17 : ¬ k = 17) :
    Calls Try.prog 19 #[.int .i64 k, .agg #[.int .i64 a, .int .i64 b, .int .i64 f]] w fun e w' => e = .returned (.tuple #[.string ⟨#[]⟩, .int .i64 7]) ∧ Below w.heap.size w w' := by
  have d1 : (k != 6) = true := by simpa using h6
  have d2 : (k != 17) = true := by simpa using h17
  clear h6 h17
  go_enter Try.func19, Try.ntmps19
  go_wp2
  go_ret2
  exact ⟨rfl, (Below.refl _ _).alloc (Nat.le_refl _) _⟩

set_option maxHeartbeats 1000000 in
set_option maxRecDepth 100000 in
theorem ru_bad6 (a b f : Int) (w : World) (h : (inB a 65535 && inB b 65535 && inB f 255 && true) = false) :
    Calls Try.prog 19 #[.int .i64 6, .agg #[.int .i64 a, .int .i64 b, .int .i64 f]] w fun e w' => e = .returned (.tuple #[.string ⟨#[]⟩, .int .i64 1]) ∧ Below w.heap.size w w' := by
  have I1 := fun w => Lib.hid (in_calls a 65535 w)
  have I2 := fun w => Lib.hid (in_calls b 65535 w)
  have I3 := fun w => Lib.hid (in_calls f 255 w)
  have hz : (f != 0) = !decide (f = 0) := by rw [Bool.eq_iff_iff]; simp
  generalize inB a 65535 = x at *
  generalize inB b 65535 = y at *
  generalize inB f 255 = z at *
  generalize decide (f = 0) = v at *
  cases x with
  | false =>
    clear h
    go_enter Try.func19, Try.ntmps19
    go_wp2_with (go_at_call 36; first | (with_reducible refine (I1 _).out.mono ?_; rintro e w1 ⟨rfl, rfl⟩) | (with_reducible refine (I2 _).out.mono ?_; rintro e w1 ⟨rfl, rfl⟩) | (with_reducible refine (I3 _).out.mono ?_; rintro e w1 ⟨rfl, rfl⟩))
    go_ret2
    exact ⟨rfl, (Below.refl _ _).alloc (Nat.le_refl _) _⟩
  | true =>
    cases y with
    | false =>
      clear h
      go_enter Try.func19, Try.ntmps19
      go_wp2_with (go_at_call 36; first | (with_reducible refine (I1 _).out.mono ?_; rintro e w1 ⟨rfl, rfl⟩) | (with_reducible refine (I2 _).out.mono ?_; rintro e w1 ⟨rfl, rfl⟩) | (with_reducible refine (I3 _).out.mono ?_; rintro e w1 ⟨rfl, rfl⟩))
      go_ret2
      exact ⟨rfl, (Below.refl _ _).alloc (Nat.le_refl _) _⟩
    | true =>
      cases z with
      | false =>
        clear h
        go_enter Try.func19, Try.ntmps19
        go_wp2_with (go_at_call 36; first | (with_reducible refine (I1 _).out.mono ?_; rintro e w1 ⟨rfl, rfl⟩) | (with_reducible refine (I2 _).out.mono ?_; rintro e w1 ⟨rfl, rfl⟩) | (with_reducible refine (I3 _).out.mono ?_; rintro e w1 ⟨rfl, rfl⟩))
        go_ret2
        exact ⟨rfl, (Below.refl _ _).alloc (Nat.le_refl _) _⟩
      | true =>
        simp at h

set_option maxHeartbeats 1000000 in
set_option maxRecDepth 100000 in
theorem ru_ok6 (a b f : Int) (w : World) (h1 : inB a 65535 = true) (h2 : inB b 65535 = true) (h3 : inB f 255 = true) :
    Calls Try.prog 19 #[.int .i64 6, .agg #[.int .i64 a, .int .i64 b, .int .i64 f]] w fun e w' => e = .returned (.tuple #[.string (abS a b ++ fS 6 f), .int .i64 0]) ∧ Below w.heap.size w w' := by
  have I1 := fun w => Lib.hid (in_calls a 65535 w)
  have I2 := fun w => Lib.hid (in_calls b 65535 w)
  have I3 := fun w => Lib.hid (in_calls f 255 w)
  rw [h1] at I1
  rw [h2] at I2
  rw [h3] at I3
  simp [inB] at h1 h2 h3
  have C1 := fun w => Lib.hid (refPut_calls a 2 (by omega) (by omega) w)
  have C2 := fun w => Lib.hid (refPut_calls b 2 (by omega) (by omega) w)
  have C3 := fun w => Lib.hid (refPut_calls f 1 (by omega) (by omega) w)
  have hwa : IntKind.u64.wrap a = a := by rw [IntKind.wrap_u64]; omega
  have hwb : IntKind.u64.wrap b = b := by rw [IntKind.wrap_u64]; omega
  have hwf : IntKind.u64.wrap f = f := by rw [IntKind.wrap_u64]; omega
  have s1 : (putS a 2).size = 2 := by have := putS_size a 2; simp at this; omega
  have s2 : (putS b 2).size = 2 := by have := putS_size b 2; simp at this; omega
  have s3 : (putS f 1).size = 1 := by have := putS_size f 1; simp at this; omega
  obtain ⟨W, hW⟩ : ∃ W : World, W = w.alloc (.cells #[.int .i64 a, .int .i64 b, .int .i64 f] 28) := ⟨_, rfl⟩
  have hbx : W.heap[w.heap.size]? = some (.cells #[.int .i64 a, .int .i64 b, .int .i64 f] 28 (0, 0)) := by rw [hW]; exact heap_alloc_new w _
  have hlt : w.heap.size < W.heap.size := by rw [hW, World.size_alloc]; omega
  have q : ∀ x : Later W, x.world.heap[w.heap.size]? = some (.cells #[.int .i64 a, .int .i64 b, .int .i64 f] 28 (0, 0)) := fun x => (x.below.block _ hlt).trans hbx
  have q0 : ∀ x : Later W, x.world.cell? ⟨w.heap.size, 0, none⟩ = some (.int .i64 a) := fun x => by simp [World.cell?, q x]
  have q1 : ∀ x : Later W, x.world.cell? ⟨w.heap.size, 1, none⟩ = some (.int .i64 b) := fun x => by simp [World.cell?, q x]
  have q2 : ∀ x : Later W, x.world.cell? ⟨w.heap.size, 2, none⟩ = some (.int .i64 f) := fun x => by simp [World.cell?, q x]
  have hbW : Below w.heap.size w W := by rw [hW]; exact (Below.refl _ _).alloc (Nat.le_refl _) _
  have HW := Lib.hid hW
  clear q hbx hW
  have hput : abS a b ++ fS 6 f = putS a 2 ++ putS b 2 ++ ⟨#[0, 0, 0, 0, 0, 0, 0, 0, 80]⟩ ++ putS f 1 ++ ⟨#[0, 0, 0, 0, 0, 0]⟩ := by
    have e : (⟨#[0, 0, 0, 0, 0, 0, 0, 0]⟩ : ByteArray) ++ ⟨#[80]⟩ = ⟨#[0, 0, 0, 0, 0, 0, 0, 0, 80]⟩ := rfl
    unfold abS fS
    rw [if_pos rfl, e]
    simp only [ByteArray.append_assoc]
  have z1 : (⟨#[0, 0, 0, 0, 0, 0, 0, 0, 80]⟩ : ByteArray).size = 9 := rfl
  have z2 : (⟨#[0, 0, 0, 0, 0, 0]⟩ : ByteArray).size = 6 := rfl
  rw [hput]
  have HP := Lib.hid hput
  clear hput h1 h2 h3
  generalize putS a 2 = S1 at *
  generalize putS b 2 = S2 at *
  generalize putS f 1 = S3 at *
  go_enter Try.func19, Try.ntmps19
  go_wp2_with (go_at_call 36; first | (with_reducible refine (I1 _).out.mono ?_; rintro e w1 ⟨rfl, rfl⟩) | (with_reducible refine (I2 _).out.mono ?_; rintro e w1 ⟨rfl, rfl⟩) | (with_reducible refine (I3 _).out.mono ?_; rintro e w1 ⟨rfl, rfl⟩))
  rw [← HW.out]
  refine wp_region_later (by kernel_rfl) (by kernel_rfl) ?_
  repeat (go_big_quiet_step ((go_at_call 37; first | with_reducible exact calls_later (C1 _).out | with_reducible exact calls_later (C2 _).out)))
  refine wpQuiet_nil ?_
  rintro _ ⟨x, rfl⟩
  have v2 := q2 x
  go_wp2_with (go_at_call 37; with_reducible refine (C3 _).out.mono ?_)
  rintro e w2 ⟨rfl, hb2⟩
  go_wp2_with fail
  go_ret2
  exact ⟨rfl, bl (hbW.trans (x.below.mono hbW.size)) hb2⟩

set_option maxHeartbeats 1000000 in
set_option maxRecDepth 100000 in
theorem ru_bad17 (a b f : Int) (w : World) (h : (inB a 65535 && inB b 65535 && inB f 255 && decide (f = 0)) = false) :
    Calls Try.prog 19 #[.int .i64 17, .agg #[.int .i64 a, .int .i64 b, .int .i64 f]] w fun e w' => e = .returned (.tuple #[.string ⟨#[]⟩, .int .i64 1]) ∧ Below w.heap.size w w' := by
  have I1 := fun w => Lib.hid (in_calls a 65535 w)
  have I2 := fun w => Lib.hid (in_calls b 65535 w)
  have I3 := fun w => Lib.hid (in_calls f 255 w)
  have hz : (f != 0) = !decide (f = 0) := by rw [Bool.eq_iff_iff]; simp
  generalize inB a 65535 = x at *
  generalize inB b 65535 = y at *
  generalize inB f 255 = z at *
  generalize decide (f = 0) = v at *
  cases x with
  | false =>
    clear h
    go_enter Try.func19, Try.ntmps19
    go_wp2_with (go_at_call 36; first | (with_reducible refine (I1 _).out.mono ?_; rintro e w1 ⟨rfl, rfl⟩) | (with_reducible refine (I2 _).out.mono ?_; rintro e w1 ⟨rfl, rfl⟩) | (with_reducible refine (I3 _).out.mono ?_; rintro e w1 ⟨rfl, rfl⟩))
    go_ret2
    exact ⟨rfl, (Below.refl _ _).alloc (Nat.le_refl _) _⟩
  | true =>
    cases y with
    | false =>
      clear h
      go_enter Try.func19, Try.ntmps19
      go_wp2_with (go_at_call 36; first | (with_reducible refine (I1 _).out.mono ?_; rintro e w1 ⟨rfl, rfl⟩) | (with_reducible refine (I2 _).out.mono ?_; rintro e w1 ⟨rfl, rfl⟩) | (with_reducible refine (I3 _).out.mono ?_; rintro e w1 ⟨rfl, rfl⟩))
      go_ret2
      exact ⟨rfl, (Below.refl _ _).alloc (Nat.le_refl _) _⟩
    | true =>
      cases z with
      | false =>
        clear h
        go_enter Try.func19, Try.ntmps19
        go_wp2_with (go_at_call 36; first | (with_reducible refine (I1 _).out.mono ?_; rintro e w1 ⟨rfl, rfl⟩) | (with_reducible refine (I2 _).out.mono ?_; rintro e w1 ⟨rfl, rfl⟩) | (with_reducible refine (I3 _).out.mono ?_; rintro e w1 ⟨rfl, rfl⟩))
        go_ret2
        exact ⟨rfl, (Below.refl _ _).alloc (Nat.le_refl _) _⟩
      | true =>
        have hv : v = false := by simpa using h
        subst hv
        clear h
        go_enter Try.func19, Try.ntmps19
        go_wp2_with (go_at_call 36; first | (with_reducible refine (I1 _).out.mono ?_; rintro e w1 ⟨rfl, rfl⟩) | (with_reducible refine (I2 _).out.mono ?_; rintro e w1 ⟨rfl, rfl⟩) | (with_reducible refine (I3 _).out.mono ?_; rintro e w1 ⟨rfl, rfl⟩))
        go_ret2
        exact ⟨rfl, (Below.refl _ _).alloc (Nat.le_refl _) _⟩

set_option maxHeartbeats 1000000 in
set_option maxRecDepth 100000 in
theorem ru_ok17 (a b f : Int) (w : World) (h1 : inB a 65535 = true) (h2 : inB b 65535 = true) (h3 : inB f 255 = true) (h4 : f = 0) :
    Calls Try.prog 19 #[.int .i64 17, .agg #[.int .i64 a, .int .i64 b, .int .i64 f]] w fun e w' => e = .returned (.tuple #[.string (abS a b ++ fS 17 f), .int .i64 0]) ∧ Below w.heap.size w w' := by
  have I1 := fun w => Lib.hid (in_calls a 65535 w)
  have I2 := fun w => Lib.hid (in_calls b 65535 w)
  have I3 := fun w => Lib.hid (in_calls f 255 w)
  rw [h1] at I1
  rw [h2] at I2
  rw [h3] at I3
  simp [inB] at h1 h2 h3
  have C1 := fun w => Lib.hid (refPut_calls a 2 (by omega) (by omega) w)
  have C2 := fun w => Lib.hid (refPut_calls b 2 (by omega) (by omega) w)
  have C3 := fun w => Lib.hid (refPut_calls f 1 (by omega) (by omega) w)
  have hwa : IntKind.u64.wrap a = a := by rw [IntKind.wrap_u64]; omega
  have hwb : IntKind.u64.wrap b = b := by rw [IntKind.wrap_u64]; omega
  have hwf : IntKind.u64.wrap f = f := by rw [IntKind.wrap_u64]; omega
  have s1 : (putS a 2).size = 2 := by have := putS_size a 2; simp at this; omega
  have s2 : (putS b 2).size = 2 := by have := putS_size b 2; simp at this; omega
  have s3 : (putS f 1).size = 1 := by have := putS_size f 1; simp at this; omega
  obtain ⟨W, hW⟩ : ∃ W : World, W = w.alloc (.cells #[.int .i64 a, .int .i64 b, .int .i64 f] 28) := ⟨_, rfl⟩
  have hbx : W.heap[w.heap.size]? = some (.cells #[.int .i64 a, .int .i64 b, .int .i64 f] 28 (0, 0)) := by rw [hW]; exact heap_alloc_new w _
  have hlt : w.heap.size < W.heap.size := by rw [hW, World.size_alloc]; omega
  have q : ∀ x : Later W, x.world.heap[w.heap.size]? = some (.cells #[.int .i64 a, .int .i64 b, .int .i64 f] 28 (0, 0)) := fun x => (x.below.block _ hlt).trans hbx
  have q0 : ∀ x : Later W, x.world.cell? ⟨w.heap.size, 0, none⟩ = some (.int .i64 a) := fun x => by simp [World.cell?, q x]
  have q1 : ∀ x : Later W, x.world.cell? ⟨w.heap.size, 1, none⟩ = some (.int .i64 b) := fun x => by simp [World.cell?, q x]
  have q2 : ∀ x : Later W, x.world.cell? ⟨w.heap.size, 2, none⟩ = some (.int .i64 f) := fun x => by simp [World.cell?, q x]
  have hbW : Below w.heap.size w W := by rw [hW]; exact (Below.refl _ _).alloc (Nat.le_refl _) _
  have HW := Lib.hid hW
  clear q hbx hW
  have hput : abS a b ++ fS 17 f = putS a 2 ++ putS b 2 ++ ⟨#[0, 8, 0, 0]⟩ := rfl
  have z1 : (⟨#[0, 8, 0, 0]⟩ : ByteArray).size = 4 := rfl
  have hf0 : (f != 0) = false := by simp [h4]
  rw [hput]
  have HP := Lib.hid hput
  clear hput h1 h2 h3 h4
  generalize putS a 2 = S1 at *
  generalize putS b 2 = S2 at *
  generalize putS f 1 = S3 at *
  go_enter Try.func19, Try.ntmps19
  go_wp2_with (go_at_call 36; first | (with_reducible refine (I1 _).out.mono ?_; rintro e w1 ⟨rfl, rfl⟩) | (with_reducible refine (I2 _).out.mono ?_; rintro e w1 ⟨rfl, rfl⟩) | (with_reducible refine (I3 _).out.mono ?_; rintro e w1 ⟨rfl, rfl⟩))
  rw [← HW.out]
  refine wp_region_later (by kernel_rfl) (by kernel_rfl) ?_
  repeat (go_big_quiet_step ((go_at_call 37; first | with_reducible exact calls_later (C1 _).out | with_reducible exact calls_later (C2 _).out)))
  refine wpQuiet_nil ?_
  rintro _ ⟨x, rfl⟩
  have v2 := q2 x
  go_wp2_with fail
  go_ret2
  exact ⟨rfl, hbW.trans (x.below.mono hbW.size)⟩

theorem refPortPut_calls (k a b f : Int) (w : World) :
    Calls Try.prog 19 #[.int .i64 k, .agg #[.int .i64 a, .int .i64 b, .int .i64 f]] w fun e w' => e = .returned (.tuple #[.string (puS k a b f), .int .i64 (puE k a b f)]) ∧ Below w.heap.size w w' := by
  by_cases h6 : k = 6
  · subst h6
    cases hk : (inB a 65535 && inB b 65535 && fB 6 f) with
    | false =>
      have e : puE 6 a b f = 1 := by unfold puE; rw [if_pos (by decide), hk]; rfl
      have e2 : puS 6 a b f = ⟨#[]⟩ := by unfold puS; rw [e]; rfl
      rw [e, e2]; exact ru_bad6 a b f w (by simpa [fB] using hk)
    | true =>
      have e : puE 6 a b f = 0 := by unfold puE; rw [if_pos (by decide), hk]; rfl
      have e2 : puS 6 a b f = abS a b ++ fS 6 f := by unfold puS; rw [if_pos e]
      simp [fB] at hk
      rw [e, e2]; exact ru_ok6 a b f w hk.1.1 hk.1.2 hk.2
  · by_cases h17 : k = 17
    · subst h17
      cases hk : (inB a 65535 && inB b 65535 && fB 17 f) with
      | false =>
        have e : puE 17 a b f = 1 := by unfold puE; rw [if_pos (by decide), hk]; rfl
        have e2 : puS 17 a b f = ⟨#[]⟩ := by unfold puS; rw [e]; rfl
        rw [e, e2]
        refine ru_bad17 a b f w ?_
        have e3 : fB 17 f = decide (f = 0) := rfl
        rw [e3] at hk
        by_cases hf : f = 0
        · simp [hf] at hk ⊢
          intro h1 h2
          exact absurd (hk h1) (by simp [h2])
        · simp [hf]
      | true =>
        have e : puE 17 a b f = 0 := by unfold puE; rw [if_pos (by decide), hk]; rfl
        have e2 : puS 17 a b f = abS a b ++ fS 17 f := by unfold puS; rw [if_pos e]
        simp [fB] at hk
        rw [e, e2]; exact ru_ok17 a b f w hk.1.1 hk.1.2 (by rw [hk.2]; decide) hk.2
    · have e : puE k a b f = 7 := by unfold puE; rw [if_neg (by omega)]
      have e2 : puS k a b f = ⟨#[]⟩ := by unfold puS; rw [e]; rfl
      rw [e, e2]; exact ru_none k a b f w h6 h17
end Go.Proofs.Ytjfijllnmjajpaa
