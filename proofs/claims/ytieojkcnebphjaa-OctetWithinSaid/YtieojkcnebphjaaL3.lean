/- The last two laws of chapter 1 (octet), walked. -/
import Derived.WalkKit
import Derived.WalkSpells
import Derived.WalkLawsBesides
import Derived.Lib.Hide
import Derived.BigQuiet
import Derived.Deep.QuietTactic
import Derived.Outline
import Derived.Test.YtieojkcnebphjaaL2
namespace Go.Proofs.Ytieojkcnebphjaa
open Go.RowKit Go.BigFrame

theorem be_cons (a : UInt8) (l : List UInt8) : be (a :: l) = a.toNat * 256 ^ l.length + be l := by
  have := be_append [a] l
  simpa [be] using this

/-- Texts of one length stand in the order of their numbers. -/
theorem less_be : ∀ (x y : List UInt8), x.length = y.length → Op.bytesLess x y = decide (be x < be y)
  | [], [], _ => by simp [Op.bytesLess]
  | [], _ :: _, h => by simp at h
  | _ :: _, [], h => by simp at h
  | a :: x, b :: y, h => by
    have hl : x.length = y.length := by simpa using h
    have ih := less_be x y hl
    have hx := be_lt x
    have hy := be_lt y
    rw [Op.bytesLess, ih, be_cons, be_cons, hl]
    rw [hl] at hx
    generalize 256 ^ y.length = p at hx hy
    have hab : (a == b) = decide (a.toNat = b.toNat) := by
      rw [Bool.eq_iff_iff, beq_iff_eq, decide_eq_true_iff]; exact UInt8.toNat_inj.symm
    have hlt : decide (a < b) = decide (a.toNat < b.toNat) := by simp [UInt8.lt_iff_toNat_lt]
    rw [hab, hlt]
    rcases Nat.lt_trichotomy a.toNat b.toNat with h1 | h1 | h1
    · have : a.toNat * p + be x < b.toNat * p + be y := by
        have h2 : (a.toNat + 1) * p ≤ b.toNat * p := Nat.mul_le_mul_right p h1
        rw [Nat.add_mul] at h2; omega
      simp [h1, this]
    · simp [h1]
    · have : ¬ (a.toNat * p + be x < b.toNat * p + be y) := by
        have h2 : (b.toNat + 1) * p ≤ a.toNat * p := Nat.mul_le_mul_right p h1
        rw [Nat.add_mul] at h2; omega
      have h3 : ¬ a.toNat < b.toNat := by omega
      have h4 : ¬ a.toNat = b.toNat := by omega
      simp [this, h3, h4]

theorem order_less (v u : Int) (hv : 0 ≤ v ∧ v ≤ 18446744073709551615) (hu : 0 ≤ u ∧ u ≤ 18446744073709551615) :
    Op.bytesLess (putS v 8).toList (putS u 8).toList = decide (v < u) ∧ ((putS v 8).toList == (putS u 8).toList) = (v == u) := by
  obtain ⟨V, rfl⟩ := Int.eq_ofNat_of_zero_le hv.1
  obtain ⟨U, rfl⟩ := Int.eq_ofNat_of_zero_le hu.1
  rw [putS_yes ⟨by decide, by decide⟩, putS_yes ⟨by decide, by decide⟩, Lib.toList_data, Lib.toList_data]
  show Op.bytesLess (eb 8 V) (eb 8 U) = _ ∧ (eb 8 V == eb 8 U) = _
  have eV : be (eb 8 V) = V := by rw [be_eb]; exact Nat.mod_eq_of_lt (by have := hv.2; omega)
  have eU : be (eb 8 U) = U := by rw [be_eb]; exact Nat.mod_eq_of_lt (by have := hu.2; omega)
  refine ⟨?_, ?_⟩
  · rw [less_be _ _ (by rw [eb_length, eb_length]), eV, eU]; simp
  · rw [Bool.eq_iff_iff, beq_iff_eq, beq_iff_eq]
    constructor
    · intro h; rw [h, eU] at eV; rw [eV]
    · intro h; rw [Int.ofNat_inj.1 h]

set_option maxRecDepth 100000 in
set_option maxHeartbeats 400000 in
theorem OctetOrder_walk (v u : Int) (hv : 0 ≤ v ∧ v ≤ 18446744073709551615) (hu : 0 ≤ u ∧ u ≤ 18446744073709551615) (w : World) :
    Calls Try.prog 7 #[.int .u64 v, .int .u64 u] w fun e w' => e = .returned (.bool true) ∧ Below w.heap.size w w' := by
  have C0 := Lib.hid works1_calls
  have C1 := Lib.hid (Put_calls v 8 hv.1)
  have C2 := Lib.hid (Put_calls u 8 hu.1)
  obtain ⟨o1, o2⟩ := order_less v u hv hu
  clear hv hu
  generalize putS v 8 = S at *
  generalize putS u 8 = T at *
  rcases Int.lt_trichotomy v u with h | h | h
  · have q1 : decide (v < u) = true := by simpa using h
    have q2 : (v == u) = false := by simp; omega
    rw [q1] at o1; rw [q2] at o2
    clear h
    go_enter Try.func7, Try.ntmps7
    go_wp2_with fail
    refine (C0.out _).mono ?_
    rintro e w1 ⟨rfl, hb1⟩
    go_wp2_with fail
    refine (C1.out _).mono ?_
    rintro e w2 ⟨rfl, hb2⟩
    go_wp2_with fail
    refine (C2.out _).mono ?_
    rintro e w3 ⟨rfl, hb3⟩
    go_wp2_with fail
    go_ret
    exact ⟨rfl, bb (bb hb1 hb2) hb3⟩
  · have q1 : decide (v < u) = false := by simp; omega
    have q2 : (v == u) = true := by simpa using h
    rw [q1] at o1; rw [q2] at o2
    clear h
    go_enter Try.func7, Try.ntmps7
    go_wp2_with fail
    refine (C0.out _).mono ?_
    rintro e w1 ⟨rfl, hb1⟩
    go_wp2_with fail
    refine (C1.out _).mono ?_
    rintro e w2 ⟨rfl, hb2⟩
    go_wp2_with fail
    refine (C2.out _).mono ?_
    rintro e w3 ⟨rfl, hb3⟩
    go_wp2_with fail
    go_ret
    exact ⟨rfl, bb (bb hb1 hb2) hb3⟩
  · have q1 : decide (v < u) = false := by simp; omega
    have q2 : (v == u) = false := by simp; omega
    rw [q1] at o1; rw [q2] at o2
    clear h
    go_enter Try.func7, Try.ntmps7
    go_wp2_with fail
    refine (C0.out _).mono ?_
    rintro e w1 ⟨rfl, hb1⟩
    go_wp2_with fail
    refine (C1.out _).mono ?_
    rintro e w2 ⟨rfl, hb2⟩
    go_wp2_with fail
    refine (C2.out _).mono ?_
    rintro e w3 ⟨rfl, hb3⟩
    go_wp2_with fail
    go_ret
    exact ⟨rfl, bb (bb hb1 hb2) hb3⟩

theorem within_get (v p n : Int) (hv : 0 ≤ v ∧ v ≤ 18446744073709551615) (h0 : 0 ≤ p) (h1 : 1 ≤ n) (h : p + n ≤ 8) :
    getB (putS v 8) p n = true ∧ getV (putS v 8) p n = IntKind.u64.wrap (v * 2 ^ (8 * p).toNat) / 2 ^ (64 - 8 * n).toNat := by
  obtain ⟨V, rfl⟩ := Int.eq_ofNat_of_zero_le hv.1
  obtain ⟨P, rfl⟩ := Int.eq_ofNat_of_zero_le h0
  obtain ⟨N, rfl⟩ := Int.eq_ofNat_of_zero_le (show 0 ≤ n by omega)
  have hsz := putS_size (V : Int) 8
  rw [if_pos ⟨by decide, by decide⟩] at hsz
  have hB : getB (putS V 8) P N = true := by rw [getB_iff]; omega
  refine ⟨hB, ?_⟩
  have e1 : ((8 : Int) * (P : Int)).toNat = 8 * P := by omega
  have e2 : ((64 : Int) - 8 * (N : Int)).toNat = 64 - 8 * N := by omega
  rw [getV_yes hB, putS_yes ⟨by decide, by decide⟩, e1, e2]
  show ((be (((eb 8 V).drop P).take N) : Nat) : Int) = _
  rw [eb_part 8 V P N (by omega), be_eb, IntKind.wrap_u64]
  have a1 : (18446744073709551616 : Nat) = 2 ^ (64 - 8 * P) * 2 ^ (8 * P) := by rw [← Nat.pow_add, show 64 - 8 * P + 8 * P = 64 by omega]
  have a2 : 2 ^ (64 - 8 * N) = 2 ^ (8 * P) * 2 ^ (8 * (8 - P - N)) := by rw [← Nat.pow_add, show 8 * P + 8 * (8 - P - N) = 64 - 8 * N by omega]
  have a3 : 2 ^ (64 - 8 * P) = 2 ^ (8 * (8 - P - N)) * 2 ^ (8 * N) := by rw [← Nat.pow_add, show 8 * (8 - P - N) + 8 * N = 64 - 8 * P by omega]
  have h : V / 256 ^ (8 - P - N) % 256 ^ N = V * 2 ^ (8 * P) % 18446744073709551616 / 2 ^ (64 - 8 * N) := by
    rw [a1, Nat.mul_mod_mul_right, a2, ← Nat.div_div_eq_div_mul, Nat.mul_div_cancel _ (Nat.pow_pos (by decide)), a3, Nat.mod_mul_right_div_self, pow_256, pow_256]
  rw [h, Int.natCast_ediv, Int.natCast_emod, Int.natCast_mul, Int.natCast_pow, Int.natCast_pow]
  rfl

set_option maxRecDepth 100000 in
set_option maxHeartbeats 400000 in
theorem OctetWithin_walk (v p n : Int) (hv : 0 ≤ v ∧ v ≤ 18446744073709551615) (hp : -9223372036854775808 ≤ p ∧ p ≤ 9223372036854775807) (hn : -9223372036854775808 ≤ n ∧ n ≤ 9223372036854775807) (w : World) :
    Calls Try.prog 8 #[.int .u64 v, .int .i64 p, .int .i64 n] w fun e w' => e = .returned (.bool true) ∧ Below w.heap.size w w' := by
  have C0 := Lib.hid works1_calls
  by_cases k1 : p < 0
  · have d1 : decide (p < 0) = true := by simpa using k1
    clear hv
    go_enter Try.func8, Try.ntmps8
    go_wp2_with fail
    refine (C0.out _).mono ?_
    rintro e w1 ⟨rfl, hb1⟩
    go_wp2_with fail
    go_ret
    exact ⟨rfl, hb1⟩
  have d1 : decide (p < 0) = false := by simpa using k1
  by_cases k2 : n < 1
  · have d2 : decide (n < 1) = true := by simpa using k2
    clear hv
    go_enter Try.func8, Try.ntmps8
    go_wp2_with fail
    refine (C0.out _).mono ?_
    rintro e w1 ⟨rfl, hb1⟩
    go_wp2_with fail
    go_ret
    exact ⟨rfl, hb1⟩
  have d2 : decide (n < 1) = false := by simpa using k2
  by_cases k3 : 7 < p
  · have d3 : decide (7 < p) = true := by simpa using k3
    clear hv
    go_enter Try.func8, Try.ntmps8
    go_wp2_with fail
    refine (C0.out _).mono ?_
    rintro e w1 ⟨rfl, hb1⟩
    go_wp2_with fail
    go_ret
    exact ⟨rfl, hb1⟩
  have d3 : decide (7 < p) = false := by simpa using k3
  by_cases k4 : 8 - p < n
  · have d4 : decide (8 - p < n) = true := by simpa using k4
    clear hv
    go_enter Try.func8, Try.ntmps8
    go_wp2_with fail
    refine (C0.out _).mono ?_
    rintro e w1 ⟨rfl, hb1⟩
    go_wp2_with fail
    go_ret
    exact ⟨rfl, hb1⟩
  have d4 : decide (8 - p < n) = false := by simpa using k4
  obtain ⟨g1, g2⟩ := within_get v p n hv (by omega) (by omega) (by omega)
  have c2 := Get_calls (putS v 8) p n (by have := putS_le v 8; omega)
  obtain ⟨V, hV⟩ : ∃ V, V = getV (putS v 8) p n := ⟨_, rfl⟩
  have q1 : (V == IntKind.u64.wrap (v * 2 ^ (8 * p).toNat) / 2 ^ (64 - 8 * n).toNat) = true := by rw [beq_iff_eq, hV]; exact g2
  rw [g1, ← hV] at c2
  have C1 := Lib.hid (Put_calls v 8 hv.1)
  have C2 := Lib.hid c2
  clear c2 g1 g2 hV hv
  go_enter Try.func8, Try.ntmps8
  go_wp2_with fail
  refine (C0.out _).mono ?_
  rintro e w1 ⟨rfl, hb1⟩
  go_wp2_with fail
  refine (C1.out _).mono ?_
  rintro e w2 ⟨rfl, hb2⟩
  go_wp2_with fail
  refine (C2.out _).mono ?_
  rintro e w3 ⟨rfl, hb3⟩
  go_wp2_with fail
  go_ret
  exact ⟨rfl, bb (bb hb1 hb2) hb3⟩
end Go.Proofs.Ytieojkcnebphjaa
