/- The laws of chapter 1 (octet), walked: each returns true, whatever it is given; nothing that lay before is changed. -/
import Derived.WalkKit
import Derived.WalkSpells
import Derived.WalkLawsBesides
import Derived.Lib.Hide
import Derived.BigQuiet
import Derived.Deep.QuietTactic
import Derived.Outline
import Derived.Test.YtieojkcnebphjaaPt
import Derived.Test.YtieojkcnebphjaaR1
namespace Go.Proofs.Ytieojkcnebphjaa
open Go.RowKit

theorem bb {w w1 w2 : World} (h : Below w.heap.size w w1) (k : Below w1.heap.size w1 w2) : Below w.heap.size w w2 := h.trans (k.mono h.size)

set_option maxRecDepth 100000 in
set_option maxHeartbeats 400000 in
theorem works1_calls (w : World) : Calls Try.prog 14 #[] w fun e w' => e = .returned (.bool true) ∧ Below w.heap.size w w' := by
  have c1 := Get_calls ⟨#[1, 2, 3]⟩ 1 2 (by decide)
  have c2 := Get_calls ⟨#[1]⟩ 1 1 (by decide)
  have c3 := Put_calls 515 2 (by decide)
  have c4 := Put_calls 1 0 (by decide)
  rw [show getV ⟨#[1, 2, 3]⟩ 1 2 = 515 from by decide, show getB ⟨#[1, 2, 3]⟩ 1 2 = true from by decide] at c1
  rw [show getV ⟨#[1]⟩ 1 1 = 0 from by decide, show getB ⟨#[1]⟩ 1 1 = false from by decide] at c2
  rw [show putS 515 2 = ⟨#[2, 3]⟩ from by decide] at c3
  rw [show putS 1 0 = ⟨#[]⟩ from by decide] at c4
  have C1 := Lib.hid c1; have C2 := Lib.hid c2; have C3 := Lib.hid c3; have C4 := Lib.hid c4
  clear c1 c2 c3 c4
  go_enter Try.func14, Try.ntmps14
  go_wp2_with fail
  refine (C1.out _).mono ?_
  rintro e w1 ⟨rfl, hb1⟩
  go_wp2_with fail
  refine (C2.out _).mono ?_
  rintro e w2 ⟨rfl, hb2⟩
  go_wp2_with fail
  refine (C3.out _).mono ?_
  rintro e w3 ⟨rfl, hb3⟩
  go_wp2_with fail
  refine (C4.out _).mono ?_
  rintro e w4 ⟨rfl, hb4⟩
  go_wp2_with fail
  go_ret
  exact ⟨rfl, bb (bb (bb hb1 hb2) hb3) hb4⟩

set_option maxRecDepth 100000 in
set_option maxHeartbeats 400000 in
theorem OctetTells_walk (s : ByteArray) (p n v : Int) (hs : s.size ≤ 9223372036854775807) (_ : -9223372036854775808 ≤ p ∧ p ≤ 9223372036854775807) (_ : -9223372036854775808 ≤ n ∧ n ≤ 9223372036854775807) (hv : 0 ≤ v ∧ v ≤ 18446744073709551615) (w : World) :
    Calls Try.prog 3 #[.string s, .int .i64 p, .int .i64 n, .int .u64 v] w fun e w' => e = .returned (.bool true) ∧ Below w.heap.size w w' := by
  have C0 := Lib.hid works1_calls
  have C1 := Lib.hid (Get_calls s p n (by omega))
  have C2 := Lib.hid (refGet_calls s p n (by omega))
  have C3 := Lib.hid (Put_calls v n hv.1)
  have C4 := Lib.hid (refPut_calls v n hv.1 (by omega))
  clear hv
  by_cases hlen : (300 : Int) < (s.size : Int)
  · go_enter Try.func3, Try.ntmps3
    go_wp2_with fail
    refine (C0.out _).mono ?_
    rintro e w1 ⟨rfl, hb1⟩
    go_wp2_with fail
    go_ret
    exact ⟨rfl, hb1⟩
  · go_enter Try.func3, Try.ntmps3
    go_wp2_with fail
    refine (C0.out _).mono ?_
    rintro e w1 ⟨rfl, hb1⟩
    go_wp2_with fail
    refine (C1.out _).mono ?_
    rintro e w2 ⟨rfl, hb2⟩
    go_wp2_with fail
    refine (C2.out _).mono ?_
    rintro e w3 ⟨rfl, rfl⟩
    go_wp2_with fail
    refine (C3.out _).mono ?_
    rintro e w4 ⟨rfl, hb4⟩
    go_wp2_with fail
    refine (C4.out _).mono ?_
    rintro e w5 ⟨rfl, hb5⟩
    go_wp2_with fail
    go_ret
    exact ⟨rfl, bb (bb (bb hb1 hb2) hb4) hb5⟩

theorem back_get (v n : Int) (a b : ByteArray) (h1 : 1 ≤ n) (h8 : n ≤ 8) :
    getB (a ++ putS v n ++ b) (a.size : Int) n = true ∧ getV (a ++ putS v n ++ b) (a.size : Int) n = ((v.toNat % 256 ^ n.toNat : Nat) : Int) := by
  have hsz := putS_size v n
  rw [if_pos ⟨h1, h8⟩] at hsz
  have hB : getB (a ++ putS v n ++ b) (a.size : Int) n = true := by
    rw [getB_iff]
    refine ⟨h1, h8, by omega, ?_⟩
    rw [ByteArray.size_append, ByteArray.size_append]
    omega
  refine ⟨hB, ?_⟩
  rw [getV_yes hB, ← be_eb, putS_yes ⟨h1, h8⟩]
  congr 2
  rw [ByteArray.data_append, ByteArray.data_append, Int.toNat_natCast, Array.toList_append, Array.toList_append, List.append_assoc, List.drop_append_of_le_length (by simp)]
  have hd : a.data.toList.drop a.size = [] := List.drop_of_length_le (by simp)
  rw [hd, List.nil_append, List.take_append_of_le_length (by simp [eb_length]), List.take_of_length_le (by simp [eb_length])]

theorem back_shift (v n : Int) (hv : 0 ≤ v ∧ v ≤ 18446744073709551615) (h1 : 1 ≤ n) (h8 : n < 8) :
    ((v.toNat % 256 ^ n.toNat : Nat) : Int) = IntKind.u64.wrap (v * 2 ^ (64 - 8 * n).toNat) / 2 ^ (64 - 8 * n).toNat := by
  obtain ⟨V, rfl⟩ := Int.eq_ofNat_of_zero_le hv.1
  obtain ⟨N, rfl⟩ := Int.eq_ofNat_of_zero_le (show 0 ≤ n by omega)
  have ek : ((64 : Int) - 8 * (N : Int)).toNat = 64 - 8 * N := by omega
  rw [ek, Int.toNat_natCast, Int.toNat_natCast, IntKind.wrap_u64]
  have e64 : (18446744073709551616 : Nat) = 2 ^ (8 * N) * 2 ^ (64 - 8 * N) := by rw [← Nat.pow_add, show 8 * N + (64 - 8 * N) = 64 by omega]
  have h : V % 256 ^ N = V * 2 ^ (64 - 8 * N) % 18446744073709551616 / 2 ^ (64 - 8 * N) := by
    rw [e64, Nat.mul_mod_mul_right, Nat.mul_div_cancel _ (Nat.pow_pos (by decide)), pow_256]
  rw [h, Int.natCast_ediv, Int.natCast_emod, Int.natCast_mul, Int.natCast_pow]
  rfl

set_option maxRecDepth 100000 in
set_option maxHeartbeats 400000 in
theorem OctetBack_walk (v n : Int) (a b : ByteArray) (hv : 0 ≤ v ∧ v ≤ 18446744073709551615) (_ : -9223372036854775808 ≤ n ∧ n ≤ 9223372036854775807) (hsa : a.size ≤ 9223372036854775807) (hsb : b.size ≤ 9223372036854775807) (w : World) :
    Calls Try.prog 4 #[.int .u64 v, .int .i64 n, .string a, .string b] w fun e w' => e = .returned (.bool true) ∧ Below w.heap.size w w' := by
  have C0 := Lib.hid works1_calls
  by_cases ha : (300 : Int) < (a.size : Int)
  · clear hv
    go_enter Try.func4, Try.ntmps4
    go_wp2_with fail
    refine (C0.out _).mono ?_
    rintro e w1 ⟨rfl, hb1⟩
    go_wp2_with fail
    go_ret
    exact ⟨rfl, hb1⟩
  have da : decide ((300 : Int) < (a.size : Int)) = false := by simpa using ha
  by_cases hb : (300 : Int) < (b.size : Int)
  · clear hv
    go_enter Try.func4, Try.ntmps4
    go_wp2_with fail
    refine (C0.out _).mono ?_
    rintro e w1 ⟨rfl, hb1⟩
    go_wp2_with fail
    go_ret
    exact ⟨rfl, hb1⟩
  have db : decide ((300 : Int) < (b.size : Int)) = false := by simpa using hb
  by_cases hn1 : n < 1
  · clear hv
    have dn : decide (n < 1) = true := by simpa using hn1
    go_enter Try.func4, Try.ntmps4
    go_wp2_with fail
    refine (C0.out _).mono ?_
    rintro e w1 ⟨rfl, hb1⟩
    go_wp2_with fail
    go_ret
    exact ⟨rfl, hb1⟩
  have dn : decide (n < 1) = false := by simpa using hn1
  by_cases hn8 : 8 < n
  · clear hv
    have dn8 : decide (8 < n) = true := by simpa using hn8
    go_enter Try.func4, Try.ntmps4
    go_wp2_with fail
    refine (C0.out _).mono ?_
    rintro e w1 ⟨rfl, hb1⟩
    go_wp2_with fail
    go_ret
    exact ⟨rfl, hb1⟩
  have dn8 : decide (8 < n) = false := by simpa using hn8
  have hg := back_get v n a b (by omega) (by omega)
  have C1 := Lib.hid (Put_calls v n hv.1)
  have hps := putS_le v n
  have C2 := Lib.hid (Get_calls (a ++ putS v n ++ b) (a.size : Int) n (by rw [ByteArray.size_append, ByteArray.size_append]; omega))
  have hsz := putS_size v n
  rw [if_pos ⟨by omega, by omega⟩] at hsz
  rw [hg.1, hg.2] at C2
  have q1 : (((putS v n).size : Int) == n) = true := by simpa using hsz
  clear hg hsz
  obtain ⟨V, hV⟩ : ∃ V : Int, V = ((v.toNat % 256 ^ n.toNat : Nat) : Int) := ⟨_, rfl⟩
  rw [← hV] at C2
  by_cases h8 : n = 8
  · subst h8
    have q2 : (V == v) = true := by
      rw [beq_iff_eq, hV]
      have := hv.1; have := hv.2
      rw [show (8 : Int).toNat = 8 from rfl]; omega
    clear hv hV
    go_enter Try.func4, Try.ntmps4
    go_wp2_with fail
    refine (C0.out _).mono ?_
    rintro e w1 ⟨rfl, hb1⟩
    go_wp2_with fail
    refine (C1.out _).mono ?_
    rintro e w2 ⟨rfl, hb2⟩
    go_wp2_with fail
    refine (C2.out _).mono ?_
    rintro e w3 ⟨rfl, hb3⟩
    go_wp2_with fail
    go_ret
    exact ⟨rfl, bb (bb hb1 hb2) hb3⟩
  · have q2 : (n == 8) = false := by simpa using h8
    have q3 : decide (n < 8) = true := by simp; omega
    have q4 : (V == IntKind.u64.wrap (v * 2 ^ (64 - 8 * n).toNat) / 2 ^ (64 - 8 * n).toNat) = true := by
      rw [beq_iff_eq, hV]; exact back_shift v n hv (by omega) (by omega)
    clear hv hV
    go_enter Try.func4, Try.ntmps4
    go_wp2_with fail
    refine (C0.out _).mono ?_
    rintro e w1 ⟨rfl, hb1⟩
    go_wp2_with fail
    refine (C1.out _).mono ?_
    rintro e w2 ⟨rfl, hb2⟩
    go_wp2_with fail
    refine (C2.out _).mono ?_
    rintro e w3 ⟨rfl, hb3⟩
    go_wp2_with fail
    go_ret
    exact ⟨rfl, bb (bb hb1 hb2) hb3⟩
end Go.Proofs.Ytieojkcnebphjaa
