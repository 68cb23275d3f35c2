/- More laws of chapter 1 (octet), walked. -/
import Derived.WalkKit
import Derived.WalkSpells
import Derived.WalkLawsBesides
import Derived.Lib.Hide
import Derived.BigQuiet
import Derived.Deep.QuietTactic
import Derived.Deep.RegionWith
import Derived.Outline
import Derived.Test.YtieojkcnebphjaaL1
import Derived.Test.YtieojkcnebphjaaQr
import Derived.Lib.Strings
namespace Go.Proofs.Ytieojkcnebphjaa
open Go.RowKit Go.BigFrame

theorem only_put {s : ByteArray} {p n : Int} (h : getB s p n = true) : putS (getV s p n) n = s.extract p.toNat (p + n).toNat := by
  obtain ⟨h1, h8, h0, hl⟩ := (getB_iff s p n).1 h
  rw [putS_yes ⟨h1, h8⟩, getV_yes h, Int.toNat_natCast]
  have hlen : ((s.data.toList.drop p.toNat).take n.toNat).length = n.toNat := by
    have : s.data.toList.length = s.size := by simp
    rw [List.length_take, List.length_drop, this]; omega
  have e : eb n.toNat (be ((s.data.toList.drop p.toNat).take n.toNat)) = (s.data.toList.drop p.toNat).take n.toNat := by
    have := eb_be ((s.data.toList.drop p.toNat).take n.toNat)
    rwa [hlen] at this
  rw [e]
  apply ByteArray.ext
  have e2 : (p + n).toNat - p.toNat = n.toNat := by omega
  have e3 := Lib.extract_data s p.toNat (p + n).toNat
  rw [e2] at e3
  rw [← e3]

set_option maxRecDepth 100000 in
set_option maxHeartbeats 400000 in
theorem OctetOnly_walk (s : ByteArray) (p n : Int) (hs : s.size ≤ 9223372036854775807) (_ : -9223372036854775808 ≤ p ∧ p ≤ 9223372036854775807) (_ : -9223372036854775808 ≤ n ∧ n ≤ 9223372036854775807) (w : World) :
    Calls Try.prog 5 #[.string s, .int .i64 p, .int .i64 n] w fun e w' => e = .returned (.bool true) ∧ Below w.heap.size w w' := by
  have C0 := Lib.hid works1_calls
  by_cases hlen : (300 : Int) < (s.size : Int)
  · go_enter Try.func5, Try.ntmps5
    go_wp2_with fail
    refine (C0.out _).mono ?_
    rintro e w1 ⟨rfl, hb1⟩
    go_wp2_with fail
    go_ret
    exact ⟨rfl, hb1⟩
  have c1 := Get_calls s p n (by omega)
  cases hg : getB s p n with
  | false =>
    rw [hg, getV_no hg] at c1
    have C1 := Lib.hid c1
    clear c1 hg
    go_enter Try.func5, Try.ntmps5
    go_wp2_with fail
    refine (C0.out _).mono ?_
    rintro e w1 ⟨rfl, hb1⟩
    go_wp2_with fail
    refine (C1.out _).mono ?_
    rintro e w2 ⟨rfl, hb2⟩
    go_wp2_with fail
    go_ret
    exact ⟨rfl, bb hb1 hb2⟩
  | true =>
    obtain ⟨h1, h8, h0, hl⟩ := (getB_iff s p n).1 hg
    have hp := only_put hg
    have hbd := getV_bd s p n
    rw [hg] at c1
    have C1 := Lib.hid c1
    have C2 := Lib.hid (Put_calls (getV s p n) n hbd.1)
    have d1 : decide (n < 1) = false := by simpa using h1
    have d2 : decide (8 < n) = false := by simpa using h8
    have d3 : decide (p < 0) = false := by simpa using h0
    have d4 : decide ((s.size : Int) - n < p) = false := by simpa using hl
    rw [hp] at C2
    clear c1 hg hp hbd
    go_enter Try.func5, Try.ntmps5
    go_wp2_with fail
    refine (C0.out _).mono ?_
    rintro e w1 ⟨rfl, hb1⟩
    go_wp2_with fail
    refine (C1.out _).mono ?_
    rintro e w2 ⟨rfl, hb2⟩
    go_wp2_with fail
    refine wp_region_later (by kernel_rfl) (by kernel_rfl) ?_
    repeat (go_big_quiet_step ((go_at_call 17; exact calls_later (C2.out _))))
    refine wpQuiet_nil ?_
    rintro _ ⟨⟨w3, hb3⟩, rfl⟩
    go_wp2_with fail
    go_ret
    exact ⟨rfl, bb (bb hb1 hb2) hb3⟩

theorem parts_put (v n m : Int) (hv : 0 ≤ v) (hn : 1 ≤ n) (hm : 1 ≤ m) (h : n + m ≤ 8) :
    putS v (n + m) = putS (v / 2 ^ (8 * m).toNat) n ++ putS v m := by
  obtain ⟨V, rfl⟩ := Int.eq_ofNat_of_zero_le hv
  obtain ⟨N, rfl⟩ := Int.eq_ofNat_of_zero_le (show 0 ≤ n by omega)
  obtain ⟨M, rfl⟩ := Int.eq_ofNat_of_zero_le (show 0 ≤ m by omega)
  have e8 : ((8 : Int) * (M : Int)).toNat = 8 * M := by omega
  have ed : (((V : Int) / 2 ^ (8 * M)).toNat) = V / 256 ^ M := by
    rw [pow_256, show (V : Int) / 2 ^ (8 * M) = ((V / 2 ^ (8 * M) : Nat) : Int) by rw [Int.natCast_ediv, Int.natCast_pow]; rfl, Int.toNat_natCast]
  have es : ((N : Int) + (M : Int)).toNat = N + M := by omega
  rw [putS_yes ⟨by omega, h⟩, putS_yes ⟨hn, by omega⟩, putS_yes ⟨hm, by omega⟩, ba_append, e8, ed, es, Int.toNat_natCast, Int.toNat_natCast, Int.toNat_natCast, eb_add]
  simp

set_option maxRecDepth 100000 in
set_option maxHeartbeats 400000 in
theorem OctetParts_walk (v n m : Int) (hv : 0 ≤ v ∧ v ≤ 18446744073709551615) (hn : -9223372036854775808 ≤ n ∧ n ≤ 9223372036854775807) (hm : -9223372036854775808 ≤ m ∧ m ≤ 9223372036854775807) (w : World) :
    Calls Try.prog 6 #[.int .u64 v, .int .i64 n, .int .i64 m] w fun e w' => e = .returned (.bool true) ∧ Below w.heap.size w w' := by
  have C0 := Lib.hid works1_calls
  have stop : ∀ (d1 d2 d3 d4 : Bool), decide (n < 1) = d1 → (d1 = false → decide (m < 1) = d2) → (d1 = false → d2 = false → decide (8 < n) = d3) → (d1 = false → d2 = false → d3 = false → decide (8 - n < m) = d4) → (d1 || d2 || d3 || d4) = true →
      Calls Try.prog 6 #[.int .u64 v, .int .i64 n, .int .i64 m] w fun e w' => e = .returned (.bool true) ∧ Below w.heap.size w w' := by
    intro d1 d2 d3 d4 e1 e2 e3 e4 he
    clear hv
    cases d1
    · cases d2
      · cases d3
        · cases d4
          · cases he
          · replace e2 := e2 rfl; replace e3 := e3 rfl rfl; replace e4 := e4 rfl rfl rfl
            clear he
            have h8 : n ≤ 8 := by simpa using e3
            have h1 : 1 ≤ n := by simpa using e1
            go_enter Try.func6, Try.ntmps6
            go_wp2_with fail
            refine (C0.out _).mono ?_
            rintro e w1 ⟨rfl, hb1⟩
            go_wp2_with fail
            go_ret
            exact ⟨rfl, hb1⟩
        · replace e2 := e2 rfl; replace e3 := e3 rfl rfl
          clear he e4
          go_enter Try.func6, Try.ntmps6
          go_wp2_with fail
          refine (C0.out _).mono ?_
          rintro e w1 ⟨rfl, hb1⟩
          go_wp2_with fail
          go_ret
          exact ⟨rfl, hb1⟩
      · replace e2 := e2 rfl
        clear he e3 e4
        go_enter Try.func6, Try.ntmps6
        go_wp2_with fail
        refine (C0.out _).mono ?_
        rintro e w1 ⟨rfl, hb1⟩
        go_wp2_with fail
        go_ret
        exact ⟨rfl, hb1⟩
    · clear he e2 e3 e4
      go_enter Try.func6, Try.ntmps6
      go_wp2_with fail
      refine (C0.out _).mono ?_
      rintro e w1 ⟨rfl, hb1⟩
      go_wp2_with fail
      go_ret
      exact ⟨rfl, hb1⟩
  by_cases hall : (decide (n < 1) || decide (m < 1) || decide (8 < n) || decide (8 - n < m)) = true
  · exact stop _ _ _ _ rfl (fun _ => rfl) (fun _ _ => rfl) (fun _ _ _ => rfl) hall
  clear stop
  have hb : ¬ n < 1 ∧ ¬ m < 1 ∧ ¬ 8 < n ∧ ¬ 8 - n < m := by simpa [and_assoc] using hall
  clear hall
  obtain ⟨k1, k2, k3, k4⟩ := hb
  have d1 : decide (n < 1) = false := by simpa using k1
  have d2 : decide (m < 1) = false := by simpa using k2
  have d3 : decide (8 < n) = false := by simpa using k3
  have d4 : decide (8 - n < m) = false := by simpa using k4
  have c1 := Put_calls v (n + m) hv.1
  rw [parts_put v n m hv.1 (by omega) (by omega) (by omega)] at c1
  have C1 := Lib.hid c1
  have C2 := Lib.hid (Put_calls (v / 2 ^ (8 * m).toNat) n (Int.ediv_nonneg hv.1 (Int.le_of_lt (Int.pow_pos (by decide)))))
  have C3 := Lib.hid (Put_calls v m hv.1)
  have hs1 := putS_le (v / 2 ^ (8 * m).toNat) n
  have hs2 := putS_le v m
  clear c1 hv
  go_enter Try.func6, Try.ntmps6
  go_wp2_with fail
  refine (C0.out _).mono ?_
  rintro e w1 ⟨rfl, hb1⟩
  go_wp2_with fail
  refine wp_region_later (by kernel_rfl) (by kernel_rfl) ?_
  repeat (go_big_quiet_step ((go_at_call 17; first | with_reducible exact calls_later (C1.out _) | with_reducible exact calls_later (C2.out _) | with_reducible exact calls_later (C3.out _))))
  refine wpQuiet_nil ?_
  rintro _ ⟨⟨w3, hb3⟩, rfl⟩
  go_wp2_with fail
  go_ret
  exact ⟨rfl, bb hb1 hb3⟩
end Go.Proofs.Ytieojkcnebphjaa
