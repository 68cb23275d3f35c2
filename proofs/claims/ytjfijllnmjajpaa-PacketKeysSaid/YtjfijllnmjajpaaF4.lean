/- ip4.Parse's function values: what each answers. -/
import Derived.WalkKit
import Derived.Lib.Hide
import Derived.Laws.IdiomStrings
import Derived.Test.YtjfijllnmjajpaaQr
import Derived.Test.YtjfijllnmjajpaaGt
import Derived.Test.YtjfijllnmjajpaaS4
namespace Go.Proofs.Ytjfijllnmjajpaa
open Go.RowKit Go.BigFrame

set_option maxHeartbeats 1000000 in
set_option maxRecDepth 100000 in
theorem field_calls (s : ByteArray) (p m : Int) (b : Nat) (hs : s.size ≤ 9223372036854775807) (hv : getV s p m ≤ 9223372036854775807) (w : World) (hc : w.cell? ⟨b, 0, none⟩ = some (.string s)) :
    Calls Try.prog 65 #[.int .i64 p, .int .i64 m, .pointer (some ⟨b, 0, none⟩)] w fun e w' => e = .returned (.int .i64 (getV s p m)) ∧ Below w.heap.size w w' := by
  have C := Lib.hid (Get_calls s p m hs w)
  have hb := getV_bd s p m
  have hw : IntKind.i64.wrap (getV s p m) = getV s p m := IntWalk.i64_in _ (by omega)
  generalize getV s p m = V at *
  go_enter Try.func65, Try.ntmps65
  go_wp2_with (go_at_call 33; with_reducible refine (C.out).mono ?_)
  rintro e w1 ⟨rfl, hb1⟩
  go_wp2
  go_ret
  exact ⟨rfl, hb1⟩

set_option maxHeartbeats 1000000 in
set_option maxRecDepth 100000 in
theorem look2_calls (s : ByteArray) (b : Nat) (w : World) (hc : w.cell? ⟨b, 0, none⟩ = some (.string s)) :
    Calls Try.prog 67 #[.pointer (some ⟨b, 0, none⟩)] w fun e w' => e = .returned (.bool (decide (s.size < 20))) ∧ w = w' := by
  have hd : decide ((s.size : Int) < 20) = decide (s.size < 20) := by simp; omega
  go_enter Try.func67, Try.ntmps67
  go_wp2
  go_ret
  exact ⟨by first | rfl | rw [← hd]; rfl, rfl⟩

set_option maxHeartbeats 1000000 in
set_option maxRecDepth 100000 in
theorem look3_calls (s : ByteArray) (b f : Nat) (hs : s.size ≤ 9223372036854775807) (w : World) (hc : w.cell? ⟨b, 0, none⟩ = some (.string s)) (hf : w.cell? ⟨f, 0, none⟩ = some (.func (.func 65) #[] #[.pointer (some ⟨b, 0, none⟩)])) :
    Calls Try.prog 68 #[.pointer (some ⟨f, 0, none⟩)] w fun e w' => e = .returned (.bool (getV s 0 1 / 16 != 4)) ∧ Below w.heap.size w w' := by
  have hb := getV1_bd s 0
  have C := Lib.hid (field_calls s 0 1 b hs (by omega) w hc)
  generalize getV s 0 1 = V at *
  go_enter Try.func68, Try.ntmps68
  go_wp2_with (go_at_call 65; with_reducible refine (C.out).mono ?_)
  rintro e w1 ⟨rfl, hb1⟩
  go_wp2
  go_ret
  exact ⟨rfl, hb1⟩
theorem wraps_i64 (n : Int) (h₀ : 0 ≤ n) (h₁ : n < 2 ^ 63) : IntKind.i64.wrap n = n := by rw [IntKind.wrap_i64]; omega
theorem i64_and15 (x : Int) (h0 : 0 ≤ x) (h1 : x < 65536) : bits .and .i64 x 15 = x % 16 := bits_mask .i64 63 (by decide) wraps_i64 4 (by decide) x h0 (by omega)
theorem i64_and14 (x : Int) (h0 : 0 ≤ x) (h1 : x < 65536) : bits .and .i64 x 16383 = x % 16384 := bits_mask .i64 63 (by decide) wraps_i64 14 (by decide) x h0 (by omega)

set_option maxHeartbeats 1000000 in
set_option maxRecDepth 100000 in
theorem look4_calls (s : ByteArray) (b f g : Nat) (z : Nat) (L : Int) (w : World) (hc : w.cell? ⟨b, 0, none⟩ = some (.string s)) (hf : w.cell? ⟨f, 0, none⟩ = some (.int .i64 z)) (hg : w.cell? ⟨g, 0, none⟩ = some (.int .i64 L)) :
    Calls Try.prog 69 #[.pointer (some ⟨f, 0, none⟩), .pointer (some ⟨b, 0, none⟩), .pointer (some ⟨g, 0, none⟩)] w fun e w' => e = .returned (.bool (decide (z < 20) || decide (s.size < z) || decide (L < (z : Int)) || decide ((s.size : Int) < L))) ∧ w = w' := by
  cases d1 : decide (z < 20) with
  | true =>
    have e1 : decide ((z : Int) < 20) = true := by simp at d1 ⊢; omega
    go_enter Try.func69, Try.ntmps69
    go_wp2
    go_ret
    exact ⟨rfl, rfl⟩
  | false =>
    have e1 : decide ((z : Int) < 20) = false := by simp at d1 ⊢; omega
    cases d2 : decide (s.size < z) with
    | true =>
      have e2 : decide ((s.size : Int) < (z : Int)) = true := by simp at d2 ⊢; omega
      go_enter Try.func69, Try.ntmps69
      go_wp2
      go_ret
      exact ⟨rfl, rfl⟩
    | false =>
      have e2 : decide ((s.size : Int) < (z : Int)) = false := by simp at d2 ⊢; omega
      cases d3 : decide (L < (z : Int)) with
      | true =>
        go_enter Try.func69, Try.ntmps69
        go_wp2
        go_ret
        exact ⟨rfl, rfl⟩
      | false =>
        cases d4 : decide ((s.size : Int) < L) with
        | true =>
          go_enter Try.func69, Try.ntmps69
          go_wp2
          go_ret
          exact ⟨rfl, rfl⟩
        | false =>
          go_enter Try.func69, Try.ntmps69
          go_wp2
          go_ret
          exact ⟨rfl, rfl⟩

set_option maxHeartbeats 1000000 in
set_option maxRecDepth 100000 in
theorem look5_calls (s : ByteArray) (b f : Nat) (z : Nat) (hz : z ≤ s.size) (hs : s.size ≤ 4294967296) (w : World) (hc : w.cell? ⟨b, 0, none⟩ = some (.string s)) (hf : w.cell? ⟨f, 0, none⟩ = some (.int .i64 z)) :
    Calls Try.prog 70 #[.pointer (some ⟨b, 0, none⟩), .pointer (some ⟨f, 0, none⟩)] w fun e w' => e = .returned (.bool (!goodS (s.extract 0 z).data.toList)) ∧ Below w.heap.size w w' := by
  have C := Lib.hid (Good_calls (s.extract 0 z) (by rw [ByteArray.size_extract]; omega) w)
  have hzi : (z : Int) ≤ (s.size : Int) := by omega
  generalize goodS (s.extract 0 z).data.toList = G at *
  go_enter Try.func70, Try.ntmps70
  go_wp2_with (go_at_call 71; with_reducible refine (C.out).mono ?_)
  rintro e w1 ⟨rfl, hb1⟩
  go_wp2
  go_ret
  exact ⟨rfl, hb1⟩

set_option maxHeartbeats 1000000 in
set_option maxRecDepth 100000 in
theorem look6_calls (s : ByteArray) (b f : Nat) (hs : s.size ≤ 9223372036854775807) (w : World) (hc : w.cell? ⟨b, 0, none⟩ = some (.string s)) (hf : w.cell? ⟨f, 0, none⟩ = some (.func (.func 65) #[] #[.pointer (some ⟨b, 0, none⟩)])) :
    Calls Try.prog 72 #[.pointer (some ⟨f, 0, none⟩)] w fun e w' => e = .returned (.bool (getV s 6 2 % 16384 != 0)) ∧ Below w.heap.size w w' := by
  have hb := getV2_bd s 6
  have C := Lib.hid (field_calls s 6 2 b hs (by omega) w hc)
  have ha := i64_and14 (getV s 6 2) hb.1 hb.2
  generalize getV s 6 2 = V at *
  go_enter Try.func72, Try.ntmps72
  go_wp2_with (go_at_call 65; with_reducible refine (C.out).mono ?_)
  rintro e w1 ⟨rfl, hb1⟩
  go_wp2
  go_ret
  exact ⟨rfl, hb1⟩
end Go.Proofs.Ytjfijllnmjajpaa
