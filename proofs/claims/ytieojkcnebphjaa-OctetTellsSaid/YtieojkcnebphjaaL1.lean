/- The laws of chapter 1 (octet), walked: each returns true, whatever it is given; nothing that lay before is changed. -/
import Derived.WalkKit
import Derived.WalkSpells
import Derived.WalkLawsBesides
import Derived.Lib.Hide
import Derived.BigQuiet
import Derived.Deep.QuietTactic
import Derived.Outline
import Derived.Test.YtieojkcnebphjaaPt
import Derived.Test.YtieojkcnebphjaaR1
namespace Go.Proofs.Ytieojkcnebphjaa
open Go.RowKit

theorem bb {w w1 w2 : World} (h : Below w.heap.size w w1) (k : Below w1.heap.size w1 w2) : Below w.heap.size w w2 := h.trans (k.mono h.size)

set_option maxRecDepth 100000 in
set_option maxHeartbeats 400000 in
theorem works1_calls (w : World) : Calls Try.prog 14 #[] w fun e w' => e = .returned (.bool true) ∧ Below w.heap.size w w' := by
  have c1 := Get_calls ⟨#[1, 2, 3]⟩ 1 2 (by decide)
  have c2 := Get_calls ⟨#[1]⟩ 1 1 (by decide)
  have c3 := Put_calls 515 2 (by decide)
  have c4 := Put_calls 1 0 (by decide)
  rw [show getV ⟨#[1, 2, 3]⟩ 1 2 = 515 from by decide, show getB ⟨#[1, 2, 3]⟩ 1 2 = true from by decide] at c1
  rw [show getV ⟨#[1]⟩ 1 1 = 0 from by decide, show getB ⟨#[1]⟩ 1 1 = false from by decide] at c2
  rw [show putS 515 2 = ⟨#[2, 3]⟩ from by decide] at c3
  rw [show putS 1 0 = ⟨#[]⟩ from by decide] at c4
  have C1 := Lib.hid c1; have C2 := Lib.hid c2; have C3 := Lib.hid c3; have C4 := Lib.hid c4
  clear c1 c2 c3 c4
  go_enter Try.func14, Try.ntmps14
  go_wp2_with fail
  refine (C1.out _).mono ?_
  rintro e w1 ⟨rfl, hb1⟩
  go_wp2_with fail
  refine (C2.out _).mono ?_
  rintro e w2 ⟨rfl, hb2⟩
  go_wp2_with fail
  refine (C3.out _).mono ?_
  rintro e w3 ⟨rfl, hb3⟩
  go_wp2_with fail
  refine (C4.out _).mono ?_
  rintro e w4 ⟨rfl, hb4⟩
  go_wp2_with fail
  go_ret
  exact ⟨rfl, bb (bb (bb hb1 hb2) hb3) hb4⟩

set_option maxRecDepth 100000 in
set_option maxHeartbeats 400000 in
theorem OctetTells_walk (s : ByteArray) (p n v : Int) (hs : s.size ≤ 9223372036854775807) (_ : -9223372036854775808 ≤ p ∧ p ≤ 9223372036854775807) (_ : -9223372036854775808 ≤ n ∧ n ≤ 9223372036854775807) (hv : 0 ≤ v ∧ v ≤ 18446744073709551615) (w : World) :
    Calls Try.prog 3 #[.string s, .int .i64 p, .int .i64 n, .int .u64 v] w fun e w' => e = .returned (.bool true) ∧ Below w.heap.size w w' := by
  have C0 := Lib.hid works1_calls
  have C1 := Lib.hid (Get_calls s p n (by omega))
  have C2 := Lib.hid (refGet_calls s p n (by omega))
  have C3 := Lib.hid (Put_calls v n hv.1)
  have C4 := Lib.hid (refPut_calls v n hv.1 (by omega))
  clear hv
  by_cases hlen : (300 : Int) < (s.size : Int)
  · go_enter Try.func3, Try.ntmps3
    go_wp2_with fail
    refine (C0.out _).mono ?_
    rintro e w1 ⟨rfl, hb1⟩
    go_wp2_with fail
    go_ret
    exact ⟨rfl, hb1⟩
  · go_enter Try.func3, Try.ntmps3
    go_wp2_with fail
    refine (C0.out _).mono ?_
    rintro e w1 ⟨rfl, hb1⟩
    go_wp2_with fail
    refine (C1.out _).mono ?_
    rintro e w2 ⟨rfl, hb2⟩
    go_wp2_with fail
    refine (C2.out _).mono ?_
    rintro e w3 ⟨rfl, rfl⟩
    go_wp2_with fail
    refine (C3.out _).mono ?_
    rintro e w4 ⟨rfl, hb4⟩
    go_wp2_with fail
    refine (C4.out _).mono ?_
    rintro e w5 ⟨rfl, hb5⟩
    go_wp2_with fail
    go_ret
    exact ⟨rfl, bb (bb (bb hb1 hb2) hb4) hb5⟩
end Go.Proofs.Ytieojkcnebphjaa
