/- gangplankref05.Put: what it answers. -/
import Derived.WalkKit
import Derived.Lib.Hide
import Derived.BigQuiet
import Derived.Deep.QuietTactic
import Derived.Test.YtjfijllnmjajpaaQr
import Derived.Laws.IdiomStrings
import Derived.Test.YtjfijllnmjajpaaR1
import Derived.Test.YtjfijllnmjajpaaU6
set_option linter.unusedSimpArgs false
namespace Go.Proofs.Ytjfijllnmjajpaa
open Go.RowKit Go.BigFrame

set_option maxHeartbeats 1000000 in
set_option maxRecDepth 100000 in
theorem v6_bad (a b : ByteArray) (p : Int) (r : ByteArray) (w : World) (h1 : u6Bad a b p = true) :
    Calls Try.prog 43 #[.agg #[.string a, .string b, .int .i64 p], .string r] w fun e w' => e = .returned (.tuple #[.string ⟨#[]⟩, .int .i64 1]) ∧ Below w.heap.size w w' := by
  by_cases g1 : a.size = 16
  · have e1 : ((a.size : Int) != 16) = false := by simp; omega
    by_cases g2 : b.size = 16
    · have e2 : ((b.size : Int) != 16) = false := by simp; omega
      by_cases g3 : p < 0
      · have e3 : decide (p < 0) = true := by simpa using g3
        go_enter Try.func43, Try.ntmps43
        go_wp2
        go_ret2
        exact ⟨rfl, (Below.refl _ _).alloc (Nat.le_refl _) _⟩
      · have e3 : decide (p < 0) = false := by simpa using g3
        have e4 : decide (255 < p) = true := by simpa [u6Bad, g1, g2, e3] using h1
        clear g3
        go_enter Try.func43, Try.ntmps43
        go_wp2
        go_ret2
        exact ⟨rfl, (Below.refl _ _).alloc (Nat.le_refl _) _⟩
    · have e2 : ((b.size : Int) != 16) = true := by simp; omega
      go_enter Try.func43, Try.ntmps43
      go_wp2
      go_ret2
      exact ⟨rfl, (Below.refl _ _).alloc (Nat.le_refl _) _⟩
  · have e1 : ((a.size : Int) != 16) = true := by simp; omega
    go_enter Try.func43, Try.ntmps43
    go_wp2
    go_ret2
    exact ⟨rfl, (Below.refl _ _).alloc (Nat.le_refl _) _⟩

set_option maxHeartbeats 1000000 in
set_option maxRecDepth 100000 in
theorem v6_long (a b : ByteArray) (p : Int) (r : ByteArray) (w : World) (hr : r.size ≤ 9223372036854775807) (h1 : u6Bad a b p = false) (h3 : 65535 < r.size) :
    Calls Try.prog 43 #[.agg #[.string a, .string b, .int .i64 p], .string r] w fun e w' => e = .returned (.tuple #[.string ⟨#[]⟩, .int .i64 4]) ∧ Below w.heap.size w w' := by
  have h2 : a.size = 16 ∧ b.size = 16 ∧ 0 ≤ p ∧ p ≤ 255 := by
    simp only [u6Bad, Bool.or_eq_false_iff, bne_eq_false_iff_eq, decide_eq_false_iff_not] at h1
    omega
  obtain ⟨g1, g2, g3, g4⟩ := h2
  have e1 : ((a.size : Int) != 16) = false := by simp; omega
  have e2 : ((b.size : Int) != 16) = false := by simp; omega
  have e3 : decide (p < 0) = false := by simp; omega
  have e4 : decide (255 < p) = false := by simp; omega
  have e5 : decide (65535 < (r.size : Int)) = true := by simp; omega
  clear g3 g4
  go_enter Try.func43, Try.ntmps43
  go_wp2
  go_ret2
  exact ⟨rfl, (Below.refl _ _).alloc (Nat.le_refl _) _⟩

set_option maxHeartbeats 1000000 in
set_option maxRecDepth 100000 in
theorem v6_ok (a b : ByteArray) (p : Int) (r : ByteArray) (w : World) (h1 : u6Bad a b p = false) (h3 : ¬ 65535 < r.size) :
    Calls Try.prog 43 #[.agg #[.string a, .string b, .int .i64 p], .string r] w fun e w' => e = .returned (.tuple #[.string ⟨(put6 a b p r).toArray⟩, .int .i64 0]) ∧ Below w.heap.size w w' := by
  have h2 : a.size = 16 ∧ b.size = 16 ∧ 0 ≤ p ∧ p ≤ 255 := by
    simp only [u6Bad, Bool.or_eq_false_iff, bne_eq_false_iff_eq, decide_eq_false_iff_not] at h1
    omega
  obtain ⟨g1, g2, g3, g4⟩ := h2
  have e1 : ((a.size : Int) != 16) = false := by simp; omega
  have e2 : ((b.size : Int) != 16) = false := by simp; omega
  have e3 : decide (p < 0) = false := by simp; omega
  have e4 : decide (255 < p) = false := by simp; omega
  have e5 : decide (65535 < (r.size : Int)) = false := by simp; omega
  have hr : r.size ≤ 65535 := by omega
  clear h3
  have C1 := fun w => Lib.hid (refPut_calls (r.size : Int) 2 (by omega) (by omega) w)
  have C2 := fun w => Lib.hid (refPut_calls p 1 (by omega) (by omega) w)
  have hw1 : IntKind.u64.wrap (r.size : Int) = (r.size : Int) := by rw [IntKind.wrap_u64]; omega
  have hw2 : IntKind.u64.wrap p = p := by rw [IntKind.wrap_u64]; omega
  obtain ⟨W, hW⟩ : ∃ W : World, W = w.alloc (.cells #[.string a, .string b, .int .i64 p] 84) := ⟨_, rfl⟩
  have hbx : W.heap[w.heap.size]? = some (.cells #[.string a, .string b, .int .i64 p] 84 (0, 0)) := by rw [hW]; exact heap_alloc_new w _
  have hlt : w.heap.size < W.heap.size := by rw [hW, World.size_alloc]; omega
  have q : ∀ x : Later W, x.world.heap[w.heap.size]? = some (.cells #[.string a, .string b, .int .i64 p] 84 (0, 0)) := fun x => (x.below.block _ hlt).trans hbx
  have q0 : ∀ x : Later W, x.world.cell? ⟨w.heap.size, 0, none⟩ = some (.string a) := fun x => by simp [World.cell?, q x]
  have q1 : ∀ x : Later W, x.world.cell? ⟨w.heap.size, 1, none⟩ = some (.string b) := fun x => by simp [World.cell?, q x]
  have q2 : ∀ x : Later W, x.world.cell? ⟨w.heap.size, 2, none⟩ = some (.int .i64 p) := fun x => by simp [World.cell?, q x]
  have hbW : Below w.heap.size w W := by rw [hW]; exact (Below.refl _ _).alloc (Nat.le_refl _) _
  have HW := Lib.hid hW
  clear q hbx hW
  have s1 : (putS (r.size : Int) 2).size = 2 := by have := putS_size (r.size : Int) 2; simp at this; omega
  have s2 : (putS p 1).size = 1 := by have := putS_size p 1; simp at this; omega
  have hput : ⟨(put6 a b p r).toArray⟩ = (⟨#[96, 0, 0, 0]⟩ : ByteArray) ++ putS (r.size : Int) 2 ++ putS p 1 ++ ⟨#[64]⟩ ++ a ++ b ++ r := by
    apply ByteArray.ext
    simp [put6, ByteArray.data_append]
  rw [hput]
  have HP := Lib.hid hput
  clear hput
  generalize putS (r.size : Int) 2 = S1 at *
  generalize putS p 1 = S2 at *
  have z1 : (⟨#[96, 0, 0, 0]⟩ : ByteArray).size = 4 := rfl
  have z2 : (⟨#[64]⟩ : ByteArray).size = 1 := rfl
  have n1 : ¬ (9223372036854775807 < 40 + r.size) := by omega
  go_enter Try.func43, Try.ntmps43
  go_wp2_with fail
  rw [← HW.out]
  refine wp_region_later (by kernel_rfl) (by kernel_rfl) ?_
  repeat (go_big_quiet_step ((go_at_call 37; first | with_reducible exact calls_later (C1 _).out | with_reducible exact calls_later (C2 _).out)))
  refine wpQuiet_nil ?_
  rintro _ ⟨x, rfl⟩
  go_wp2_with fail
  go_ret2
  exact ⟨rfl, hbW.trans (x.below.mono hbW.size)⟩

theorem ref6Put_calls (a b : ByteArray) (p : Int) (r : ByteArray) (hr : r.size ≤ 9223372036854775807) (w : World) :
    Calls Try.prog 43 #[.agg #[.string a, .string b, .int .i64 p], .string r] w fun e w' => e = .returned (.tuple #[.string (u6S a b p r), .int .i64 (u6E a b p r)]) ∧ Below w.heap.size w w' := by
  cases h1 : u6Bad a b p with
  | true => simpa [u6S, u6E, h1] using v6_bad a b p r w h1
  | false =>
    by_cases h3 : 65535 < r.size
    · simpa [u6S, u6E, h1, h3] using v6_long a b p r w hr h1 h3
    · simpa [u6S, u6E, h1, h3] using v6_ok a b p r w h1 h3
end Go.Proofs.Ytjfijllnmjajpaa
