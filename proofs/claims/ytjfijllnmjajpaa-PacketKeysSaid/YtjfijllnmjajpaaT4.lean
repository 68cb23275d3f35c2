/- gangplankref04.Put: what it answers. -/
import Derived.WalkKit
import Derived.Lib.Hide
import Derived.Laws.IdiomStrings
import Derived.BigQuiet
import Derived.Deep.QuietTactic
import Derived.Test.YtjfijllnmjajpaaQr
import Derived.Test.YtjfijllnmjajpaaR1
import Derived.Test.YtjfijllnmjajpaaR3
import Derived.Test.YtjfijllnmjajpaaU4
set_option linter.unusedSimpArgs false
set_option linter.unusedVariables false
namespace Go.Proofs.Ytjfijllnmjajpaa
open Go.RowKit Go.BigFrame

set_option maxHeartbeats 1000000 in
set_option maxRecDepth 100000 in
theorem v4_bad (a b : ByteArray) (p : Int) (r : ByteArray) (w : World) (h1 : u4Bad a b p = true) :
    Calls Try.prog 42 #[.agg #[.string a, .string b, .int .i64 p], .string r] w fun e w' => e = .returned (.tuple #[.string ⟨#[]⟩, .int .i64 1]) ∧ Below w.heap.size w w' := by
  by_cases g1 : a.size = 4
  · have e1 : ((a.size : Int) != 4) = false := by simp; omega
    by_cases g2 : b.size = 4
    · have e2 : ((b.size : Int) != 4) = false := by simp; omega
      by_cases g3 : p < 0
      · have e3 : decide (p < 0) = true := by simpa using g3
        go_enter Try.func42, Try.ntmps42
        go_wp2
        go_ret2
        exact ⟨rfl, (Below.refl _ _).alloc (Nat.le_refl _) _⟩
      · have e3 : decide (p < 0) = false := by simpa using g3
        have e4 : decide (255 < p) = true := by simpa [u4Bad, g1, g2, e3] using h1
        clear g3
        go_enter Try.func42, Try.ntmps42
        go_wp2
        go_ret2
        exact ⟨rfl, (Below.refl _ _).alloc (Nat.le_refl _) _⟩
    · have e2 : ((b.size : Int) != 4) = true := by simp; omega
      go_enter Try.func42, Try.ntmps42
      go_wp2
      go_ret2
      exact ⟨rfl, (Below.refl _ _).alloc (Nat.le_refl _) _⟩
  · have e1 : ((a.size : Int) != 4) = true := by simp; omega
    go_enter Try.func42, Try.ntmps42
    go_wp2
    go_ret2
    exact ⟨rfl, (Below.refl _ _).alloc (Nat.le_refl _) _⟩

set_option maxHeartbeats 1000000 in
set_option maxRecDepth 100000 in
theorem v4_long (a b : ByteArray) (p : Int) (r : ByteArray) (w : World) (hr : r.size ≤ 9223372036854775807) (h1 : u4Bad a b p = false) (h3 : 65515 < r.size) :
    Calls Try.prog 42 #[.agg #[.string a, .string b, .int .i64 p], .string r] w fun e w' => e = .returned (.tuple #[.string ⟨#[]⟩, .int .i64 4]) ∧ Below w.heap.size w w' := by
  have h2 : a.size = 4 ∧ b.size = 4 ∧ 0 ≤ p ∧ p ≤ 255 := by
    simp only [u4Bad, Bool.or_eq_false_iff, bne_eq_false_iff_eq, decide_eq_false_iff_not] at h1
    omega
  obtain ⟨g1, g2, g3, g4⟩ := h2
  have e1 : ((a.size : Int) != 4) = false := by simp; omega
  have e2 : ((b.size : Int) != 4) = false := by simp; omega
  have e3 : decide (p < 0) = false := by simp; omega
  have e4 : decide (255 < p) = false := by simp; omega
  have e5 : decide (65515 < (r.size : Int)) = true := by simp; omega
  clear g3 g4
  go_enter Try.func42, Try.ntmps42
  go_wp2
  go_ret2
  exact ⟨rfl, (Below.refl _ _).alloc (Nat.le_refl _) _⟩

set_option maxHeartbeats 1000000 in
set_option maxRecDepth 100000 in
theorem v4_ok (a b : ByteArray) (p : Int) (r : ByteArray) (w : World) (h1 : u4Bad a b p = false) (h3 : ¬ 65515 < r.size) :
    Calls Try.prog 42 #[.agg #[.string a, .string b, .int .i64 p], .string r] w fun e w' => e = .returned (.tuple #[.string (hd4 a b p r (own4 a b p r) ++ r), .int .i64 0]) ∧ Below w.heap.size w w' := by
  have h2 : a.size = 4 ∧ b.size = 4 ∧ 0 ≤ p ∧ p ≤ 255 := by
    simp only [u4Bad, Bool.or_eq_false_iff, bne_eq_false_iff_eq, decide_eq_false_iff_not] at h1
    omega
  obtain ⟨g1, g2, g3, g4⟩ := h2
  have e1 : ((a.size : Int) != 4) = false := by simp; omega
  have e2 : ((b.size : Int) != 4) = false := by simp; omega
  have e3 : decide (p < 0) = false := by simp; omega
  have e4 : decide (255 < p) = false := by simp; omega
  have e5 : decide (65515 < (r.size : Int)) = false := by simp; omega
  have hr : r.size ≤ 65515 := by omega
  clear h3
  have hob := own4_bd a b p r
  have C1 := fun w => Lib.hid (refPut_calls (20 + (r.size : Int)) 2 (by omega) (by omega) w)
  have C2 := fun w => Lib.hid (refPut_calls p 1 (by omega) (by omega) w)
  have hw0 : IntKind.i64.wrap (20 + (r.size : Int)) = 20 + (r.size : Int) := IntWalk.i64_in _ (by omega)
  have hw1 : IntKind.u64.wrap (20 + (r.size : Int)) = 20 + (r.size : Int) := by rw [IntKind.wrap_u64]; omega
  have hw2 : IntKind.u64.wrap p = p := by rw [IntKind.wrap_u64]; omega
  have hw3 : IntKind.u64.wrap (own4 a b p r) = own4 a b p r := by rw [IntKind.wrap_u64]; omega
  have C4 := fun w => Lib.hid (refPut_calls (own4 a b p r) 2 (by omega) (by omega) w)
  obtain ⟨W, hW⟩ : ∃ W : World, W = w.alloc (.cells #[.string a, .string b, .int .i64 p] 82) := ⟨_, rfl⟩
  have hbx : W.heap[w.heap.size]? = some (.cells #[.string a, .string b, .int .i64 p] 82 (0, 0)) := by rw [hW]; exact heap_alloc_new w _
  have hlt : w.heap.size < W.heap.size := by rw [hW, World.size_alloc]; omega
  have q : ∀ x : Later W, x.world.heap[w.heap.size]? = some (.cells #[.string a, .string b, .int .i64 p] 82 (0, 0)) := fun x => (x.below.block _ hlt).trans hbx
  have q0 : ∀ x : Later W, x.world.cell? ⟨w.heap.size, 0, none⟩ = some (.string a) := fun x => by simp [World.cell?, q x]
  have q1 : ∀ x : Later W, x.world.cell? ⟨w.heap.size, 1, none⟩ = some (.string b) := fun x => by simp [World.cell?, q x]
  have q2 : ∀ x : Later W, x.world.cell? ⟨w.heap.size, 2, none⟩ = some (.int .i64 p) := fun x => by simp [World.cell?, q x]
  have hbW : Below w.heap.size w W := by rw [hW]; exact (Below.refl _ _).alloc (Nat.le_refl _) _
  have HW := Lib.hid hW
  clear q hbx hW
  have s1 : (putS (20 + (r.size : Int)) 2).size = 2 := by have := putS_size (20 + (r.size : Int)) 2; simp at this; omega
  have s2 : (putS p 1).size = 1 := by have := putS_size p 1; simp at this; omega
  have s3 : (putS (own4 a b p r) 2).size = 2 := by have := putS_size (own4 a b p r) 2; simp at this; omega
  have h0 : hd4 a b p r 0 = (⟨#[69, 0]⟩ : ByteArray) ++ putS (20 + (r.size : Int)) 2 ++ ⟨#[0, 0, 64, 0, 64]⟩ ++ putS p 1 ++ ⟨#[0, 0]⟩ ++ (a ++ b) := by
    have e : putS 0 2 = ⟨#[0, 0]⟩ := rfl
    rw [hd4, e, ← ByteArray.append_assoc]
  have h1 : hd4 a b p r (own4 a b p r) ++ r = (⟨#[69, 0]⟩ : ByteArray) ++ putS (20 + (r.size : Int)) 2 ++ ⟨#[0, 0, 64, 0, 64]⟩ ++ putS p 1 ++ putS (own4 a b p r) 2 ++ (a ++ b) ++ r := by
    rw [hd4, ← ByteArray.append_assoc]
  have C3 := fun w => Lib.hid (refSum_calls (hd4 a b p r 0) (by rw [hd4_size p r 0 g1 g2]; omega) w)
  have ho : 65535 - ((foldS (hd4 a b p r 0).data.toList : Nat) : Int) = own4 a b p r := rfl
  rw [ho, h0] at C3
  rw [h1]
  have z1 : (⟨#[69, 0]⟩ : ByteArray).size = 2 := rfl
  have z2 : (⟨#[0, 0, 64, 0, 64]⟩ : ByteArray).size = 5 := rfl
  have z3 : (⟨#[0, 0]⟩ : ByteArray).size = 2 := rfl
  have n1 : ¬ (9223372036854775807 < 20 + r.size) := by omega
  clear h0 h1 ho hob g3 g4
  generalize putS (20 + (r.size : Int)) 2 = S1 at *
  generalize putS p 1 = S2 at *
  generalize own4 a b p r = O at *
  generalize putS O 2 = S3 at *
  go_enter Try.func42, Try.ntmps42
  go_wp2_with fail
  rw [← HW.out]
  refine wp_region_later (by kernel_rfl) (by kernel_rfl) ?_
  repeat (go_big_quiet_step ((go_at_call 37; first | with_reducible exact calls_later (C1 _).out | with_reducible exact calls_later (C2 _).out)))
  refine wpQuiet_nil ?_
  rintro _ ⟨x, rfl⟩
  have v0 := q0 x
  have v1 := q1 x
  have v2 := q2 x
  go_wp2_with (first | (go_at_call 63; with_reducible refine (C3 _).out.mono ?_; rintro e w1 ⟨rfl, rfl⟩) | (go_at_call 37; with_reducible refine (C4 _).out.mono ?_; rintro e w2 ⟨rfl, hb2⟩))
  go_ret2
  exact ⟨rfl, bl (hbW.trans (x.below.mono hbW.size)) hb2⟩

theorem ref4Put_calls (a b : ByteArray) (p : Int) (r : ByteArray) (hr : r.size ≤ 9223372036854775807) (w : World) :
    Calls Try.prog 42 #[.agg #[.string a, .string b, .int .i64 p], .string r] w fun e w' => e = .returned (.tuple #[.string (u4S a b p r), .int .i64 (u4E a b p r)]) ∧ Below w.heap.size w w' := by
  cases h1 : u4Bad a b p with
  | true => simpa [u4S, u4E, h1] using v4_bad a b p r w h1
  | false =>
    by_cases h3 : 65515 < r.size
    · simpa [u4S, u4E, h1, h3] using v4_long a b p r w hr h1 h3
    · simpa [u4S, u4E, h1, h3] using v4_ok a b p r w h1 h3
end Go.Proofs.Ytjfijllnmjajpaa
