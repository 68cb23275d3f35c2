/- ip4.Put: what it answers. -/
import Derived.WalkKit
import Derived.Lib.Hide
import Derived.Laws.IdiomStrings
import Derived.BigQuiet
import Derived.Deep.QuietTactic
import Derived.Test.YtjfijllnmjajpaaQr
import Derived.Test.YtjfijllnmjajpaaPt
import Derived.Test.YtjfijllnmjajpaaFd
import Derived.Test.YtjfijllnmjajpaaU4
set_option linter.unusedSimpArgs false
set_option linter.unusedVariables false
namespace Go.Proofs.Ytjfijllnmjajpaa
open Go.RowKit Go.BigFrame

set_option maxHeartbeats 1000000 in
set_option maxRecDepth 100000 in
theorem with4_calls (a b : ByteArray) (p : Int) (r : ByteArray) (o : Int) (n m : Nat) (W : World) (ha : a.size = 4) (hb : b.size = 4) (hp0 : 0 ≤ p) (hp : p ≤ 255) (hr : r.size ≤ 65515) (ho0 : 0 ≤ o) (ho : o ≤ 65535)
    (hn : W.cell? ⟨n, 0, none⟩ = some (.string r)) (hm : W.heap[m]? = some (.cells #[.string a, .string b, .int .i64 p] 80 (0, 0))) :
    Calls Try.prog 61 #[.int .i64 o, .pointer (some ⟨n, 0, none⟩), .pointer (some ⟨m, 0, none⟩)] W fun e w' => e = .returned (.string (hd4 a b p r o)) ∧ Below W.heap.size W w' := by
  have C1 := fun w => Lib.hid (Put_calls (20 + (r.size : Int)) 2 (by omega) w)
  have C2 := fun w => Lib.hid (Put_calls p 1 (by omega) w)
  have C3 := fun w => Lib.hid (Put_calls o 2 (by omega) w)
  have hw0 : IntKind.i64.wrap (20 + (r.size : Int)) = 20 + (r.size : Int) := IntWalk.i64_in _ (by omega)
  have hw1 : IntKind.u64.wrap (20 + (r.size : Int)) = 20 + (r.size : Int) := by rw [IntKind.wrap_u64]; omega
  have hw2 : IntKind.u64.wrap p = p := by rw [IntKind.wrap_u64]; omega
  have hw3 : IntKind.u64.wrap o = o := by rw [IntKind.wrap_u64]; omega
  have hlm : m < W.heap.size := (Array.getElem?_eq_some_iff.1 hm).1
  have hln : n < W.heap.size := World.block_lt_of_cell? W _ hn
  have q : ∀ x : Later W, x.world.heap[m]? = some (.cells #[.string a, .string b, .int .i64 p] 80 (0, 0)) := fun x => (x.below.block _ hlm).trans hm
  have q0 : ∀ x : Later W, x.world.cell? ⟨m, 0, none⟩ = some (.string a) := fun x => by simp [World.cell?, q x]
  have q1 : ∀ x : Later W, x.world.cell? ⟨m, 1, none⟩ = some (.string b) := fun x => by simp [World.cell?, q x]
  have q2 : ∀ x : Later W, x.world.cell? ⟨m, 2, none⟩ = some (.int .i64 p) := fun x => by simp [World.cell?, q x]
  have q3 : ∀ x : Later W, x.world.cell? ⟨n, 0, none⟩ = some (.string r) := fun x => (x.below.cell hln).trans hn
  clear q hm hn hlm hln
  have s1 : (putS (20 + (r.size : Int)) 2).size = 2 := by have := putS_size (20 + (r.size : Int)) 2; simp at this; omega
  have s2 : (putS p 1).size = 1 := by have := putS_size p 1; simp at this; omega
  have s3 : (putS o 2).size = 2 := by have := putS_size o 2; simp at this; omega
  have hput : hd4 a b p r o = (⟨#[69, 0]⟩ : ByteArray) ++ putS (20 + (r.size : Int)) 2 ++ ⟨#[0, 0, 64, 0, 64]⟩ ++ putS p 1 ++ putS o 2 ++ a ++ b := rfl
  rw [hput]
  have HP := Lib.hid hput
  clear hput
  generalize putS (20 + (r.size : Int)) 2 = S1 at *
  generalize putS p 1 = S2 at *
  generalize putS o 2 = S3 at *
  have z1 : (⟨#[69, 0]⟩ : ByteArray).size = 2 := rfl
  have z2 : (⟨#[0, 0, 64, 0, 64]⟩ : ByteArray).size = 5 := rfl
  go_enter Try.func61, Try.ntmps61
  go_wp2_with fail
  refine wp_region_later (by kernel_rfl) (by kernel_rfl) ?_
  repeat (go_big_quiet_step ((go_at_call 45; first | with_reducible exact calls_later (C1 _).out | with_reducible exact calls_later (C2 _).out | with_reducible exact calls_later (C3 _).out)))
  refine wpQuiet_nil ?_
  rintro _ ⟨x, rfl⟩
  go_wp2_with fail
  go_ret
  exact ⟨rfl, x.below⟩

set_option maxHeartbeats 1000000 in
set_option maxRecDepth 100000 in
theorem u4_bad (a b : ByteArray) (p : Int) (r : ByteArray) (w : World) (h1 : u4Bad a b p = true) :
    Calls Try.prog 41 #[.agg #[.string a, .string b, .int .i64 p], .string r] w fun e w' => e = .returned (.tuple #[.string ⟨#[]⟩, .int .i64 1]) ∧ Below w.heap.size w w' := by
  by_cases g1 : a.size = 4
  · have e1 : ((a.size : Int) != 4) = false := by simp; omega
    by_cases g2 : b.size = 4
    · have e2 : ((b.size : Int) != 4) = false := by simp; omega
      by_cases g3 : p < 0
      · have e3 : decide (p < 0) = true := by simpa using g3
        go_enter Try.func41, Try.ntmps41
        go_wp2
        go_ret2
        exact ⟨rfl, ((Below.refl _ _).alloc (Nat.le_refl _) _).alloc (by rw [World.size_alloc]; omega) _⟩
      · have e3 : decide (p < 0) = false := by simpa using g3
        have e4 : decide (255 < p) = true := by simpa [u4Bad, g1, g2, e3] using h1
        clear g3
        go_enter Try.func41, Try.ntmps41
        go_wp2
        go_ret2
        exact ⟨rfl, ((Below.refl _ _).alloc (Nat.le_refl _) _).alloc (by rw [World.size_alloc]; omega) _⟩
    · have e2 : ((b.size : Int) != 4) = true := by simp; omega
      go_enter Try.func41, Try.ntmps41
      go_wp2
      go_ret2
      exact ⟨rfl, ((Below.refl _ _).alloc (Nat.le_refl _) _).alloc (by rw [World.size_alloc]; omega) _⟩
  · have e1 : ((a.size : Int) != 4) = true := by simp; omega
    go_enter Try.func41, Try.ntmps41
    go_wp2
    go_ret2
    exact ⟨rfl, ((Below.refl _ _).alloc (Nat.le_refl _) _).alloc (by rw [World.size_alloc]; omega) _⟩

set_option maxHeartbeats 1000000 in
set_option maxRecDepth 100000 in
theorem u4_long (a b : ByteArray) (p : Int) (r : ByteArray) (w : World) (hr : r.size ≤ 9223372036854775807) (h1 : u4Bad a b p = false) (h3 : 65515 < r.size) :
    Calls Try.prog 41 #[.agg #[.string a, .string b, .int .i64 p], .string r] w fun e w' => e = .returned (.tuple #[.string ⟨#[]⟩, .int .i64 4]) ∧ Below w.heap.size w w' := by
  have h2 : a.size = 4 ∧ b.size = 4 ∧ 0 ≤ p ∧ p ≤ 255 := by
    simp only [u4Bad, Bool.or_eq_false_iff, bne_eq_false_iff_eq, decide_eq_false_iff_not] at h1
    omega
  obtain ⟨g1, g2, g3, g4⟩ := h2
  have e1 : ((a.size : Int) != 4) = false := by simp; omega
  have e2 : ((b.size : Int) != 4) = false := by simp; omega
  have e3 : decide (p < 0) = false := by simp; omega
  have e4 : decide (255 < p) = false := by simp; omega
  have e5 : decide (65515 < (r.size : Int)) = true := by simp; omega
  clear g3 g4
  go_enter Try.func41, Try.ntmps41
  go_wp2
  go_ret2
  exact ⟨rfl, ((Below.refl _ _).alloc (Nat.le_refl _) _).alloc (by rw [World.size_alloc]; omega) _⟩

set_option maxHeartbeats 1000000 in
set_option maxRecDepth 100000 in
theorem u4_ok (a b : ByteArray) (p : Int) (r : ByteArray) (w : World) (h1 : u4Bad a b p = false) (h3 : ¬ 65515 < r.size) :
    Calls Try.prog 41 #[.agg #[.string a, .string b, .int .i64 p], .string r] w fun e w' => e = .returned (.tuple #[.string (hd4 a b p r (own4 a b p r) ++ r), .int .i64 0]) ∧ Below w.heap.size w w' := by
  have h2 : a.size = 4 ∧ b.size = 4 ∧ 0 ≤ p ∧ p ≤ 255 := by
    simp only [u4Bad, Bool.or_eq_false_iff, bne_eq_false_iff_eq, decide_eq_false_iff_not] at h1
    omega
  obtain ⟨g1, g2, g3, g4⟩ := h2
  have e1 : ((a.size : Int) != 4) = false := by simp; omega
  have e2 : ((b.size : Int) != 4) = false := by simp; omega
  have e3 : decide (p < 0) = false := by simp; omega
  have e4 : decide (255 < p) = false := by simp; omega
  have e5 : decide (65515 < (r.size : Int)) = false := by simp; omega
  have hr : r.size ≤ 65515 := by omega
  clear h3
  have hmf : ∀ (fn : Fn) (first cap : Array Value) (w : World), (Instr.makeFunc fn first cap).run Try.prog w = .ok (.func fn first cap) w := fun _ _ _ _ => rfl
  have hob := own4_bd a b p r
  obtain ⟨W, hW⟩ : ∃ W : World, W = (w.alloc (.cells #[.string a, .string b, .int .i64 p] 80)).alloc (.cells #[.string r] 9) := ⟨_, rfl⟩
  have hbx : W.heap[w.heap.size]? = some (.cells #[.string a, .string b, .int .i64 p] 80 (0, 0)) := by
    rw [hW, Below.heap_alloc _ _ _ (by rw [World.size_alloc]; omega)]; exact heap_alloc_new w _
  have hrx : W.cell? ⟨w.heap.size + 1, 0, none⟩ = some (.string r) := by rw [hW]; simp [go_sem]
  have hsz : W.heap.size = w.heap.size + 1 + 1 := by rw [hW]; simp only [World.size_alloc]
  have q : ∀ x : Later W, x.world.heap[w.heap.size]? = some (.cells #[.string a, .string b, .int .i64 p] 80 (0, 0)) := fun x => (x.below.block _ (by omega)).trans hbx
  have q3 : ∀ x : Later W, x.world.cell? ⟨w.heap.size + 1, 0, none⟩ = some (.string r) := fun x => (x.below.cell (by show w.heap.size + 1 < W.heap.size; omega)).trans hrx
  have hbW : Below w.heap.size w W := by rw [hW]; exact ((Below.refl _ _).alloc (Nat.le_refl _) _).alloc (by rw [World.size_alloc]; omega) _
  have HZ := Lib.hid hsz
  have HW := Lib.hid hW
  have C1 := fun x : Later W => Lib.hid (with4_calls a b p r 0 _ _ x.world g1 g2 g3 g4 hr (by omega) (by omega) (q3 x) (q x))
  have C2 := fun x : Later W => Lib.hid (with4_calls a b p r (own4 a b p r) _ _ x.world g1 g2 g3 g4 hr hob.1 hob.2 (q3 x) (q x))
  have C3 := fun w => Lib.hid (Sum_calls (hd4 a b p r 0) (by rw [hd4_size p r 0 g1 g2]; omega) w)
  have ho : 65535 - ((foldS (hd4 a b p r 0).data.toList : Nat) : Int) = own4 a b p r := rfl
  have zh := hd4_size p r (own4 a b p r) g1 g2
  rw [ho] at C3
  clear q hbx hrx hsz hW ho hob g3 g4
  generalize own4 a b p r = O at *
  generalize hd4 a b p r O = HO at *
  generalize hd4 a b p r 0 = H0 at *
  have n1 : ¬ (9223372036854775807 < 20 + r.size) := by omega
  go_enter Try.func41, Try.ntmps41
  go_wp2_with fail
  rw [← HW.out]
  refine wp_region_later (by kernel_rfl) (by kernel_rfl) ?_
  repeat (go_big_quiet_step (first | (go_at_call 61; first | with_reducible exact calls_later (C1 _).out | with_reducible exact calls_later (C2 _).out) | (go_at_call 62; with_reducible exact calls_later (C3 _).out)))
  refine wpQuiet_nil ?_
  rintro _ ⟨x, rfl⟩
  go_wp2_with fail
  go_ret2
  exact ⟨rfl, hbW.trans (x.below.mono hbW.size)⟩

theorem ip4Put_calls (a b : ByteArray) (p : Int) (r : ByteArray) (hr : r.size ≤ 9223372036854775807) (w : World) :
    Calls Try.prog 41 #[.agg #[.string a, .string b, .int .i64 p], .string r] w fun e w' => e = .returned (.tuple #[.string (u4S a b p r), .int .i64 (u4E a b p r)]) ∧ Below w.heap.size w w' := by
  cases h1 : u4Bad a b p with
  | true => simpa [u4S, u4E, h1] using u4_bad a b p r w h1
  | false =>
    by_cases h3 : 65515 < r.size
    · simpa [u4S, u4E, h1, h3] using u4_long a b p r w hr h1 h3
    · simpa [u4S, u4E, h1, h3] using u4_ok a b p r w h1 h3
end Go.Proofs.Ytjfijllnmjajpaa
