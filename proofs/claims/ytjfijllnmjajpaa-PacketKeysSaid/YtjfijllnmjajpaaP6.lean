/- ip6.Parse, gangplankref05.Parse: what they answer. -/
import Derived.WalkKit
import Derived.Deep.Cut
import Derived.StillTailTactics
import Derived.Lib.Hide
import Derived.Laws.IdiomStrings
import Derived.Test.YtjfijllnmjajpaaR1
import Derived.Test.YtjfijllnmjajpaaCt
import Derived.Test.YtjfijllnmjajpaaS6
namespace Go.Proofs.Ytjfijllnmjajpaa
open Go.RowKit Go.BigFrame

set_option maxHeartbeats 1000000 in
set_option maxRecDepth 100000 in
theorem word_calls (s : ByteArray) (p : Int) (hs : s.size ≤ 9223372036854775807) (w : World) :
    Calls Try.prog 34 #[.string s, .int .i64 p] w fun e w' => e = .returned (.int .i64 (getV s p 2)) ∧ w = w' := by
  have C := Lib.hid (refGet_calls s p 2 hs w)
  have hb := getV2_bd s p
  have hw : IntKind.i64.wrap (getV s p 2) = getV s p 2 := IntWalk.i64_in _ (by omega)
  generalize getV s p 2 = V at *
  go_enter Try.func34, Try.ntmps34
  go_wp2_with (go_at_call 49; with_reducible refine (C.out).mono ?_)
  rintro e w1 ⟨rfl, rfl⟩
  go_wp2
  go_ret
  exact ⟨rfl, rfl⟩

set_option maxHeartbeats 1000000 in
set_option maxRecDepth 100000 in
theorem r6_short (s : ByteArray) (hs : s.size ≤ 9223372036854775807) (w : World) (h1 : s.size < 40) :
    Calls Try.prog 57 #[.string s] w fun e w' => e = .returned (.tuple #[.agg #[.string ⟨#[]⟩, .string ⟨#[]⟩, .int .i64 0], .string ⟨#[]⟩, .int .i64 2]) ∧ Below w.heap.size w w' := by
  have d1 : decide ((s.size : Int) < 40) = true := by simp; omega
  go_enter Try.func57, Try.ntmps57
  go_wp2
  refine bodyPost_ret (v := .tuple #[.agg #[.string ⟨#[]⟩, .string ⟨#[]⟩, .int .i64 0], .string ⟨#[]⟩, .int .i64 2]) (by simp [results, Try.results57, go_sem]) rfl ⟨rfl, (Below.refl _ _).alloc (Nat.le_refl _) _⟩

set_option maxHeartbeats 1000000 in
set_option maxRecDepth 100000 in
theorem r6_vers (s : ByteArray) (hs : s.size ≤ 9223372036854775807) (w : World) (h1 : ¬ s.size < 40) (h2 : byteN s 0 / 16 ≠ 6) :
    Calls Try.prog 57 #[.string s] w fun e w' => e = .returned (.tuple #[.agg #[.string ⟨#[]⟩, .string ⟨#[]⟩, .int .i64 0], .string ⟨#[]⟩, .int .i64 3]) ∧ Below w.heap.size w w' := by
  have d1 : decide ((s.size : Int) < 40) = false := by simp; omega
  have g0 : 0 < s.size := by omega
  have e0 := byteN_get s 0 g0
  have hb0 := byteN_lt s 0
  have d2 : ((byteN s 0 : Int) / 16 % 256 != 6) = true := by simp; omega
  go_enter Try.func57, Try.ntmps57
  go_wp2
  refine bodyPost_ret (v := .tuple #[.agg #[.string ⟨#[]⟩, .string ⟨#[]⟩, .int .i64 0], .string ⟨#[]⟩, .int .i64 3]) (by simp [results, Try.results57, go_sem]) rfl ⟨rfl, (Below.refl _ _).alloc (Nat.le_refl _) _⟩

set_option maxHeartbeats 1000000 in
set_option maxRecDepth 100000 in
theorem r6_long (s : ByteArray) (hs : s.size ≤ 9223372036854775807) (w : World) (h1 : ¬ s.size < 40) (h2 : byteN s 0 / 16 = 6) (h3 : (s.size : Int) - 40 < getV s 4 2) :
    Calls Try.prog 57 #[.string s] w fun e w' => e = .returned (.tuple #[.agg #[.string ⟨#[]⟩, .string ⟨#[]⟩, .int .i64 0], .string ⟨#[]⟩, .int .i64 4]) ∧ Below w.heap.size w w' := by
  have d1 : decide ((s.size : Int) < 40) = false := by simp; omega
  have g0 : 0 < s.size := by omega
  have e0 := byteN_get s 0 g0
  have hb0 := byteN_lt s 0
  have d2 : ((byteN s 0 : Int) / 16 % 256 != 6) = false := by simp; omega
  have d2' : ((byteN s 0 : Int) / 16 != 6) = false := by simp; omega
  have C := fun w => Lib.hid (word_calls s 4 hs w)
  have hb := getV2_bd s 4
  generalize getV s 4 2 = V at *
  have hw : IntKind.i64.wrap ((s.size : Int) - 40) = (s.size : Int) - 40 := IntWalk.i64_in _ (by omega)
  have d3 : decide ((s.size : Int) - 40 < V) = true := by simp; omega
  go_enter Try.func57, Try.ntmps57
  go_wp2_with (go_at_call 34; with_reducible refine ((C _).out).mono ?_)
  rintro e w1 ⟨rfl, rfl⟩
  go_wp2
  refine bodyPost_ret (v := .tuple #[.agg #[.string ⟨#[]⟩, .string ⟨#[]⟩, .int .i64 0], .string ⟨#[]⟩, .int .i64 4]) (by simp [results, Try.results57, go_sem]) rfl ⟨rfl, (Below.refl _ _).alloc (Nat.le_refl _) _⟩

set_option maxHeartbeats 1000000 in
set_option maxRecDepth 100000 in
theorem r6_ok (s : ByteArray) (hs : s.size ≤ 9223372036854775807) (w : World) (h1 : ¬ s.size < 40) (h2 : byteN s 0 / 16 = 6) (h3 : ¬ (s.size : Int) - 40 < getV s 4 2) :
    Calls Try.prog 57 #[.string s] w fun e w' => e = .returned (.tuple #[.agg #[.string (s.extract 8 24), .string (s.extract 24 40), .int .i64 (byteN s 6 : Int)], .string (s.extract 40 (40 + (getV s 4 2).toNat)), .int .i64 0]) ∧ Below w.heap.size w w' := by
  have d1 : decide ((s.size : Int) < 40) = false := by simp; omega
  have g0 : 0 < s.size := by omega
  have g6 : 6 < s.size := by omega
  have g40 : (40 : Int) ≤ (s.size : Int) := by omega
  have g24 : (24 : Int) ≤ (s.size : Int) := by omega
  have e0 := byteN_get s 0 g0
  have e6 := byteN_get s 6 g6
  have hb0 := byteN_lt s 0
  have d2 : ((byteN s 0 : Int) / 16 % 256 != 6) = false := by simp; omega
  have d2' : ((byteN s 0 : Int) / 16 != 6) = false := by simp; omega
  have hb := getV2_bd s 4
  obtain ⟨V, hV⟩ : ∃ V : Nat, getV s 4 2 = (V : Int) := ⟨(getV s 4 2).toNat, by omega⟩
  rw [hV] at h3 hb
  rw [hV, Int.toNat_natCast]
  have hb6 := byteN_lt s 6
  have hw6 : wrap64 (byteN s 6 : Int) = (byteN s 6 : Int) := by unfold wrap64; omega
  have C0 := word_calls s 4 hs
  simp only [hV] at C0
  have C := fun w => Lib.hid (C0 w)
  clear C0
  have hw : IntKind.i64.wrap ((s.size : Int) - 40) = (s.size : Int) - 40 := IntWalk.i64_in _ (by omega)
  have d3 : decide ((s.size : Int) - 40 < V) = false := by simp; omega
  have hw2 : IntKind.i64.wrap (40 + (V : Int)) = 40 + (V : Int) := IntWalk.i64_in _ (by omega)
  have d4 : 40 + (V : Int) ≤ (s.size : Int) := by omega
  have d5 : (40 : Int) ≤ 40 + (V : Int) := by omega
  go_enter Try.func57, Try.ntmps57
  go_wp2_with (go_at_call 34; with_reducible refine ((C _).out).mono ?_)
  go_region
  all_goals
    go_wp2
    refine bodyPost_ret (v := .tuple #[.agg #[.string (s.extract 8 24), .string (s.extract 24 40), .int .i64 (byteN s 6 : Int)], .string (s.extract 40 (40 + V)), .int .i64 0]) (by simp [results, Try.results57, go_sem]) rfl ⟨rfl, ((Below.refl _ _).alloc (Nat.le_refl _) _).drew⟩

theorem ref6Parse_calls (s : ByteArray) (hs : s.size ≤ 9223372036854775807) (w : World) :
    Calls Try.prog 57 #[.string s] w fun e w' => e = .returned (.tuple #[.agg #[.string (p6S s), .string (p6D s), .int .i64 (p6P s)], .string (p6R s), .int .i64 (p6E s)]) ∧ Below w.heap.size w w' := by
  by_cases h1 : s.size < 40
  · simpa [p6S, p6D, p6P, p6R, p6E, h1] using r6_short s hs w h1
  · by_cases h2 : byteN s 0 / 16 = 6
    · by_cases h3 : (s.size : Int) - 40 < getV s 4 2
      · simpa [p6S, p6D, p6P, p6R, p6E, h1, h2, h3] using r6_long s hs w h1 h2 h3
      · simpa [p6S, p6D, p6P, p6R, p6E, h1, h2, h3] using r6_ok s hs w h1 h2 h3
    · simpa [p6S, p6D, p6P, p6R, p6E, h1, h2] using r6_vers s hs w h1 h2
end Go.Proofs.Ytjfijllnmjajpaa
