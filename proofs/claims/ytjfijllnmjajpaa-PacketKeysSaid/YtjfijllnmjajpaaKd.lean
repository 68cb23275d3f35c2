/- packet.keyed, told, packet.Parse: what they answer. -/
import Derived.WalkKit
import Derived.Lib.Hide
import Derived.Laws.IdiomStrings
import Derived.Test.YtjfijllnmjajpaaBy
import Derived.Test.YtjfijllnmjajpaaJ4
import Derived.Test.YtjfijllnmjajpaaQ6
set_option linter.unusedSimpArgs false
set_option linter.unusedVariables false
namespace Go.Proofs.Ytjfijllnmjajpaa
open Go.RowKit Go.BigFrame

/-- A packet's block. -/
def Pk (T n : Nat) (v : Int) (a : ByteArray) (b : ByteArray) (f : Int) (t : Int) (p : Int) (g : Int) (w : World) : Prop := w.heap[n]? = some (.cells #[.int .i64 v, .string a, .string b, .int .i64 f, .int .i64 t, .int .i64 p, .int .i64 g] T (0, 0))
theorem Pk.new (T : Nat) (v : Int) (a : ByteArray) (b : ByteArray) (f : Int) (t : Int) (p : Int) (g : Int) (w : World) : Pk T w.heap.size v a b f t p g (w.alloc (.cells #[.int .i64 v, .string a, .string b, .int .i64 f, .int .i64 t, .int .i64 p, .int .i64 g] T)) := heap_alloc_new w _
theorem Pk.later {T n : Nat} {v : Int} {a : ByteArray} {b : ByteArray} {f : Int} {t : Int} {p : Int} {g : Int} {w w' : World} (h : Pk T n v a b f t p g w) (hb : Below w.heap.size w w') : Pk T n v a b f t p g w' := (hb.block n (Array.getElem?_eq_some_iff.1 h).1).trans h
theorem Pk.alloc {T n : Nat} {v : Int} {a : ByteArray} {b : ByteArray} {f : Int} {t : Int} {p : Int} {g : Int} {w : World} (h : Pk T n v a b f t p g w) (o : Obj) : Pk T n v a b f t p g (w.alloc o) := h.later ((Below.refl _ _).alloc (Nat.le_refl _) _)
theorem Pk.cells {T n : Nat} {v : Int} {a : ByteArray} {b : ByteArray} {f : Int} {t : Int} {p : Int} {g : Int} {w : World} (h : Pk T n v a b f t p g w) : w.cell? ⟨n, 0, none⟩ = some (.int .i64 v) ∧ w.cell? ⟨n, 1, none⟩ = some (.string a) ∧ w.cell? ⟨n, 2, none⟩ = some (.string b) ∧ w.cell? ⟨n, 3, none⟩ = some (.int .i64 f) ∧ w.cell? ⟨n, 4, none⟩ = some (.int .i64 t) ∧ w.cell? ⟨n, 5, none⟩ = some (.int .i64 p) ∧ w.cell? ⟨n, 6, none⟩ = some (.int .i64 g) := by
  unfold Pk at h
  refine ⟨?_, ?_, ?_, ?_, ?_, ?_, ?_⟩ <;> simp [World.cell?, h]
theorem Pk.frozen {T n : Nat} {v : Int} {a : ByteArray} {b : ByteArray} {f : Int} {t : Int} {p : Int} {g : Int} {w : World} (h : Pk T n v a b f t p g w) : w.frozen? ⟨n, 0, none⟩ = false ∧ w.frozen? ⟨n, 1, none⟩ = false ∧ w.frozen? ⟨n, 2, none⟩ = false ∧ w.frozen? ⟨n, 3, none⟩ = false ∧ w.frozen? ⟨n, 4, none⟩ = false ∧ w.frozen? ⟨n, 5, none⟩ = false ∧ w.frozen? ⟨n, 6, none⟩ = false := by
  unfold Pk at h
  refine ⟨?_, ?_, ?_, ?_, ?_, ?_, ?_⟩ <;> simp [World.frozen?, h]
theorem Pk.set {T n : Nat} {v : Int} {a : ByteArray} {b : ByteArray} {f : Int} {t : Int} {p : Int} {g : Int} {w : World} (h : Pk T n v a b f t p g w) (x0 x1 x2 x3 x4 x5 x6 : Value) : (((((((w.setCell ⟨n, 0, none⟩ x0).setCell ⟨n, 1, none⟩ x1).setCell ⟨n, 2, none⟩ x2).setCell ⟨n, 3, none⟩ x3).setCell ⟨n, 4, none⟩ x4).setCell ⟨n, 5, none⟩ x5).setCell ⟨n, 6, none⟩ x6).cell? ⟨n, 0, none⟩ = some x0 ∧ (((((((w.setCell ⟨n, 0, none⟩ x0).setCell ⟨n, 1, none⟩ x1).setCell ⟨n, 2, none⟩ x2).setCell ⟨n, 3, none⟩ x3).setCell ⟨n, 4, none⟩ x4).setCell ⟨n, 5, none⟩ x5).setCell ⟨n, 6, none⟩ x6).cell? ⟨n, 1, none⟩ = some x1 ∧ (((((((w.setCell ⟨n, 0, none⟩ x0).setCell ⟨n, 1, none⟩ x1).setCell ⟨n, 2, none⟩ x2).setCell ⟨n, 3, none⟩ x3).setCell ⟨n, 4, none⟩ x4).setCell ⟨n, 5, none⟩ x5).setCell ⟨n, 6, none⟩ x6).cell? ⟨n, 2, none⟩ = some x2 ∧ (((((((w.setCell ⟨n, 0, none⟩ x0).setCell ⟨n, 1, none⟩ x1).setCell ⟨n, 2, none⟩ x2).setCell ⟨n, 3, none⟩ x3).setCell ⟨n, 4, none⟩ x4).setCell ⟨n, 5, none⟩ x5).setCell ⟨n, 6, none⟩ x6).cell? ⟨n, 3, none⟩ = some x3 ∧ (((((((w.setCell ⟨n, 0, none⟩ x0).setCell ⟨n, 1, none⟩ x1).setCell ⟨n, 2, none⟩ x2).setCell ⟨n, 3, none⟩ x3).setCell ⟨n, 4, none⟩ x4).setCell ⟨n, 5, none⟩ x5).setCell ⟨n, 6, none⟩ x6).cell? ⟨n, 4, none⟩ = some x4 ∧ (((((((w.setCell ⟨n, 0, none⟩ x0).setCell ⟨n, 1, none⟩ x1).setCell ⟨n, 2, none⟩ x2).setCell ⟨n, 3, none⟩ x3).setCell ⟨n, 4, none⟩ x4).setCell ⟨n, 5, none⟩ x5).setCell ⟨n, 6, none⟩ x6).cell? ⟨n, 5, none⟩ = some x5 ∧ (((((((w.setCell ⟨n, 0, none⟩ x0).setCell ⟨n, 1, none⟩ x1).setCell ⟨n, 2, none⟩ x2).setCell ⟨n, 3, none⟩ x3).setCell ⟨n, 4, none⟩ x4).setCell ⟨n, 5, none⟩ x5).setCell ⟨n, 6, none⟩ x6).cell? ⟨n, 6, none⟩ = some x6 := by
  unfold Pk at h
  simp [World.setCell, World.cell?, Array.getElem?_modify, h]
theorem Ky.frozen {T n : Nat} {v : Int} {a : ByteArray} {b : ByteArray} {f : Int} {t : Int} {p : Int} {w : World} (h : Ky T n v a b f t p w) : w.frozen? ⟨n, 0, none⟩ = false ∧ w.frozen? ⟨n, 1, none⟩ = false ∧ w.frozen? ⟨n, 2, none⟩ = false ∧ w.frozen? ⟨n, 3, none⟩ = false ∧ w.frozen? ⟨n, 4, none⟩ = false ∧ w.frozen? ⟨n, 5, none⟩ = false := by
  unfold Ky at h
  refine ⟨?_, ?_, ?_, ?_, ?_, ?_⟩ <;> simp [World.frozen?, h]
theorem Ky.set {T n : Nat} {v : Int} {a : ByteArray} {b : ByteArray} {f : Int} {t : Int} {p : Int} {w : World} (h : Ky T n v a b f t p w) (x0 x1 x2 x3 x4 x5 : Value) : ((((((w.setCell ⟨n, 0, none⟩ x0).setCell ⟨n, 1, none⟩ x1).setCell ⟨n, 2, none⟩ x2).setCell ⟨n, 3, none⟩ x3).setCell ⟨n, 4, none⟩ x4).setCell ⟨n, 5, none⟩ x5).cell? ⟨n, 0, none⟩ = some x0 ∧ ((((((w.setCell ⟨n, 0, none⟩ x0).setCell ⟨n, 1, none⟩ x1).setCell ⟨n, 2, none⟩ x2).setCell ⟨n, 3, none⟩ x3).setCell ⟨n, 4, none⟩ x4).setCell ⟨n, 5, none⟩ x5).cell? ⟨n, 1, none⟩ = some x1 ∧ ((((((w.setCell ⟨n, 0, none⟩ x0).setCell ⟨n, 1, none⟩ x1).setCell ⟨n, 2, none⟩ x2).setCell ⟨n, 3, none⟩ x3).setCell ⟨n, 4, none⟩ x4).setCell ⟨n, 5, none⟩ x5).cell? ⟨n, 2, none⟩ = some x2 ∧ ((((((w.setCell ⟨n, 0, none⟩ x0).setCell ⟨n, 1, none⟩ x1).setCell ⟨n, 2, none⟩ x2).setCell ⟨n, 3, none⟩ x3).setCell ⟨n, 4, none⟩ x4).setCell ⟨n, 5, none⟩ x5).cell? ⟨n, 3, none⟩ = some x3 ∧ ((((((w.setCell ⟨n, 0, none⟩ x0).setCell ⟨n, 1, none⟩ x1).setCell ⟨n, 2, none⟩ x2).setCell ⟨n, 3, none⟩ x3).setCell ⟨n, 4, none⟩ x4).setCell ⟨n, 5, none⟩ x5).cell? ⟨n, 4, none⟩ = some x4 ∧ ((((((w.setCell ⟨n, 0, none⟩ x0).setCell ⟨n, 1, none⟩ x1).setCell ⟨n, 2, none⟩ x2).setCell ⟨n, 3, none⟩ x3).setCell ⟨n, 4, none⟩ x4).setCell ⟨n, 5, none⟩ x5).cell? ⟨n, 5, none⟩ = some x5 := by
  unfold Ky at h
  simp [World.setCell, World.cell?, Array.getElem?_modify, h]
theorem below_set6' {w W : World} {n : Nat} (hn : w.heap.size ≤ n) (h : Below w.heap.size w W) (x0 x1 x2 x3 x4 x5 : Value) : Below w.heap.size w ((((((W.setCell ⟨n, 0, none⟩ x0).setCell ⟨n, 1, none⟩ x1).setCell ⟨n, 2, none⟩ x2).setCell ⟨n, 3, none⟩ x3).setCell ⟨n, 4, none⟩ x4).setCell ⟨n, 5, none⟩ x5) :=
  ((((((h.setCell (p := ⟨n, 0, none⟩) hn x0).setCell (p := ⟨n, 1, none⟩) hn x1).setCell (p := ⟨n, 2, none⟩) hn x2).setCell (p := ⟨n, 3, none⟩) hn x3).setCell (p := ⟨n, 4, none⟩) hn x4).setCell (p := ⟨n, 5, none⟩) hn x5)
theorem below_set7' {w W : World} {n : Nat} (hn : w.heap.size ≤ n) (h : Below w.heap.size w W) (x0 x1 x2 x3 x4 x5 x6 : Value) : Below w.heap.size w (((((((W.setCell ⟨n, 0, none⟩ x0).setCell ⟨n, 1, none⟩ x1).setCell ⟨n, 2, none⟩ x2).setCell ⟨n, 3, none⟩ x3).setCell ⟨n, 4, none⟩ x4).setCell ⟨n, 5, none⟩ x5).setCell ⟨n, 6, none⟩ x6) :=
  (((((((h.setCell (p := ⟨n, 0, none⟩) hn x0).setCell (p := ⟨n, 1, none⟩) hn x1).setCell (p := ⟨n, 2, none⟩) hn x2).setCell (p := ⟨n, 3, none⟩) hn x3).setCell (p := ⟨n, 4, none⟩) hn x4).setCell (p := ⟨n, 5, none⟩) hn x5).setCell (p := ⟨n, 6, none⟩) hn x6)
theorem ba_nil {s : ByteArray} (h : s.size = 0) : s = ⟨#[]⟩ := ba_ext (List.eq_nil_of_length_eq_zero ((ba_len s).trans h))
theorem text_empty {s : ByteArray} (h : s.toList.isEmpty = true) : s.size = 0 := by
  rw [ByteArray.toList_eq, List.isEmpty_iff] at h
  rw [← ba_len, h]
  rfl
theorem Ky.lt {T n : Nat} {v : Int} {a : ByteArray} {b : ByteArray} {f : Int} {t : Int} {p : Int} {w : World} (h : Ky T n v a b f t p w) : n < w.heap.size := (Array.getElem?_eq_some_iff.1 h).1

set_option maxHeartbeats 1000000 in
set_option maxRecDepth 100000 in
theorem keyed4_calls (a b : ByteArray) (p : Int) (w : World) :
    Calls Try.prog 52 #[.agg #[.string a, .string b, .int .i64 p]] w fun e w' => e = .returned (.agg #[.int .i64 4, .string a, .string b, .int .i64 0, .int .i64 0, .int .i64 p]) ∧ Below w.heap.size w w' := by
  go_enter Try.func52, Try.ntmps52
  go_wp2
  refine bodyPost_ret (v := .agg #[.int .i64 4, .string a, .string b, .int .i64 0, .int .i64 0, .int .i64 p]) (by simp [results, Try.results52, go_sem]) rfl ⟨rfl, ((Below.refl _ _).alloc (Nat.le_refl _) _).alloc (by rw [World.size_alloc]; omega) _⟩

set_option maxHeartbeats 1000000 in
set_option maxRecDepth 100000 in
theorem told4_calls (s : ByteArray) (hs : s.size ≤ 4294967296) (w : World) :
    Calls Try.prog 50 #[.string s, .func (.func 51) #[] #[], .func (.func 52) #[] #[]] w fun e w' => e = .returned (.tuple #[.agg #[.int .i64 4, .string (p4S s), .string (p4D s), .int .i64 0, .int .i64 0, .int .i64 (p4P s)], .string (p4R s), .int .i64 (p4E s)]) ∧ Below w.heap.size w w' := by
  have C1 := fun w => Lib.hid (ip4Parse_calls s hs w)
  have C2 := fun w => Lib.hid (keyed4_calls (p4S s) (p4D s) (p4P s) w)
  generalize p4S s = A at *
  generalize p4D s = B at *
  generalize p4P s = P at *
  generalize p4R s = R at *
  generalize p4E s = E at *
  go_enter Try.func50, Try.ntmps50
  go_wp2_with (go_at_call 51; with_reducible refine (C1 _).out.mono ?_)
  rintro e w1 ⟨rfl, hb1⟩
  have K1 := (Ky.new 40 0 ⟨#[]⟩ ⟨#[]⟩ 0 0 0 w).later hb1
  have B1 := bl ((Below.refl w.heap.size w).alloc (Nat.le_refl _) (.cells #[.int .i64 0, .string ⟨#[]⟩, .string ⟨#[]⟩, .int .i64 0, .int .i64 0, .int .i64 0] 40)) hb1
  clear hb1
  go_wp2_with (go_at_call 52; with_reducible refine (C2 _).out.mono ?_)
  rintro e w2 ⟨rfl, hb2⟩
  have K2 := (K1.alloc (.cells #[.string A, .string B, .int .i64 P] 80)).later hb2
  have B2 := bl (B1.alloc B1.size (.cells #[.string A, .string B, .int .i64 P] 80)) hb2
  obtain ⟨r0, r1, r2, r3, r4, r5⟩ := K2.cells
  obtain ⟨f0, f1, f2, f3, f4, f5⟩ := K2.frozen
  obtain ⟨s0, s1, s2, s3, s4, s5⟩ := K2.set (.int .i64 4) (.string A) (.string B) (.int .i64 0) (.int .i64 0) (.int .i64 P)
  clear K1 B1 hb2 K2
  go_wp2_with fail
  refine bodyPost_ret (v := .tuple #[.agg #[.int .i64 4, .string A, .string B, .int .i64 0, .int .i64 0, .int .i64 P], .string R, .int .i64 E]) (by simp [results, Try.results50, go_sem, s0, s1, s2, s3, s4, s5]) rfl ⟨rfl, below_set6' (Nat.le_refl _) B2 _ _ _ _ _ _⟩

set_option maxHeartbeats 1000000 in
set_option maxRecDepth 100000 in
theorem keyed6_calls (a b : ByteArray) (p : Int) (w : World) :
    Calls Try.prog 55 #[.agg #[.string a, .string b, .int .i64 p]] w fun e w' => e = .returned (.agg #[.int .i64 6, .string a, .string b, .int .i64 0, .int .i64 0, .int .i64 p]) ∧ Below w.heap.size w w' := by
  go_enter Try.func55, Try.ntmps55
  go_wp2
  refine bodyPost_ret (v := .agg #[.int .i64 6, .string a, .string b, .int .i64 0, .int .i64 0, .int .i64 p]) (by simp [results, Try.results55, go_sem]) rfl ⟨rfl, ((Below.refl _ _).alloc (Nat.le_refl _) _).alloc (by rw [World.size_alloc]; omega) _⟩

set_option maxHeartbeats 1000000 in
set_option maxRecDepth 100000 in
theorem told6_calls (s : ByteArray) (hs : s.size ≤ 9223372036854775807) (w : World) :
    Calls Try.prog 53 #[.string s, .func (.func 54) #[] #[], .func (.func 55) #[] #[]] w fun e w' => e = .returned (.tuple #[.agg #[.int .i64 6, .string (p6S s), .string (p6D s), .int .i64 0, .int .i64 0, .int .i64 (p6P s)], .string (p6R s), .int .i64 (p6E s)]) ∧ Below w.heap.size w w' := by
  have C1 := fun w => Lib.hid (ip6Parse_calls s hs w)
  have C2 := fun w => Lib.hid (keyed6_calls (p6S s) (p6D s) (p6P s) w)
  generalize p6S s = A at *
  generalize p6D s = B at *
  generalize p6P s = P at *
  generalize p6R s = R at *
  generalize p6E s = E at *
  go_enter Try.func53, Try.ntmps53
  go_wp2_with (go_at_call 54; with_reducible refine (C1 _).out.mono ?_)
  rintro e w1 ⟨rfl, hb1⟩
  have K1 := (Ky.new 40 0 ⟨#[]⟩ ⟨#[]⟩ 0 0 0 w).later hb1
  have B1 := bl ((Below.refl w.heap.size w).alloc (Nat.le_refl _) (.cells #[.int .i64 0, .string ⟨#[]⟩, .string ⟨#[]⟩, .int .i64 0, .int .i64 0, .int .i64 0] 40)) hb1
  clear hb1
  go_wp2_with (go_at_call 55; with_reducible refine (C2 _).out.mono ?_)
  rintro e w2 ⟨rfl, hb2⟩
  have K2 := (K1.alloc (.cells #[.string A, .string B, .int .i64 P] 78)).later hb2
  have B2 := bl (B1.alloc B1.size (.cells #[.string A, .string B, .int .i64 P] 78)) hb2
  obtain ⟨r0, r1, r2, r3, r4, r5⟩ := K2.cells
  obtain ⟨f0, f1, f2, f3, f4, f5⟩ := K2.frozen
  obtain ⟨s0, s1, s2, s3, s4, s5⟩ := K2.set (.int .i64 6) (.string A) (.string B) (.int .i64 0) (.int .i64 0) (.int .i64 P)
  clear K1 B1 hb2 K2
  go_wp2_with fail
  refine bodyPost_ret (v := .tuple #[.agg #[.int .i64 6, .string A, .string B, .int .i64 0, .int .i64 0, .int .i64 P], .string R, .int .i64 E]) (by simp [results, Try.results53, go_sem, s0, s1, s2, s3, s4, s5]) rfl ⟨rfl, below_set6' (Nat.le_refl _) B2 _ _ _ _ _ _⟩

set_option maxHeartbeats 1000000 in
set_option maxRecDepth 100000 in
theorem kd_empty (s : ByteArray) (hs : s.size ≤ 4294967296) (w : World) (h : s.size = 0) :
    Calls Try.prog 38 #[.string s] w fun e w' => e = .returned (.tuple #[.agg #[.int .i64 0, .string ⟨#[]⟩, .string ⟨#[]⟩, .int .i64 0, .int .i64 0, .int .i64 0], .string ⟨#[]⟩, .int .i64 2]) ∧ Below w.heap.size w w' := by
  obtain rfl : s = ⟨#[]⟩ := ba_nil h
  go_enter Try.func38, Try.ntmps38
  go_wp2
  refine bodyPost_ret (v := .tuple #[.agg #[.int .i64 0, .string ⟨#[]⟩, .string ⟨#[]⟩, .int .i64 0, .int .i64 0, .int .i64 0], .string ⟨#[]⟩, .int .i64 2]) (by simp [results, Try.results38, go_sem]) rfl ⟨rfl, (Below.refl _ _).alloc (Nat.le_refl _) _⟩

set_option maxHeartbeats 1000000 in
set_option maxRecDepth 100000 in
theorem kd_4 (s : ByteArray) (hs : s.size ≤ 4294967296) (w : World) (h : ¬ s.size = 0) (hv : verN s = 4) :
    Calls Try.prog 38 #[.string s] w fun e w' => e = .returned (.tuple #[.agg #[.int .i64 4, .string (p4S s), .string (p4D s), .int .i64 0, .int .i64 0, .int .i64 (p4P s)], .string (p4R s), .int .i64 (p4E s)]) ∧ Below w.heap.size w w' := by
  have hne : s.toList.isEmpty = false := by
    cases hq : s.toList.isEmpty with
    | false => rfl
    | true => exact absurd (text_empty hq) h
  have g0 : 0 < s.size := by omega
  have e0 := byteN_get s 0 g0
  have hb := byteN_lt s 0
  have hb16 : (byteN s 0 : Int) / 16 % 256 = (byteN s 0 : Int) / 16 := by omega
  unfold verN at hv
  have d4 : ((byteN s 0 : Int) / 16 == 4) = true := by simp; omega
  have C := Lib.hid (told4_calls s (by omega) (w.alloc (.cells #[.int .i64 0, .string ⟨#[]⟩, .string ⟨#[]⟩, .int .i64 0, .int .i64 0, .int .i64 0] 40)))
  generalize p4S s = A at *
  generalize p4D s = B at *
  generalize p4P s = P at *
  generalize p4R s = R at *
  generalize p4E s = E at *
  clear hv h
  go_enter Try.func38, Try.ntmps38
  go_wp2_with (go_at_call 50; with_reducible refine (C).out.mono ?_)
  rintro e w1 ⟨rfl, hb1⟩
  have K2 := (Ky.new 40 0 ⟨#[]⟩ ⟨#[]⟩ 0 0 0 w).later hb1
  have B2 := bl ((Below.refl w.heap.size w).alloc (Nat.le_refl _) (.cells #[.int .i64 0, .string ⟨#[]⟩, .string ⟨#[]⟩, .int .i64 0, .int .i64 0, .int .i64 0] 40)) hb1
  obtain ⟨r0, r1, r2, r3, r4, r5⟩ := K2.cells
  obtain ⟨f0, f1, f2, f3, f4, f5⟩ := K2.frozen
  obtain ⟨s0, s1, s2, s3, s4, s5⟩ := K2.set (.int .i64 4) (.string A) (.string B) (.int .i64 0) (.int .i64 0) (.int .i64 P)
  clear hb1 K2
  go_wp2_with fail
  refine bodyPost_ret (v := .tuple #[.agg #[.int .i64 4, .string A, .string B, .int .i64 0, .int .i64 0, .int .i64 P], .string R, .int .i64 E]) (by simp [results, Try.results38, go_sem, s0, s1, s2, s3, s4, s5]) rfl ⟨rfl, below_set6' (Nat.le_refl _) B2 _ _ _ _ _ _⟩

set_option maxHeartbeats 1000000 in
set_option maxRecDepth 100000 in
theorem kd_6 (s : ByteArray) (hs : s.size ≤ 4294967296) (w : World) (h : ¬ s.size = 0) (hv : verN s = 6) :
    Calls Try.prog 38 #[.string s] w fun e w' => e = .returned (.tuple #[.agg #[.int .i64 6, .string (p6S s), .string (p6D s), .int .i64 0, .int .i64 0, .int .i64 (p6P s)], .string (p6R s), .int .i64 (p6E s)]) ∧ Below w.heap.size w w' := by
  have hne : s.toList.isEmpty = false := by
    cases hq : s.toList.isEmpty with
    | false => rfl
    | true => exact absurd (text_empty hq) h
  have g0 : 0 < s.size := by omega
  have e0 := byteN_get s 0 g0
  have hb := byteN_lt s 0
  have hb16 : (byteN s 0 : Int) / 16 % 256 = (byteN s 0 : Int) / 16 := by omega
  unfold verN at hv
  have d4 : ((byteN s 0 : Int) / 16 == 4) = false := by simp; omega
  have d6 : ((byteN s 0 : Int) / 16 == 6) = true := by simp; omega
  have C := Lib.hid (told6_calls s (by omega) (w.alloc (.cells #[.int .i64 0, .string ⟨#[]⟩, .string ⟨#[]⟩, .int .i64 0, .int .i64 0, .int .i64 0] 40)))
  generalize p6S s = A at *
  generalize p6D s = B at *
  generalize p6P s = P at *
  generalize p6R s = R at *
  generalize p6E s = E at *
  clear hv h
  go_enter Try.func38, Try.ntmps38
  go_wp2_with (go_at_call 53; with_reducible refine (C).out.mono ?_)
  rintro e w1 ⟨rfl, hb1⟩
  have K2 := (Ky.new 40 0 ⟨#[]⟩ ⟨#[]⟩ 0 0 0 w).later hb1
  have B2 := bl ((Below.refl w.heap.size w).alloc (Nat.le_refl _) (.cells #[.int .i64 0, .string ⟨#[]⟩, .string ⟨#[]⟩, .int .i64 0, .int .i64 0, .int .i64 0] 40)) hb1
  obtain ⟨r0, r1, r2, r3, r4, r5⟩ := K2.cells
  obtain ⟨f0, f1, f2, f3, f4, f5⟩ := K2.frozen
  obtain ⟨s0, s1, s2, s3, s4, s5⟩ := K2.set (.int .i64 6) (.string A) (.string B) (.int .i64 0) (.int .i64 0) (.int .i64 P)
  clear hb1 K2
  go_wp2_with fail
  refine bodyPost_ret (v := .tuple #[.agg #[.int .i64 6, .string A, .string B, .int .i64 0, .int .i64 0, .int .i64 P], .string R, .int .i64 E]) (by simp [results, Try.results38, go_sem, s0, s1, s2, s3, s4, s5]) rfl ⟨rfl, below_set6' (Nat.le_refl _) B2 _ _ _ _ _ _⟩

set_option maxHeartbeats 1000000 in
set_option maxRecDepth 100000 in
theorem kd_other (s : ByteArray) (hs : s.size ≤ 4294967296) (w : World) (h : ¬ s.size = 0) (h4 : ¬ verN s = 4) (h6 : ¬ verN s = 6) :
    Calls Try.prog 38 #[.string s] w fun e w' => e = .returned (.tuple #[.agg #[.int .i64 0, .string ⟨#[]⟩, .string ⟨#[]⟩, .int .i64 0, .int .i64 0, .int .i64 0], .string ⟨#[]⟩, .int .i64 3]) ∧ Below w.heap.size w w' := by
  have hne : s.toList.isEmpty = false := by
    cases hq : s.toList.isEmpty with
    | false => rfl
    | true => exact absurd (text_empty hq) h
  have g0 : 0 < s.size := by omega
  have e0 := byteN_get s 0 g0
  have hb := byteN_lt s 0
  have hb16 : (byteN s 0 : Int) / 16 % 256 = (byteN s 0 : Int) / 16 := by omega
  unfold verN at h4 h6
  have d4 : ((byteN s 0 : Int) / 16 == 4) = false := by simp; omega
  have d6 : ((byteN s 0 : Int) / 16 == 6) = false := by simp; omega
  clear h h4 h6
  go_enter Try.func38, Try.ntmps38
  go_wp2
  refine bodyPost_ret (v := .tuple #[.agg #[.int .i64 0, .string ⟨#[]⟩, .string ⟨#[]⟩, .int .i64 0, .int .i64 0, .int .i64 0], .string ⟨#[]⟩, .int .i64 3]) (by simp [results, Try.results38, go_sem]) rfl ⟨rfl, (Below.refl _ _).alloc (Nat.le_refl _) _⟩

theorem verN_empty {s : ByteArray} (h : s.size = 0) : verN s = 0 := by
  obtain rfl : s = ⟨#[]⟩ := ba_nil h
  rfl
theorem keyed_calls (s : ByteArray) (hs : s.size ≤ 4294967296) (w : World) :
    Calls Try.prog 38 #[.string s] w fun e w' => e = .returned (.tuple #[.agg #[.int .i64 (hV s), .string (hA s), .string (hB s), .int .i64 0, .int .i64 0, .int .i64 (hP s)], .string (hR s), .int .i64 (hE s)]) ∧ Below w.heap.size w w' := by
  unfold hV hA hB hP hR hE
  by_cases h : s.size = 0
  · rw [verN_empty h, if_pos h]
    exact kd_empty s hs w h
  · rw [if_neg h]
    by_cases h4 : verN s = 4
    · rw [if_pos h4, if_pos h4, if_pos h4, if_pos h4, if_pos h4, if_pos h4]
      exact kd_4 s hs w h h4
    · rw [if_neg h4, if_neg h4, if_neg h4, if_neg h4, if_neg h4, if_neg h4]
      by_cases h6 : verN s = 6
      · rw [if_pos h6, if_pos h6, if_pos h6, if_pos h6, if_pos h6, if_pos h6]
        exact kd_6 s hs w h h6
      · rw [if_neg h6, if_neg h6, if_neg h6, if_neg h6, if_neg h6, if_neg h6]
        exact kd_other s hs w h h4 h6

theorem hR_size (s : ByteArray) : (hR s).size ≤ s.size := by
  have e4 : (p4R s).size ≤ s.size := by
    unfold p4R; split
    · rw [ByteArray.size_extract]; omega
    · exact Nat.zero_le _
  have e6 : (p6R s).size ≤ s.size := by
    unfold p6R; split
    · rw [ByteArray.size_extract]; omega
    · exact Nat.zero_le _
  unfold hR
  split
  · exact e4
  · split
    · exact e6
    · exact Nat.zero_le _
end Go.Proofs.Ytjfijllnmjajpaa
