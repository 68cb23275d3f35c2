/- gangplankref07.head, Parse: what they answer. -/
import Derived.WalkKit
import Derived.Deep.Cut
import Derived.StillTailTactics
import Derived.Lib.Hide
import Derived.Laws.IdiomStrings
import Derived.Test.YtjfijllnmjajpaaPk
import Derived.Test.YtjfijllnmjajpaaRq
import Derived.Test.YtjfijllnmjajpaaR4
set_option linter.unusedSimpArgs false
set_option linter.unusedVariables false
namespace Go.Proofs.Ytjfijllnmjajpaa
open Go.RowKit Go.BigFrame

/-- What the reference's head answers. -/
def Gb (T n : Nat) (a : ByteArray) (b : ByteArray) (r : ByteArray) (p : Int) (e : Int) (w : World) : Prop := w.heap[n]? = some (.cells #[.string a, .string b, .string r, .int .i64 p, .int .i64 e] T (0, 0))
theorem Gb.new (T : Nat) (a : ByteArray) (b : ByteArray) (r : ByteArray) (p : Int) (e : Int) (w : World) : Gb T w.heap.size a b r p e (w.alloc (.cells #[.string a, .string b, .string r, .int .i64 p, .int .i64 e] T)) := heap_alloc_new w _
theorem Gb.later {T n : Nat} {a : ByteArray} {b : ByteArray} {r : ByteArray} {p : Int} {e : Int} {w w' : World} (h : Gb T n a b r p e w) (hb : Below w.heap.size w w') : Gb T n a b r p e w' := (hb.block n (Array.getElem?_eq_some_iff.1 h).1).trans h
theorem Gb.alloc {T n : Nat} {a : ByteArray} {b : ByteArray} {r : ByteArray} {p : Int} {e : Int} {w : World} (h : Gb T n a b r p e w) (o : Obj) : Gb T n a b r p e (w.alloc o) := h.later ((Below.refl _ _).alloc (Nat.le_refl _) _)
theorem Gb.cells {T n : Nat} {a : ByteArray} {b : ByteArray} {r : ByteArray} {p : Int} {e : Int} {w : World} (h : Gb T n a b r p e w) : w.cell? ⟨n, 0, none⟩ = some (.string a) ∧ w.cell? ⟨n, 1, none⟩ = some (.string b) ∧ w.cell? ⟨n, 2, none⟩ = some (.string r) ∧ w.cell? ⟨n, 3, none⟩ = some (.int .i64 p) ∧ w.cell? ⟨n, 4, none⟩ = some (.int .i64 e) := by
  unfold Gb at h
  refine ⟨?_, ?_, ?_, ?_, ?_⟩ <;> simp [World.cell?, h]
theorem Gb.frozen {T n : Nat} {a : ByteArray} {b : ByteArray} {r : ByteArray} {p : Int} {e : Int} {w : World} (h : Gb T n a b r p e w) : w.frozen? ⟨n, 0, none⟩ = false ∧ w.frozen? ⟨n, 1, none⟩ = false ∧ w.frozen? ⟨n, 2, none⟩ = false ∧ w.frozen? ⟨n, 3, none⟩ = false ∧ w.frozen? ⟨n, 4, none⟩ = false := by
  unfold Gb at h
  refine ⟨?_, ?_, ?_, ?_, ?_⟩ <;> simp [World.frozen?, h]
theorem Gb.set {T n : Nat} {a : ByteArray} {b : ByteArray} {r : ByteArray} {p : Int} {e : Int} {w : World} (h : Gb T n a b r p e w) (x0 x1 x2 x3 x4 : Value) : (((((w.setCell ⟨n, 0, none⟩ x0).setCell ⟨n, 1, none⟩ x1).setCell ⟨n, 2, none⟩ x2).setCell ⟨n, 3, none⟩ x3).setCell ⟨n, 4, none⟩ x4).cell? ⟨n, 0, none⟩ = some x0 ∧ (((((w.setCell ⟨n, 0, none⟩ x0).setCell ⟨n, 1, none⟩ x1).setCell ⟨n, 2, none⟩ x2).setCell ⟨n, 3, none⟩ x3).setCell ⟨n, 4, none⟩ x4).cell? ⟨n, 1, none⟩ = some x1 ∧ (((((w.setCell ⟨n, 0, none⟩ x0).setCell ⟨n, 1, none⟩ x1).setCell ⟨n, 2, none⟩ x2).setCell ⟨n, 3, none⟩ x3).setCell ⟨n, 4, none⟩ x4).cell? ⟨n, 2, none⟩ = some x2 ∧ (((((w.setCell ⟨n, 0, none⟩ x0).setCell ⟨n, 1, none⟩ x1).setCell ⟨n, 2, none⟩ x2).setCell ⟨n, 3, none⟩ x3).setCell ⟨n, 4, none⟩ x4).cell? ⟨n, 3, none⟩ = some x3 ∧ (((((w.setCell ⟨n, 0, none⟩ x0).setCell ⟨n, 1, none⟩ x1).setCell ⟨n, 2, none⟩ x2).setCell ⟨n, 3, none⟩ x3).setCell ⟨n, 4, none⟩ x4).cell? ⟨n, 4, none⟩ = some x4 := by
  unfold Gb at h
  simp [World.setCell, World.cell?, Array.getElem?_modify, h]
theorem below_set5' {w W : World} {n : Nat} (hn : w.heap.size ≤ n) (h : Below w.heap.size w W) (x0 x1 x2 x3 x4 : Value) : Below w.heap.size w (((((W.setCell ⟨n, 0, none⟩ x0).setCell ⟨n, 1, none⟩ x1).setCell ⟨n, 2, none⟩ x2).setCell ⟨n, 3, none⟩ x3).setCell ⟨n, 4, none⟩ x4) :=
  (((((h.setCell (p := ⟨n, 0, none⟩) hn x0).setCell (p := ⟨n, 1, none⟩) hn x1).setCell (p := ⟨n, 2, none⟩) hn x2).setCell (p := ⟨n, 3, none⟩) hn x3).setCell (p := ⟨n, 4, none⟩) hn x4)

theorem Tri.alloc' {T n : Nat} {a b c : Int} {w : World} (h : Tri T n a b c w) (o : Obj) : Tri T n a b c (w.alloc o) := h.later ((Below.refl _ _).alloc (Nat.le_refl _) _)

set_option maxHeartbeats 2000000 in
set_option maxRecDepth 100000 in
theorem rh_4 (s : ByteArray) (hs : s.size ≤ 4294967296) (w : World) (h : ¬ s.size = 0) (hv : verN s = 4) :
    Calls Try.prog 39 #[.string s] w fun e w' => e = .returned (.agg #[.string (p4S s), .string (p4D s), .string (p4R s), .int .i64 (p4P s), .int .i64 (p4E s)]) ∧ Below w.heap.size w w' := by
  have g0 : 0 < s.size := by omega
  have e0 := byteN_get s 0 g0
  have hb := byteN_lt s 0
  have hb16 : (byteN s 0 : Int) / 16 % 256 = (byteN s 0 : Int) / 16 := by omega
  unfold verN at hv
  have d4 : ((byteN s 0 : Int) / 16 == 4) = true := by simp; omega
  have C := Lib.hid (ref4Parse_calls s hs (w.alloc (.cells #[.string ⟨#[]⟩, .string ⟨#[]⟩, .string ⟨#[]⟩, .int .i64 0, .int .i64 0] 74)))
  generalize p4S s = A at *
  generalize p4D s = B at *
  generalize p4P s = P at *
  generalize p4R s = R at *
  generalize p4E s = E at *
  clear hv h
  go_enter Try.func39, Try.ntmps39
  go_wp2_with (go_at_call 56; with_reducible refine (C).out.mono ?_)
  rintro e w1 ⟨rfl, hb1⟩
  have K1 := (Gb.new 74 ⟨#[]⟩ ⟨#[]⟩ ⟨#[]⟩ 0 0 w).later hb1
  have B1 := bl ((Below.refl w.heap.size w).alloc (Nat.le_refl _) (.cells #[.string ⟨#[]⟩, .string ⟨#[]⟩, .string ⟨#[]⟩, .int .i64 0, .int .i64 0] 74)) hb1
  have K2 := K1.alloc (.cells #[.string A, .string B, .int .i64 P] 82)
  have B2 := B1.alloc B1.size (.cells #[.string A, .string B, .int .i64 P] 82)
  obtain ⟨r0, r1, r2, r3, r4⟩ := K2.cells
  obtain ⟨f0, f1, f2, f3, f4⟩ := K2.frozen
  obtain ⟨s0, s1, s2, s3, s4⟩ := K2.set (.string A) (.string B) (.string R) (.int .i64 P) (.int .i64 E)
  clear hb1 K2 K1 B1
  go_wp2_with fail
  refine bodyPost_ret (v := .agg #[.string A, .string B, .string R, .int .i64 P, .int .i64 E]) (by simp [results, Try.results39, go_sem, s0, s1, s2, s3, s4]) rfl ⟨rfl, below_set5' (Nat.le_refl _) B2 _ _ _ _ _⟩

set_option maxHeartbeats 2000000 in
set_option maxRecDepth 100000 in
theorem rh_6 (s : ByteArray) (hs : s.size ≤ 4294967296) (w : World) (h : ¬ s.size = 0) (hv : verN s = 6) :
    Calls Try.prog 39 #[.string s] w fun e w' => e = .returned (.agg #[.string (p6S s), .string (p6D s), .string (p6R s), .int .i64 (p6P s), .int .i64 (p6E s)]) ∧ Below w.heap.size w w' := by
  have g0 : 0 < s.size := by omega
  have e0 := byteN_get s 0 g0
  have hb := byteN_lt s 0
  have hb16 : (byteN s 0 : Int) / 16 % 256 = (byteN s 0 : Int) / 16 := by omega
  unfold verN at hv
  have d4 : ((byteN s 0 : Int) / 16 == 4) = false := by simp; omega
  have d6 : ((byteN s 0 : Int) / 16 == 6) = true := by simp; omega
  have C := Lib.hid (ref6Parse_calls s (by omega) (w.alloc (.cells #[.string ⟨#[]⟩, .string ⟨#[]⟩, .string ⟨#[]⟩, .int .i64 0, .int .i64 0] 74)))
  generalize p6S s = A at *
  generalize p6D s = B at *
  generalize p6P s = P at *
  generalize p6R s = R at *
  generalize p6E s = E at *
  clear hv h
  go_enter Try.func39, Try.ntmps39
  go_wp2_with (go_at_call 57; with_reducible refine (C).out.mono ?_)
  rintro e w1 ⟨rfl, hb1⟩
  have K1 := (Gb.new 74 ⟨#[]⟩ ⟨#[]⟩ ⟨#[]⟩ 0 0 w).later hb1
  have B1 := bl ((Below.refl w.heap.size w).alloc (Nat.le_refl _) (.cells #[.string ⟨#[]⟩, .string ⟨#[]⟩, .string ⟨#[]⟩, .int .i64 0, .int .i64 0] 74)) hb1
  have K2 := K1.alloc (.cells #[.string A, .string B, .int .i64 P] 84)
  have B2 := B1.alloc B1.size (.cells #[.string A, .string B, .int .i64 P] 84)
  obtain ⟨r0, r1, r2, r3, r4⟩ := K2.cells
  obtain ⟨f0, f1, f2, f3, f4⟩ := K2.frozen
  obtain ⟨s0, s1, s2, s3, s4⟩ := K2.set (.string A) (.string B) (.string R) (.int .i64 P) (.int .i64 E)
  clear hb1 K2 K1 B1
  go_wp2_with fail
  refine bodyPost_ret (v := .agg #[.string A, .string B, .string R, .int .i64 P, .int .i64 E]) (by simp [results, Try.results39, go_sem, s0, s1, s2, s3, s4]) rfl ⟨rfl, below_set5' (Nat.le_refl _) B2 _ _ _ _ _⟩

set_option maxHeartbeats 2000000 in
set_option maxRecDepth 100000 in
theorem rh_other (s : ByteArray) (hs : s.size ≤ 4294967296) (w : World) (h : ¬ s.size = 0) (h4 : ¬ verN s = 4) (h6 : ¬ verN s = 6) :
    Calls Try.prog 39 #[.string s] w fun e w' => e = .returned (.agg #[.string ⟨#[]⟩, .string ⟨#[]⟩, .string ⟨#[]⟩, .int .i64 0, .int .i64 3]) ∧ Below w.heap.size w w' := by
  have g0 : 0 < s.size := by omega
  have e0 := byteN_get s 0 g0
  have hb := byteN_lt s 0
  have hb16 : (byteN s 0 : Int) / 16 % 256 = (byteN s 0 : Int) / 16 := by omega
  unfold verN at h4 h6
  have d4 : ((byteN s 0 : Int) / 16 == 4) = false := by simp; omega
  have d6 : ((byteN s 0 : Int) / 16 == 6) = false := by simp; omega
  clear h h4 h6
  go_enter Try.func39, Try.ntmps39
  go_wp2
  refine bodyPost_ret (v := .agg #[.string ⟨#[]⟩, .string ⟨#[]⟩, .string ⟨#[]⟩, .int .i64 0, .int .i64 3]) (by simp [results, Try.results39, go_sem]) rfl ⟨rfl, (Below.refl _ _).alloc (Nat.le_refl _) _⟩

theorem refHead_calls (s : ByteArray) (hs : s.size ≤ 4294967296) (h : ¬ s.size = 0) (w : World) :
    Calls Try.prog 39 #[.string s] w fun e w' => e = .returned (.agg #[.string (hA s), .string (hB s), .string (hR s), .int .i64 (hP s), .int .i64 (hE s)]) ∧ Below w.heap.size w w' := by
  unfold hA hB hP hR hE
  rw [if_neg h]
  by_cases h4 : verN s = 4
  · rw [if_pos h4, if_pos h4, if_pos h4, if_pos h4, if_pos h4]
    exact rh_4 s hs w h h4
  · rw [if_neg h4, if_neg h4, if_neg h4, if_neg h4, if_neg h4]
    by_cases h6 : verN s = 6
    · rw [if_pos h6, if_pos h6, if_pos h6, if_pos h6, if_pos h6]
      exact rh_6 s hs w h h6
    · rw [if_neg h6, if_neg h6, if_neg h6, if_neg h6, if_neg h6]
      exact rh_other s hs w h h4 h6

set_option maxHeartbeats 2000000 in
set_option maxRecDepth 100000 in
theorem rk_empty (s : ByteArray) (hs : s.size ≤ 4294967296) (w : World) (h : s.size = 0) :
    Calls Try.prog 22 #[.string s] w fun e w' => e = .returned (.tuple #[.agg #[.int .i64 0, .string ⟨#[]⟩, .string ⟨#[]⟩, .int .i64 0, .int .i64 0, .int .i64 0, .int .i64 0], .int .i64 2]) ∧ Below w.heap.size w w' := by
  have d : ((s.size : Int) == 0) = true := by rw [h]; rfl
  clear h
  go_enter Try.func22, Try.ntmps22
  go_wp2
  refine bodyPost_ret (v := .tuple #[.agg #[.int .i64 0, .string ⟨#[]⟩, .string ⟨#[]⟩, .int .i64 0, .int .i64 0, .int .i64 0, .int .i64 0], .int .i64 2]) (by simp [results, Try.results22, go_sem]) rfl ⟨rfl, (Below.refl _ _).alloc (Nat.le_refl _) _⟩

set_option maxHeartbeats 2000000 in
set_option maxRecDepth 100000 in
theorem rk_head (s : ByteArray) (hs : s.size ≤ 4294967296) (w : World) (h0 : ¬ s.size = 0) (h : hE s ≠ 0) :
    Calls Try.prog 22 #[.string s] w fun e w' => e = .returned (.tuple #[.agg #[.int .i64 0, .string ⟨#[]⟩, .string ⟨#[]⟩, .int .i64 0, .int .i64 0, .int .i64 0, .int .i64 0], .int .i64 (hE s)]) ∧ Below w.heap.size w w' := by
  have d : ((s.size : Int) == 0) = false := by rw [beq_eq_false_iff_ne]; omega
  have C1 := fun w => Lib.hid (refHead_calls s hs h0 w)
  generalize hA s = A at *
  generalize hB s = B at *
  generalize hP s = P at *
  generalize hR s = R at *
  generalize hE s = E at *
  have d2 : (E != 0) = true := by simpa using h
  clear h h0
  go_enter Try.func22, Try.ntmps22
  go_wp2_with (go_at_call 39; with_reducible refine (C1 _).out.mono ?_)
  rintro e w1 ⟨rfl, hb1⟩
  have K1 := (Pk.new 42 0 ⟨#[]⟩ ⟨#[]⟩ 0 0 0 0 w).later hb1
  have B1 := bl ((Below.refl w.heap.size w).alloc (Nat.le_refl _) (.cells #[.int .i64 0, .string ⟨#[]⟩, .string ⟨#[]⟩, .int .i64 0, .int .i64 0, .int .i64 0, .int .i64 0] 42)) hb1
  clear hb1
  have K2 := K1.alloc (.cells #[.string A, .string B, .string R, .int .i64 P, .int .i64 E] 74)
  have B2 := B1.alloc B1.size (.cells #[.string A, .string B, .string R, .int .i64 P, .int .i64 E] 74)
  obtain ⟨r0, r1, r2, r3, r4, r5, r6⟩ := K2.cells
  obtain ⟨f0, f1, f2, f3, f4, f5, f6⟩ := K2.frozen
  obtain ⟨s0, s1, s2, s3, s4, s5, s6⟩ := K2.set (.int .i64 0) (.string ⟨#[]⟩) (.string ⟨#[]⟩) (.int .i64 0) (.int .i64 0) (.int .i64 0) (.int .i64 0)
  have lw := (Array.getElem?_eq_some_iff.1 K1).1
  have ne1 : w1.heap.size ≠ w.heap.size := by omega
  have ne2 : w.heap.size ≠ w1.heap.size := by omega
  clear K1 K2 B1 lw
  go_wp2_with fail
  go_region
  all_goals
    go_wp2_with fail
    refine bodyPost_ret (v := .tuple #[.agg #[.int .i64 0, .string ⟨#[]⟩, .string ⟨#[]⟩, .int .i64 0, .int .i64 0, .int .i64 0, .int .i64 0], .int .i64 E]) (by simp [results, Try.results22, go_sem, s0, s1, s2, s3, s4, s5, s6]) rfl ⟨rfl, (below_set7' (Nat.le_refl _) B2 _ _ _ _ _ _ _).drew⟩

set_option maxHeartbeats 2000000 in
set_option maxRecDepth 100000 in
theorem rk_port (s : ByteArray) (hs : s.size ≤ 4294967296) (w : World) (h0 : ¬ s.size = 0) (h : hE s = 0) (h2 : ppE (hP s) (hR s) ≠ 0) :
    Calls Try.prog 22 #[.string s] w fun e w' => e = .returned (.tuple #[.agg #[.int .i64 0, .string ⟨#[]⟩, .string ⟨#[]⟩, .int .i64 0, .int .i64 0, .int .i64 0, .int .i64 0], .int .i64 (ppE (hP s) (hR s))]) ∧ Below w.heap.size w w' := by
  have d : ((s.size : Int) == 0) = false := by rw [beq_eq_false_iff_ne]; omega
  have C1 := fun w => Lib.hid (refHead_calls s hs h0 w)
  rw [h] at C1
  have c2 := refPortParse_calls (hP s) (hR s) (by have := hR_size s; omega)
  generalize ppA (hP s) (hR s) = X at *
  generalize ppB (hP s) (hR s) = Y at *
  generalize ppF (hP s) (hR s) = G at *
  generalize ppE (hP s) (hR s) = U at *
  generalize hA s = A at *
  generalize hB s = B at *
  generalize hP s = P at *
  generalize hR s = R at *
  generalize hE s = E at *
  have d2 : (U != 0) = true := by simpa using h2
  have C2 := fun w => Lib.hid (c2 w)
  clear h h2 c2 h0
  go_enter Try.func22, Try.ntmps22
  go_wp2_with (go_at_call 39; with_reducible refine (C1 _).out.mono ?_)
  rintro e w1 ⟨rfl, hb1⟩
  have K1 := (Pk.new 42 0 ⟨#[]⟩ ⟨#[]⟩ 0 0 0 0 w).later hb1
  have B1 := bl ((Below.refl w.heap.size w).alloc (Nat.le_refl _) (.cells #[.int .i64 0, .string ⟨#[]⟩, .string ⟨#[]⟩, .int .i64 0, .int .i64 0, .int .i64 0, .int .i64 0] 42)) hb1
  clear hb1
  have K2 := K1.alloc (.cells #[.string A, .string B, .string R, .int .i64 P, .int .i64 0] 74)
  have B2 := B1.alloc B1.size (.cells #[.string A, .string B, .string R, .int .i64 P, .int .i64 0] 74)
  clear K1 B1
  go_wp2_with (go_at_call 17; with_reducible refine (C2 _).out.mono ?_)
  rintro e w2 ⟨rfl, hb2⟩
  have K3 := K2.later hb2
  have B3 := bl B2 hb2
  have G3 := (Gb.new 74 A B R P 0 w1).later hb2
  clear hb2 K2 B2
  have K4 := K3.alloc (.cells #[.int .i64 X, .int .i64 Y, .int .i64 G] 28)
  have G4 := G3.alloc (.cells #[.int .i64 X, .int .i64 Y, .int .i64 G] 28)
  have B4 := B3.alloc B3.size (.cells #[.int .i64 X, .int .i64 Y, .int .i64 G] 28)
  clear K3 G3 B3
  obtain ⟨r0, r1, r2, r3, r4, r5, r6⟩ := K4.cells
  obtain ⟨f0, f1, f2, f3, f4, f5, f6⟩ := K4.frozen
  obtain ⟨s0, s1, s2, s3, s4, s5, s6⟩ := K4.set (.int .i64 0) (.string ⟨#[]⟩) (.string ⟨#[]⟩) (.int .i64 0) (.int .i64 0) (.int .i64 0) (.int .i64 0)
  clear K4 G4
  go_wp2_with fail
  refine bodyPost_ret (v := .tuple #[.agg #[.int .i64 0, .string ⟨#[]⟩, .string ⟨#[]⟩, .int .i64 0, .int .i64 0, .int .i64 0, .int .i64 0], .int .i64 U]) (by simp [results, Try.results22, go_sem, s0, s1, s2, s3, s4, s5, s6]) rfl ⟨rfl, below_set7' (Nat.le_refl _) B4 _ _ _ _ _ _ _⟩

theorem hV_ver {s : ByteArray} (h0 : ¬ s.size = 0) (h : hE s = 0) : hV s = ((verN s : Nat) : Int) := by
  unfold hE at h
  rw [if_neg h0] at h
  unfold hV
  by_cases h4 : verN s = 4
  · rw [if_pos h4, h4]; rfl
  · rw [if_neg h4] at h ⊢
    by_cases h6 : verN s = 6
    · rw [if_pos h6, h6]; rfl
    · rw [if_neg h6] at h; exact absurd h (by decide)

set_option maxHeartbeats 2000000 in
set_option maxRecDepth 100000 in
theorem rk_ok (s : ByteArray) (hs : s.size ≤ 4294967296) (w : World) (h0 : ¬ s.size = 0) (h : hE s = 0) (h2 : ppE (hP s) (hR s) = 0) :
    Calls Try.prog 22 #[.string s] w fun e w' => e = .returned (.tuple #[.agg #[.int .i64 (hV s), .string (hA s), .string (hB s), .int .i64 (ppA (hP s) (hR s)), .int .i64 (ppB (hP s) (hR s)), .int .i64 (hP s), .int .i64 (ppF (hP s) (hR s))], .int .i64 0]) ∧ Below w.heap.size w w' := by
  have d : ((s.size : Int) == 0) = false := by rw [beq_eq_false_iff_ne]; omega
  have C1 := fun w => Lib.hid (refHead_calls s hs h0 w)
  have hv := hV_ver h0 h
  rw [h] at C1
  have c2 := refPortParse_calls (hP s) (hR s) (by have := hR_size s; omega)
  generalize ppA (hP s) (hR s) = X at *
  generalize ppB (hP s) (hR s) = Y at *
  generalize ppF (hP s) (hR s) = G at *
  rw [h2] at c2
  have C2 := fun w => Lib.hid (c2 w)
  have g0 : 0 < s.size := by omega
  have e0 := byteN_get s 0 g0
  have hb := byteN_lt s 0
  have hb16 : (byteN s 0 : Int) / 16 % 256 = (byteN s 0 : Int) / 16 := by omega
  have hvi : (byteN s 0 : Int) / 16 = hV s := by rw [hv]; unfold verN; omega
  have hw16 : wrap64 (hV s) = hV s := by rw [← hvi]; unfold wrap64; omega
  have hw17 : IntKind.i64.wrap (hV s) = hV s := by rw [← hvi]; exact IntWalk.i64_in _ (by omega)
  generalize hV s = V at *
  generalize hA s = A at *
  generalize hB s = B at *
  generalize hP s = P at *
  generalize hR s = R at *
  generalize hE s = E at *
  clear h h2 c2 h0 hv
  go_enter Try.func22, Try.ntmps22
  go_wp2_with (go_at_call 39; with_reducible refine (C1 _).out.mono ?_)
  rintro e w1 ⟨rfl, hb1⟩
  have K1 := (Pk.new 42 0 ⟨#[]⟩ ⟨#[]⟩ 0 0 0 0 w).later hb1
  have B1 := bl ((Below.refl w.heap.size w).alloc (Nat.le_refl _) (.cells #[.int .i64 0, .string ⟨#[]⟩, .string ⟨#[]⟩, .int .i64 0, .int .i64 0, .int .i64 0, .int .i64 0] 42)) hb1
  clear hb1
  have K2 := K1.alloc (.cells #[.string A, .string B, .string R, .int .i64 P, .int .i64 0] 74)
  have B2 := B1.alloc B1.size (.cells #[.string A, .string B, .string R, .int .i64 P, .int .i64 0] 74)
  clear K1 B1
  go_wp2_with (go_at_call 17; with_reducible refine (C2 _).out.mono ?_)
  rintro e w2 ⟨rfl, hb2⟩
  have K3 := K2.later hb2
  have B3 := bl B2 hb2
  have G3 := (Gb.new 74 A B R P 0 w1).later hb2
  clear hb2 K2 B2
  have K4 := K3.alloc (.cells #[.int .i64 X, .int .i64 Y, .int .i64 G] 28)
  have G4 := G3.alloc (.cells #[.int .i64 X, .int .i64 Y, .int .i64 G] 28)
  have B4 := B3.alloc B3.size (.cells #[.int .i64 X, .int .i64 Y, .int .i64 G] 28)
  clear K3 G3 B3
  have T4 := Tri.new 28 X Y G w2
  obtain ⟨W4, hW4⟩ : ∃ W4 : World, W4 = w2.alloc (.cells #[.int .i64 X, .int .i64 Y, .int .i64 G] 28) := ⟨_, rfl⟩
  rw [← hW4] at K4 G4 B4 T4
  obtain ⟨W5, hW5⟩ : ∃ W5 : World, W5 = (W4.alloc (.cells #[.int .i64 V, .string A, .string B, .int .i64 X, .int .i64 Y, .int .i64 P] 40)).drew := ⟨_, rfl⟩
  have K5 := (K4.alloc (.cells #[.int .i64 V, .string A, .string B, .int .i64 X, .int .i64 Y, .int .i64 P] 40)).drew
  have B5 := (B4.alloc B4.size (.cells #[.int .i64 V, .string A, .string B, .int .i64 X, .int .i64 Y, .int .i64 P] 40)).drew
  have T5 := (T4.alloc' (.cells #[.int .i64 V, .string A, .string B, .int .i64 X, .int .i64 Y, .int .i64 P] 40)).drew
  have Y5 := (Ky.new 40 V A B X Y P W4).drew
  rw [← hW5] at K5 B5 T5 Y5
  have HW5 := Lib.hid hW5
  have HW4 := Lib.hid hW4
  obtain ⟨x0, x1, _, _, _, _⟩ := T4.cells
  obtain ⟨y0, y1, y2, y3, y4⟩ := G4.cells
  obtain ⟨u0, u1, _, _, _, _⟩ := (T4.alloc' (.cells #[.int .i64 0, .string ⟨#[]⟩, .string ⟨#[]⟩, .int .i64 0, .int .i64 0, .int .i64 0] 40)).cells
  obtain ⟨v0, v1, v2, v3, v4⟩ := (G4.alloc (.cells #[.int .i64 0, .string ⟨#[]⟩, .string ⟨#[]⟩, .int .i64 0, .int .i64 0, .int .i64 0] 40)).cells
  clear hW5 hW4 K4 B4 T4 G4
  go_wp2_with fail
  rw [← HW4.out]
  go_region
  all_goals
    rw [← HW5.out]
    clear HW5 HW4 x0 x1 y0 y1 y2 y3 y4 u0 u1 v0 v1 v2 v3 v4
    obtain ⟨y0, y1, y2, y3, y4, y5⟩ := Y5.cells
    obtain ⟨_, _, z2, _, _, _⟩ := T5.cells
    obtain ⟨r0, r1, r2, r3, r4, r5, r6⟩ := K5.cells
    obtain ⟨f0, f1, f2, f3, f4, f5, f6⟩ := K5.frozen
    obtain ⟨s0, s1, s2, s3, s4, s5, s6⟩ := K5.set (.int .i64 V) (.string A) (.string B) (.int .i64 X) (.int .i64 Y) (.int .i64 P) (.int .i64 G)
    clear Y5 T5 K5
    go_wp2_with fail
    refine bodyPost_ret (v := .tuple #[.agg #[.int .i64 V, .string A, .string B, .int .i64 X, .int .i64 Y, .int .i64 P, .int .i64 G], .int .i64 0]) (by simp [results, Try.results22, go_sem, s0, s1, s2, s3, s4, s5, s6]) rfl ⟨rfl, below_set7' (Nat.le_refl _) B5 _ _ _ _ _ _ _⟩


theorem hE_empty {s : ByteArray} (h : s.size = 0) : hE s = 2 := by unfold hE; rw [if_pos h]
theorem refPacketParse_calls (s : ByteArray) (hs : s.size ≤ 4294967296) (w : World) :
    Calls Try.prog 22 #[.string s] w fun e w' => e = .returned (.tuple #[.agg #[.int .i64 (kV s), .string (kA s), .string (kB s), .int .i64 (kF s), .int .i64 (kT s), .int .i64 (kP s), .int .i64 (kG s)], .int .i64 (kE s)]) ∧ Below w.heap.size w w' := by
  unfold kV kA kB kF kT kP kG
  by_cases h0 : s.size = 0
  · have e : kE s = 2 := by unfold kE; rw [hE_empty h0]; rfl
    have e0 : kE s ≠ 0 := by rw [e]; decide
    rw [if_neg e0, if_neg e0, if_neg e0, if_neg e0, if_neg e0, if_neg e0, if_neg e0, e]
    exact rk_empty s hs w h0
  · by_cases h : hE s = 0
    · have e : kE s = ppE (hP s) (hR s) := by unfold kE; rw [if_pos h]
      by_cases h2 : ppE (hP s) (hR s) = 0
      · have e0 : kE s = 0 := e.trans h2
        rw [if_pos e0, if_pos e0, if_pos e0, if_pos e0, if_pos e0, if_pos e0, if_pos e0, e0]
        exact rk_ok s hs w h0 h h2
      · have e0 : kE s ≠ 0 := by rw [e]; exact h2
        rw [if_neg e0, if_neg e0, if_neg e0, if_neg e0, if_neg e0, if_neg e0, if_neg e0, e]
        exact rk_port s hs w h0 h h2
    · have e : kE s = hE s := by unfold kE; rw [if_neg h]
      have e0 : kE s ≠ 0 := by rw [e]; exact h
      rw [if_neg e0, if_neg e0, if_neg e0, if_neg e0, if_neg e0, if_neg e0, if_neg e0, e]
      exact rk_head s hs w h0 h
end Go.Proofs.Ytjfijllnmjajpaa
