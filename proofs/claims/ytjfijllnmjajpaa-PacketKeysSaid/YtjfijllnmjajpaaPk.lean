/- packet.Parse: what it answers. -/
import Derived.WalkKit
import Derived.Deep.Cut
import Derived.StillTailTactics
import Derived.Lib.Hide
import Derived.Laws.IdiomStrings
import Derived.Test.YtjfijllnmjajpaaKd
set_option linter.unusedSimpArgs false
set_option linter.unusedVariables false
namespace Go.Proofs.Ytjfijllnmjajpaa
open Go.RowKit Go.BigFrame

theorem Ky.drew {T n : Nat} {v : Int} {a b : ByteArray} {f t p : Int} {w : World} (h : Ky T n v a b f t p w) : Ky T n v a b f t p w.drew := h
theorem Pk.drew {T n : Nat} {v : Int} {a b : ByteArray} {f t p g : Int} {w : World} (h : Pk T n v a b f t p g w) : Pk T n v a b f t p g w.drew := h
theorem Tri.drew {T n : Nat} {a b c : Int} {w : World} (h : Tri T n a b c w) : Tri T n a b c w.drew := h
theorem Ky.set34 {T n : Nat} {v : Int} {a b : ByteArray} {f t p : Int} {w : World} (h : Ky T n v a b f t p w) (x y : Int) : Ky T n v a b x y p ((w.setCell ⟨n, 3, none⟩ (.int .i64 x)).setCell ⟨n, 4, none⟩ (.int .i64 y)) := by
  unfold Ky at h ⊢
  simp [World.setCell, Array.getElem?_modify, h]
theorem Pk.other {T n m : Nat} {v : Int} {a b : ByteArray} {f t p g : Int} {w : World} (h : Pk T n v a b f t p g w) (hn : n ≠ m) (i : Nat) (x : Value) : Pk T n v a b f t p g (w.setCell ⟨m, i, none⟩ x) :=
  (Below.heap_setCell _ _ _ _ hn).trans h
theorem Tri.other {T n m : Nat} {a b c : Int} {w : World} (h : Tri T n a b c w) (hn : n ≠ m) (i : Nat) (x : Value) : Tri T n a b c (w.setCell ⟨m, i, none⟩ x) :=
  (Below.heap_setCell _ _ _ _ hn).trans h
theorem below_set2 {w W : World} {n : Nat} (hn : w.heap.size ≤ n) (h : Below w.heap.size w W) (i j : Nat) (x y : Value) : Below w.heap.size w ((W.setCell ⟨n, i, none⟩ x).setCell ⟨n, j, none⟩ y) :=
  (h.setCell (p := ⟨n, i, none⟩) hn x).setCell (p := ⟨n, j, none⟩) hn y

set_option maxHeartbeats 2000000 in
set_option maxRecDepth 100000 in
theorem pk_head (s : ByteArray) (hs : s.size ≤ 4294967296) (w : World) (h : hE s ≠ 0) :
    Calls Try.prog 21 #[.string s] w fun e w' => e = .returned (.tuple #[.agg #[.int .i64 0, .string ⟨#[]⟩, .string ⟨#[]⟩, .int .i64 0, .int .i64 0, .int .i64 0, .int .i64 0], .int .i64 (hE s)]) ∧ Below w.heap.size w w' := by
  have C1 := fun w => Lib.hid (keyed_calls s hs w)
  generalize hV s = V at *
  generalize hA s = A at *
  generalize hB s = B at *
  generalize hP s = P at *
  generalize hR s = R at *
  generalize hE s = E at *
  have d : (E != 0) = true := by simpa using h
  clear h
  go_enter Try.func21, Try.ntmps21
  go_wp2_with (go_at_call 38; with_reducible refine (C1 _).out.mono ?_)
  rintro e w1 ⟨rfl, hb1⟩
  have K1 := (Pk.new 42 0 ⟨#[]⟩ ⟨#[]⟩ 0 0 0 0 w).later hb1
  have B1 := bl ((Below.refl w.heap.size w).alloc (Nat.le_refl _) (.cells #[.int .i64 0, .string ⟨#[]⟩, .string ⟨#[]⟩, .int .i64 0, .int .i64 0, .int .i64 0, .int .i64 0] 42)) hb1
  have lw := (Array.getElem?_eq_some_iff.1 K1).1
  clear hb1
  clear lw
  have K2 := K1.alloc (.cells #[.int .i64 V, .string A, .string B, .int .i64 0, .int .i64 0, .int .i64 P] 40)
  have B2 := B1.alloc B1.size (.cells #[.int .i64 V, .string A, .string B, .int .i64 0, .int .i64 0, .int .i64 P] 40)
  obtain ⟨r0, r1, r2, r3, r4, r5, r6⟩ := K2.cells
  obtain ⟨f0, f1, f2, f3, f4, f5, f6⟩ := K2.frozen
  obtain ⟨s0, s1, s2, s3, s4, s5, s6⟩ := K2.set (.int .i64 0) (.string ⟨#[]⟩) (.string ⟨#[]⟩) (.int .i64 0) (.int .i64 0) (.int .i64 0) (.int .i64 0)
  go_wp2_with fail
  refine bodyPost_ret (v := .tuple #[.agg #[.int .i64 0, .string ⟨#[]⟩, .string ⟨#[]⟩, .int .i64 0, .int .i64 0, .int .i64 0, .int .i64 0], .int .i64 E]) (by simp [results, Try.results21, go_sem, s0, s1, s2, s3, s4, s5, s6]) rfl ⟨rfl, below_set7' (Nat.le_refl _) B2 _ _ _ _ _ _ _⟩

set_option maxHeartbeats 2000000 in
set_option maxRecDepth 100000 in
theorem pk_port (s : ByteArray) (hs : s.size ≤ 4294967296) (w : World) (h : hE s = 0) (h2 : ppE (hP s) (hR s) ≠ 0) :
    Calls Try.prog 21 #[.string s] w fun e w' => e = .returned (.tuple #[.agg #[.int .i64 0, .string ⟨#[]⟩, .string ⟨#[]⟩, .int .i64 0, .int .i64 0, .int .i64 0, .int .i64 0], .int .i64 (ppE (hP s) (hR s))]) ∧ Below w.heap.size w w' := by
  have C1 := fun w => Lib.hid (keyed_calls s hs w)
  rw [h] at C1
  have c2 := portParse_calls (hP s) (hR s) (by have := hR_size s; omega)
  generalize ppA (hP s) (hR s) = X at *
  generalize ppB (hP s) (hR s) = Y at *
  generalize ppF (hP s) (hR s) = G at *
  generalize ppE (hP s) (hR s) = U at *
  generalize hV s = V at *
  generalize hA s = A at *
  generalize hB s = B at *
  generalize hP s = P at *
  generalize hR s = R at *
  generalize hE s = E at *
  have d : (U != 0) = true := by simpa using h2
  have C2 := fun w => Lib.hid (c2 w)
  clear h h2 c2
  go_enter Try.func21, Try.ntmps21
  go_wp2_with (go_at_call 38; with_reducible refine (C1 _).out.mono ?_)
  rintro e w1 ⟨rfl, hb1⟩
  have K1 := (Pk.new 42 0 ⟨#[]⟩ ⟨#[]⟩ 0 0 0 0 w).later hb1
  have B1 := bl ((Below.refl w.heap.size w).alloc (Nat.le_refl _) (.cells #[.int .i64 0, .string ⟨#[]⟩, .string ⟨#[]⟩, .int .i64 0, .int .i64 0, .int .i64 0, .int .i64 0] 42)) hb1
  have lw := (Array.getElem?_eq_some_iff.1 K1).1
  clear hb1
  have K2 := K1.alloc (.cells #[.int .i64 V, .string A, .string B, .int .i64 0, .int .i64 0, .int .i64 P] 40)
  have B2 := B1.alloc B1.size (.cells #[.int .i64 V, .string A, .string B, .int .i64 0, .int .i64 0, .int .i64 P] 40)
  go_wp2_with (go_at_call 16; with_reducible refine (C2 _).out.mono ?_)
  rintro e w2 ⟨rfl, hb2⟩
  have K3 := K2.later hb2
  have B3 := bl B2 hb2
  have Y3 := (Ky.new 40 V A B 0 0 P w1).later hb2
  clear hb2 K1 K2 B1 B2
  have K4 := K3.alloc (.cells #[.int .i64 X, .int .i64 Y, .int .i64 G] 24)
  have Y4 := Y3.alloc (.cells #[.int .i64 X, .int .i64 Y, .int .i64 G] 24)
  have B4 := B3.alloc B3.size (.cells #[.int .i64 X, .int .i64 Y, .int .i64 G] 24)
  clear K3 Y3 B3 lw
  obtain ⟨r0, r1, r2, r3, r4, r5, r6⟩ := K4.cells
  obtain ⟨f0, f1, f2, f3, f4, f5, f6⟩ := K4.frozen
  obtain ⟨s0, s1, s2, s3, s4, s5, s6⟩ := K4.set (.int .i64 0) (.string ⟨#[]⟩) (.string ⟨#[]⟩) (.int .i64 0) (.int .i64 0) (.int .i64 0) (.int .i64 0)
  go_wp2_with fail
  refine bodyPost_ret (v := .tuple #[.agg #[.int .i64 0, .string ⟨#[]⟩, .string ⟨#[]⟩, .int .i64 0, .int .i64 0, .int .i64 0, .int .i64 0], .int .i64 U]) (by simp [results, Try.results21, go_sem, s0, s1, s2, s3, s4, s5, s6]) rfl ⟨rfl, below_set7' (Nat.le_refl _) B4 _ _ _ _ _ _ _⟩

set_option maxHeartbeats 2000000 in
set_option maxRecDepth 100000 in
theorem pk_ok (s : ByteArray) (hs : s.size ≤ 4294967296) (w : World) (h : hE s = 0) (h2 : ppE (hP s) (hR s) = 0) :
    Calls Try.prog 21 #[.string s] w fun e w' => e = .returned (.tuple #[.agg #[.int .i64 (hV s), .string (hA s), .string (hB s), .int .i64 (ppA (hP s) (hR s)), .int .i64 (ppB (hP s) (hR s)), .int .i64 (hP s), .int .i64 (ppF (hP s) (hR s))], .int .i64 0]) ∧ Below w.heap.size w w' := by
  have C1 := fun w => Lib.hid (keyed_calls s hs w)
  rw [h] at C1
  have c2 := portParse_calls (hP s) (hR s) (by have := hR_size s; omega)
  rw [h2] at c2
  generalize ppA (hP s) (hR s) = X at *
  generalize ppB (hP s) (hR s) = Y at *
  generalize ppF (hP s) (hR s) = G at *
  generalize hV s = V at *
  generalize hA s = A at *
  generalize hB s = B at *
  generalize hP s = P at *
  generalize hR s = R at *
  generalize hE s = E at *
  have C2 := fun w => Lib.hid (c2 w)
  clear h h2 c2
  go_enter Try.func21, Try.ntmps21
  go_wp2_with (go_at_call 38; with_reducible refine (C1 _).out.mono ?_)
  rintro e w1 ⟨rfl, hb1⟩
  have K1 := (Pk.new 42 0 ⟨#[]⟩ ⟨#[]⟩ 0 0 0 0 w).later hb1
  have B1 := bl ((Below.refl w.heap.size w).alloc (Nat.le_refl _) (.cells #[.int .i64 0, .string ⟨#[]⟩, .string ⟨#[]⟩, .int .i64 0, .int .i64 0, .int .i64 0, .int .i64 0] 42)) hb1
  have lw := (Array.getElem?_eq_some_iff.1 K1).1
  clear hb1
  have K2 := K1.alloc (.cells #[.int .i64 V, .string A, .string B, .int .i64 0, .int .i64 0, .int .i64 P] 40)
  have B2 := B1.alloc B1.size (.cells #[.int .i64 V, .string A, .string B, .int .i64 0, .int .i64 0, .int .i64 P] 40)
  go_wp2_with (go_at_call 16; with_reducible refine (C2 _).out.mono ?_)
  rintro e w2 ⟨rfl, hb2⟩
  have K3 := K2.later hb2
  have B3 := bl B2 hb2
  have Y3 := (Ky.new 40 V A B 0 0 P w1).later hb2
  clear hb2 K1 K2 B1 B2
  have K4 := K3.alloc (.cells #[.int .i64 X, .int .i64 Y, .int .i64 G] 24)
  have Y4 := Y3.alloc (.cells #[.int .i64 X, .int .i64 Y, .int .i64 G] 24)
  have B4 := B3.alloc B3.size (.cells #[.int .i64 X, .int .i64 Y, .int .i64 G] 24)
  have T4 := Tri.new 24 X Y G w2
  have l0 := (Array.getElem?_eq_some_iff.1 K3).1
  have l1 := Y3.lt
  have ne0 : w.heap.size ≠ w1.heap.size := by omega
  have ne1 : w2.heap.size ≠ w1.heap.size := by omega
  have ne2 : w1.heap.size ≠ w2.heap.size := by omega
  have le1 : w.heap.size ≤ w1.heap.size := by omega
  obtain ⟨W4, hW4⟩ : ∃ W4 : World, W4 = w2.alloc (.cells #[.int .i64 X, .int .i64 Y, .int .i64 G] 24) := ⟨_, rfl⟩
  have Y5 := (Y4.set34 X Y).drew
  have K5 := ((K4.other ne0 3 (.int .i64 X)).other ne0 4 (.int .i64 Y)).drew
  have T5 := ((T4.other ne1 3 (.int .i64 X)).other ne1 4 (.int .i64 Y)).drew
  have B5 := (below_set2 le1 B4 3 4 (.int .i64 X) (.int .i64 Y)).drew
  rw [← hW4] at Y4 T4 K4 B4 Y5 K5 T5 B5
  obtain ⟨W5, hW5⟩ : ∃ W5 : World, W5 = ((W4.setCell ⟨w1.heap.size, 3, none⟩ (.int .i64 X)).setCell ⟨w1.heap.size, 4, none⟩ (.int .i64 Y)).drew := ⟨_, rfl⟩
  rw [← hW5] at Y5 K5 T5 B5
  have HW5 := Lib.hid hW5
  have HW4 := Lib.hid hW4
  obtain ⟨y0, y1, y2, y3, y4, y5⟩ := Y4.cells
  obtain ⟨g0, g1, g2, g3, g4, g5⟩ := Y4.frozen
  obtain ⟨z0, z1, z2, _, _, _⟩ := T4.cells
  clear K3 Y3 B3 hW5 hW4 l0 l1 lw ne0 ne1 le1 Y4 T4 K4 B4
  go_wp2_with fail
  rw [← HW4.out]
  go_region
  all_goals
    rw [← HW5.out]
    clear HW5 y0 y1 y2 y3 y4 y5 g0 g1 g2 g3 g4 g5 z0 z1 z2 HW4 ne2
    obtain ⟨y0, y1, y2, y3, y4, y5⟩ := Y5.cells
    obtain ⟨_, _, z2, _, _, _⟩ := T5.cells
    obtain ⟨r0, r1, r2, r3, r4, r5, r6⟩ := K5.cells
    obtain ⟨f0, f1, f2, f3, f4, f5, f6⟩ := K5.frozen
    obtain ⟨s0, s1, s2, s3, s4, s5, s6⟩ := K5.set (.int .i64 V) (.string A) (.string B) (.int .i64 X) (.int .i64 Y) (.int .i64 P) (.int .i64 G)
    clear Y5 T5 K5
    go_wp2_with fail
    refine bodyPost_ret (v := .tuple #[.agg #[.int .i64 V, .string A, .string B, .int .i64 X, .int .i64 Y, .int .i64 P, .int .i64 G], .int .i64 0]) (by simp [results, Try.results21, go_sem, s0, s1, s2, s3, s4, s5, s6]) rfl ⟨rfl, below_set7' (Nat.le_refl _) B5 _ _ _ _ _ _ _⟩

theorem packetParse_calls (s : ByteArray) (hs : s.size ≤ 4294967296) (w : World) :
    Calls Try.prog 21 #[.string s] w fun e w' => e = .returned (.tuple #[.agg #[.int .i64 (kV s), .string (kA s), .string (kB s), .int .i64 (kF s), .int .i64 (kT s), .int .i64 (kP s), .int .i64 (kG s)], .int .i64 (kE s)]) ∧ Below w.heap.size w w' := by
  unfold kV kA kB kF kT kP kG
  by_cases h : hE s = 0
  · have e : kE s = ppE (hP s) (hR s) := by unfold kE; rw [if_pos h]
    by_cases h2 : ppE (hP s) (hR s) = 0
    · have e0 : kE s = 0 := e.trans h2
      rw [if_pos e0, if_pos e0, if_pos e0, if_pos e0, if_pos e0, if_pos e0, if_pos e0, e0]
      exact pk_ok s hs w h h2
    · have e0 : kE s ≠ 0 := by rw [e]; exact h2
      rw [if_neg e0, if_neg e0, if_neg e0, if_neg e0, if_neg e0, if_neg e0, if_neg e0, e]
      exact pk_port s hs w h h2
  · have e : kE s = hE s := by unfold kE; rw [if_neg h]
    have e0 : kE s ≠ 0 := by rw [e]; exact h
    rw [if_neg e0, if_neg e0, if_neg e0, if_neg e0, if_neg e0, if_neg e0, if_neg e0, e]
    exact pk_head s hs w h
end Go.Proofs.Ytjfijllnmjajpaa
