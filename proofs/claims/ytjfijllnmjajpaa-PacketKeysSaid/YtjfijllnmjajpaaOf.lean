/- packet.Of: what it answers. -/
import Derived.WalkKit
import Derived.BigRegion
import Derived.Deep.Cut
import Derived.StillTailTactics
import Derived.Lib.Hide
import Derived.Laws.IdiomStrings
import Derived.Test.YtjfijllnmjajpaaPk
set_option linter.unusedSimpArgs false
set_option linter.unusedVariables false
namespace Go.Proofs.Ytjfijllnmjajpaa
open Go.RowKit Go.BigFrame

theorem Ky.setall {T n : Nat} {v : Int} {a b : ByteArray} {f t p : Int} {w : World} (h : Ky T n v a b f t p w) (v2 : Int) (a2 b2 : ByteArray) (f2 t2 p2 : Int) : Ky T n v2 a2 b2 f2 t2 p2 ((((((w.setCell ⟨n, 0, none⟩ (.int .i64 v2)).setCell ⟨n, 1, none⟩ (.string a2)).setCell ⟨n, 2, none⟩ (.string b2)).setCell ⟨n, 3, none⟩ (.int .i64 f2)).setCell ⟨n, 4, none⟩ (.int .i64 t2)).setCell ⟨n, 5, none⟩ (.int .i64 p2)) := by
  unfold Ky at h ⊢
  simp [World.setCell, Array.getElem?_modify, h]
theorem Ky.other {T n m : Nat} {v : Int} {a b : ByteArray} {f t p : Int} {w : World} (h : Ky T n v a b f t p w) (hn : n ≠ m) (i : Nat) (x : Value) : Ky T n v a b f t p (w.setCell ⟨m, i, none⟩ x) :=
  (Below.heap_setCell _ _ _ _ hn).trans h
theorem Ky.others {T n m : Nat} {v : Int} {a b : ByteArray} {f t p : Int} {w : World} (h : Ky T n v a b f t p w) (hn : n ≠ m) (v2 : Int) (a2 b2 : ByteArray) (f2 t2 p2 : Int) : Ky T n v a b f t p ((((((w.setCell ⟨m, 0, none⟩ (.int .i64 v2)).setCell ⟨m, 1, none⟩ (.string a2)).setCell ⟨m, 2, none⟩ (.string b2)).setCell ⟨m, 3, none⟩ (.int .i64 f2)).setCell ⟨m, 4, none⟩ (.int .i64 t2)).setCell ⟨m, 5, none⟩ (.int .i64 p2)) :=
  (((((h.other hn _ _).other hn _ _).other hn _ _).other hn _ _).other hn _ _).other hn _ _

set_option maxHeartbeats 4000000 in
set_option maxRecDepth 100000 in
theorem of_short (b : ByteArray) (hs : b.size ≤ 4294967296) (w : World) (h : ¬ b.size = 38) :
    Calls Try.prog 30 #[.string b] w fun e w' => e = .returned (.tuple #[.agg #[.int .i64 0, .string ⟨#[]⟩, .string ⟨#[]⟩, .int .i64 0, .int .i64 0, .int .i64 0], .bool false]) ∧ Below w.heap.size w w' := by
  have d : ((b.size : Int) != 38) = true := by rw [bne_iff_ne]; omega
  clear h
  go_enter Try.func30, Try.ntmps30
  go_wp2
  refine bodyPost_ret (v := .tuple #[.agg #[.int .i64 0, .string ⟨#[]⟩, .string ⟨#[]⟩, .int .i64 0, .int .i64 0, .int .i64 0], .bool false]) (by simp [results, Try.results30, go_sem]) rfl ⟨rfl, (Below.refl _ _).alloc (Nat.le_refl _) _⟩

set_option maxHeartbeats 4000000 in
set_option maxRecDepth 100000 in
theorem of_4good (b : ByteArray) (hs : b.size ≤ 4294967296) (w : World) (h : b.size = 38) (hv : byteN b 0 = 4) (hG : (bR 4 (b.extract 6 10) (b.extract 22 26) (getV b 2 2) (getV b 4 2) (byteN b 1) = true ∧ bS 4 (b.extract 6 10) (b.extract 22 26) (getV b 2 2) (getV b 4 2) (byteN b 1) = b)) :
    Calls Try.prog 30 #[.string b] w fun e w' => e = .returned (.tuple #[.agg #[.int .i64 4, .string (b.extract 6 10), .string (b.extract 22 26), .int .i64 (getV b 2 2), .int .i64 (getV b 4 2), .int .i64 (byteN b 1)], .bool true]) ∧ Below w.heap.size w w' := by
  have d : ((b.size : Int) != 38) = false := by rw [bne_eq_false_iff_eq]; omega
  have g0 : 0 < b.size := by omega
  have g1 : 1 < b.size := by omega
  have e0 : b[0].toNat = 4 := (byteN_get b 0 g0).trans hv
  have e1 := byteN_get b 1 g1
  have hb1 := byteN_lt b 1
  have hw1 : wrap64 (byteN b 1 : Int) = (byteN b 1 : Int) := by unfold wrap64; omega
  have x1 : (10 : Int) ≤ (b.size : Int) := by omega
  have x2 : (26 : Int) ≤ (b.size : Int) := by omega
  have bA := getV2_bd b 2
  have bB := getV2_bd b 4
  have C1 := fun w => Lib.hid (Get_calls b 2 2 (by omega) w)
  have C2 := fun w => Lib.hid (Get_calls b 4 2 (by omega) w)
  have c3 := long_calls 4
  have C3 : ∀ w : World, Hid (Calls Try.prog 44 #[.int .i64 4] w fun e w' => e = .returned (.int .i64 4) ∧ w = w') := fun w => Lib.hid (c3 w)
  have c4 := bytes_calls 4 (b.extract 6 10) (b.extract 22 26) (getV b 2 2) (getV b 4 2) (byteN b 1) (by rw [ByteArray.size_extract]; omega) (by rw [ByteArray.size_extract]; omega)
  generalize bS 4 (b.extract 6 10) (b.extract 22 26) (getV b 2 2) (getV b 4 2) (byteN b 1) = S at *
  generalize bR 4 (b.extract 6 10) (b.extract 22 26) (getV b 2 2) (getV b 4 2) (byteN b 1) = R at *
  have C4 := fun w => Lib.hid (c4 w)
  clear c4
  generalize getV b 2 2 = X at *
  generalize getV b 4 2 = Y at *
  generalize getB b 2 2 = G0 at *
  generalize getB b 4 2 = G2 at *
  have hwX : IntKind.i64.wrap X = X := IntWalk.i64_in _ (by omega)
  have hwY : IntKind.i64.wrap Y = Y := IntWalk.i64_in _ (by omega)
  clear bA bB c3 h hv
  go_enter Try.func30, Try.ntmps30
  go_wp2_with (go_at_call 33; with_reducible refine (C1 _).out.mono ?_)
  rintro e w1 ⟨rfl, hb1⟩
  go_wp2_with (go_at_call 33; with_reducible refine (C2 _).out.mono ?_)
  rintro e w2 ⟨rfl, hb2⟩
  have K0 := ((Ky.new 40 0 ⟨#[]⟩ ⟨#[]⟩ 0 0 0 w).later hb1).later hb2
  have B0 := bl (bl ((Below.refl w.heap.size w).alloc (Nat.le_refl _) (.cells #[.int .i64 0, .string ⟨#[]⟩, .string ⟨#[]⟩, .int .i64 0, .int .i64 0, .int .i64 0] 40)) hb1) hb2
  clear hb1 hb2
  go_wp2_with (go_at_call 44; with_reducible refine (C3 _).out.mono ?_)
  rintro e w3 ⟨rfl, rfl⟩
  go_wp2_with fail
  go_region
  all_goals
    go_wp2_with (go_at_call 28; with_reducible refine (C4 _).out.mono ?_)
    rintro e w4 ⟨rfl, hb4⟩
    have Y1 := ((Ky.new 40 4 (b.extract 6 10) (b.extract 22 26) X Y (byteN b 1) w2).drew).later hb4
    have K1 := ((K0.alloc (.cells #[.int .i64 4, .string (b.extract 6 10), .string (b.extract 22 26), .int .i64 X, .int .i64 Y, .int .i64 (byteN b 1)] 40)).drew).later hb4
    have B1 := bl (B0.alloc B0.size (.cells #[.int .i64 4, .string (b.extract 6 10), .string (b.extract 22 26), .int .i64 X, .int .i64 Y, .int .i64 (byteN b 1)] 40)).drew hb4
    have l0 := K0.lt
    have ne1 : w.heap.size ≠ w2.heap.size := by omega
    have ne2 : w2.heap.size ≠ w.heap.size := by omega
    have le2 : w.heap.size ≤ w2.heap.size := by omega
    clear hb4 K0 B0 l0
    obtain ⟨y0, y1, y2, y3, y4, y5⟩ := Y1.cells
    obtain ⟨z0, z1, z2, z3, z4, z5⟩ := Y1.frozen
    obtain ⟨r0, r1, r2, r3, r4, r5⟩ := K1.cells
    obtain ⟨f0, f1, f2, f3, f4, f5⟩ := K1.frozen
    have hS : (S.toList == b.toList) = true := by rw [hG.2]; exact beq_self_eq_true _
    obtain ⟨hR, hS2⟩ := hG
    subst hR
    obtain ⟨s0, s1, s2, s3, s4, s5⟩ := K1.set (.int .i64 4) (.string (b.extract 6 10)) (.string (b.extract 22 26)) (.int .i64 X) (.int .i64 Y) (.int .i64 (byteN b 1))
    clear Y1 K1 le2 hS2
    go_wp2_with fail
    go_region
    all_goals
      go_wp2_with fail
      refine bodyPost_ret (v := .tuple #[.agg #[.int .i64 4, .string (b.extract 6 10), .string (b.extract 22 26), .int .i64 X, .int .i64 Y, .int .i64 (byteN b 1)], .bool true]) (by simp [results, Try.results30, go_sem, s0, s1, s2, s3, s4, s5]) rfl ⟨rfl, (below_set6' (Nat.le_refl _) B1 _ _ _ _ _ _).drew⟩

set_option maxHeartbeats 4000000 in
set_option maxRecDepth 100000 in
theorem of_4bad (b : ByteArray) (hs : b.size ≤ 4294967296) (w : World) (h : b.size = 38) (hv : byteN b 0 = 4) (hG : ¬ (bR 4 (b.extract 6 10) (b.extract 22 26) (getV b 2 2) (getV b 4 2) (byteN b 1) = true ∧ bS 4 (b.extract 6 10) (b.extract 22 26) (getV b 2 2) (getV b 4 2) (byteN b 1) = b)) :
    Calls Try.prog 30 #[.string b] w fun e w' => e = .returned (.tuple #[.agg #[.int .i64 0, .string ⟨#[]⟩, .string ⟨#[]⟩, .int .i64 0, .int .i64 0, .int .i64 0], .bool false]) ∧ Below w.heap.size w w' := by
  have d : ((b.size : Int) != 38) = false := by rw [bne_eq_false_iff_eq]; omega
  have g0 : 0 < b.size := by omega
  have g1 : 1 < b.size := by omega
  have e0 : b[0].toNat = 4 := (byteN_get b 0 g0).trans hv
  have e1 := byteN_get b 1 g1
  have hb1 := byteN_lt b 1
  have hw1 : wrap64 (byteN b 1 : Int) = (byteN b 1 : Int) := by unfold wrap64; omega
  have x1 : (10 : Int) ≤ (b.size : Int) := by omega
  have x2 : (26 : Int) ≤ (b.size : Int) := by omega
  have bA := getV2_bd b 2
  have bB := getV2_bd b 4
  have C1 := fun w => Lib.hid (Get_calls b 2 2 (by omega) w)
  have C2 := fun w => Lib.hid (Get_calls b 4 2 (by omega) w)
  have c3 := long_calls 4
  have C3 : ∀ w : World, Hid (Calls Try.prog 44 #[.int .i64 4] w fun e w' => e = .returned (.int .i64 4) ∧ w = w') := fun w => Lib.hid (c3 w)
  have c4 := bytes_calls 4 (b.extract 6 10) (b.extract 22 26) (getV b 2 2) (getV b 4 2) (byteN b 1) (by rw [ByteArray.size_extract]; omega) (by rw [ByteArray.size_extract]; omega)
  generalize bS 4 (b.extract 6 10) (b.extract 22 26) (getV b 2 2) (getV b 4 2) (byteN b 1) = S at *
  generalize bR 4 (b.extract 6 10) (b.extract 22 26) (getV b 2 2) (getV b 4 2) (byteN b 1) = R at *
  have C4 := fun w => Lib.hid (c4 w)
  clear c4
  generalize getV b 2 2 = X at *
  generalize getV b 4 2 = Y at *
  generalize getB b 2 2 = G0 at *
  generalize getB b 4 2 = G2 at *
  have hwX : IntKind.i64.wrap X = X := IntWalk.i64_in _ (by omega)
  have hwY : IntKind.i64.wrap Y = Y := IntWalk.i64_in _ (by omega)
  clear bA bB c3 h hv
  go_enter Try.func30, Try.ntmps30
  go_wp2_with (go_at_call 33; with_reducible refine (C1 _).out.mono ?_)
  rintro e w1 ⟨rfl, hb1⟩
  go_wp2_with (go_at_call 33; with_reducible refine (C2 _).out.mono ?_)
  rintro e w2 ⟨rfl, hb2⟩
  have K0 := ((Ky.new 40 0 ⟨#[]⟩ ⟨#[]⟩ 0 0 0 w).later hb1).later hb2
  have B0 := bl (bl ((Below.refl w.heap.size w).alloc (Nat.le_refl _) (.cells #[.int .i64 0, .string ⟨#[]⟩, .string ⟨#[]⟩, .int .i64 0, .int .i64 0, .int .i64 0] 40)) hb1) hb2
  clear hb1 hb2
  go_wp2_with (go_at_call 44; with_reducible refine (C3 _).out.mono ?_)
  rintro e w3 ⟨rfl, rfl⟩
  go_wp2_with fail
  go_region
  all_goals
    go_wp2_with (go_at_call 28; with_reducible refine (C4 _).out.mono ?_)
    rintro e w4 ⟨rfl, hb4⟩
    have Y1 := ((Ky.new 40 4 (b.extract 6 10) (b.extract 22 26) X Y (byteN b 1) w2).drew).later hb4
    have K1 := ((K0.alloc (.cells #[.int .i64 4, .string (b.extract 6 10), .string (b.extract 22 26), .int .i64 X, .int .i64 Y, .int .i64 (byteN b 1)] 40)).drew).later hb4
    have B1 := bl (B0.alloc B0.size (.cells #[.int .i64 4, .string (b.extract 6 10), .string (b.extract 22 26), .int .i64 X, .int .i64 Y, .int .i64 (byteN b 1)] 40)).drew hb4
    have l0 := K0.lt
    have ne1 : w.heap.size ≠ w2.heap.size := by omega
    have ne2 : w2.heap.size ≠ w.heap.size := by omega
    have le2 : w.heap.size ≤ w2.heap.size := by omega
    clear hb4 K0 B0 l0
    obtain ⟨y0, y1, y2, y3, y4, y5⟩ := Y1.cells
    obtain ⟨z0, z1, z2, z3, z4, z5⟩ := Y1.frozen
    obtain ⟨r0, r1, r2, r3, r4, r5⟩ := K1.cells
    obtain ⟨f0, f1, f2, f3, f4, f5⟩ := K1.frozen
    cases R with
    | true =>
      have hS : (S.toList == b.toList) = false := by
        rw [beq_eq_false_iff_ne]
        intro h
        rw [ByteArray.toList_eq, ByteArray.toList_eq] at h
        exact hG ⟨rfl, ba_ext h⟩
      clear hG
      have Y2 := Y1.setall 0 ⟨#[]⟩ ⟨#[]⟩ 0 0 0
      have K2 := K1.others ne1 0 ⟨#[]⟩ ⟨#[]⟩ 0 0 0
      have B2 := below_set6' le2 B1 (.int .i64 0) (.string ⟨#[]⟩) (.string ⟨#[]⟩) (.int .i64 0) (.int .i64 0) (.int .i64 0)
      obtain ⟨W5, hW5⟩ : ∃ W5 : World, W5 = ((((((w4.setCell ⟨w2.heap.size, 0, none⟩ (.int .i64 0)).setCell ⟨w2.heap.size, 1, none⟩ (.string ⟨#[]⟩)).setCell ⟨w2.heap.size, 2, none⟩ (.string ⟨#[]⟩)).setCell ⟨w2.heap.size, 3, none⟩ (.int .i64 0)).setCell ⟨w2.heap.size, 4, none⟩ (.int .i64 0)).setCell ⟨w2.heap.size, 5, none⟩ (.int .i64 0)) := ⟨_, rfl⟩
      rw [← hW5] at Y2 K2 B2
      have HW5 := Lib.hid hW5
      clear hW5 le2 K1 Y1 B1
      go_upto_region 10 with fail
      rw [← HW5.out]
      clear HW5 y0 y1 y2 y3 y4 y5 z0 z1 z2 z3 z4 z5 r0 r1 r2 r3 r4 r5 f0 f1 f2 f3 f4 f5
      obtain ⟨y0, y1, y2, y3, y4, y5⟩ := Y2.cells
      obtain ⟨r0, r1, r2, r3, r4, r5⟩ := K2.cells
      obtain ⟨f0, f1, f2, f3, f4, f5⟩ := K2.frozen
      obtain ⟨s0, s1, s2, s3, s4, s5⟩ := K2.set (.int .i64 0) (.string ⟨#[]⟩) (.string ⟨#[]⟩) (.int .i64 0) (.int .i64 0) (.int .i64 0)
      clear Y2 K2
      go_region
      all_goals
        go_wp2_with fail
        refine bodyPost_ret (v := .tuple #[.agg #[.int .i64 0, .string ⟨#[]⟩, .string ⟨#[]⟩, .int .i64 0, .int .i64 0, .int .i64 0], .bool false]) (by simp [results, Try.results30, go_sem, s0, s1, s2, s3, s4, s5]) rfl ⟨rfl, (below_set6' (Nat.le_refl _) B2 _ _ _ _ _ _).drew⟩
    | false =>
      clear hG
      have Y2 := Y1.setall 0 ⟨#[]⟩ ⟨#[]⟩ 0 0 0
      have K2 := K1.others ne1 0 ⟨#[]⟩ ⟨#[]⟩ 0 0 0
      have B2 := below_set6' le2 B1 (.int .i64 0) (.string ⟨#[]⟩) (.string ⟨#[]⟩) (.int .i64 0) (.int .i64 0) (.int .i64 0)
      obtain ⟨W5, hW5⟩ : ∃ W5 : World, W5 = ((((((w4.setCell ⟨w2.heap.size, 0, none⟩ (.int .i64 0)).setCell ⟨w2.heap.size, 1, none⟩ (.string ⟨#[]⟩)).setCell ⟨w2.heap.size, 2, none⟩ (.string ⟨#[]⟩)).setCell ⟨w2.heap.size, 3, none⟩ (.int .i64 0)).setCell ⟨w2.heap.size, 4, none⟩ (.int .i64 0)).setCell ⟨w2.heap.size, 5, none⟩ (.int .i64 0)) := ⟨_, rfl⟩
      rw [← hW5] at Y2 K2 B2
      have HW5 := Lib.hid hW5
      clear hW5 le2 K1 Y1 B1
      go_upto_region 10 with fail
      rw [← HW5.out]
      clear HW5 y0 y1 y2 y3 y4 y5 z0 z1 z2 z3 z4 z5 r0 r1 r2 r3 r4 r5 f0 f1 f2 f3 f4 f5
      obtain ⟨y0, y1, y2, y3, y4, y5⟩ := Y2.cells
      obtain ⟨r0, r1, r2, r3, r4, r5⟩ := K2.cells
      obtain ⟨f0, f1, f2, f3, f4, f5⟩ := K2.frozen
      obtain ⟨s0, s1, s2, s3, s4, s5⟩ := K2.set (.int .i64 0) (.string ⟨#[]⟩) (.string ⟨#[]⟩) (.int .i64 0) (.int .i64 0) (.int .i64 0)
      clear Y2 K2
      go_region
      all_goals
        go_wp2_with fail
        refine bodyPost_ret (v := .tuple #[.agg #[.int .i64 0, .string ⟨#[]⟩, .string ⟨#[]⟩, .int .i64 0, .int .i64 0, .int .i64 0], .bool false]) (by simp [results, Try.results30, go_sem, s0, s1, s2, s3, s4, s5]) rfl ⟨rfl, (below_set6' (Nat.le_refl _) B2 _ _ _ _ _ _).drew⟩

set_option maxHeartbeats 4000000 in
set_option maxRecDepth 100000 in
theorem of_6good (b : ByteArray) (hs : b.size ≤ 4294967296) (w : World) (h : b.size = 38) (hv : byteN b 0 = 6) (hG : (bR 6 (b.extract 6 22) (b.extract 22 38) (getV b 2 2) (getV b 4 2) (byteN b 1) = true ∧ bS 6 (b.extract 6 22) (b.extract 22 38) (getV b 2 2) (getV b 4 2) (byteN b 1) = b)) :
    Calls Try.prog 30 #[.string b] w fun e w' => e = .returned (.tuple #[.agg #[.int .i64 6, .string (b.extract 6 22), .string (b.extract 22 38), .int .i64 (getV b 2 2), .int .i64 (getV b 4 2), .int .i64 (byteN b 1)], .bool true]) ∧ Below w.heap.size w w' := by
  have d : ((b.size : Int) != 38) = false := by rw [bne_eq_false_iff_eq]; omega
  have g0 : 0 < b.size := by omega
  have g1 : 1 < b.size := by omega
  have e0 : b[0].toNat = 6 := (byteN_get b 0 g0).trans hv
  have e1 := byteN_get b 1 g1
  have hb1 := byteN_lt b 1
  have hw1 : wrap64 (byteN b 1 : Int) = (byteN b 1 : Int) := by unfold wrap64; omega
  have x1 : (22 : Int) ≤ (b.size : Int) := by omega
  have x2 : (38 : Int) ≤ (b.size : Int) := by omega
  have bA := getV2_bd b 2
  have bB := getV2_bd b 4
  have C1 := fun w => Lib.hid (Get_calls b 2 2 (by omega) w)
  have C2 := fun w => Lib.hid (Get_calls b 4 2 (by omega) w)
  have c3 := long_calls 6
  have C3 : ∀ w : World, Hid (Calls Try.prog 44 #[.int .i64 6] w fun e w' => e = .returned (.int .i64 16) ∧ w = w') := fun w => Lib.hid (c3 w)
  have c4 := bytes_calls 6 (b.extract 6 22) (b.extract 22 38) (getV b 2 2) (getV b 4 2) (byteN b 1) (by rw [ByteArray.size_extract]; omega) (by rw [ByteArray.size_extract]; omega)
  generalize bS 6 (b.extract 6 22) (b.extract 22 38) (getV b 2 2) (getV b 4 2) (byteN b 1) = S at *
  generalize bR 6 (b.extract 6 22) (b.extract 22 38) (getV b 2 2) (getV b 4 2) (byteN b 1) = R at *
  have C4 := fun w => Lib.hid (c4 w)
  clear c4
  generalize getV b 2 2 = X at *
  generalize getV b 4 2 = Y at *
  generalize getB b 2 2 = G0 at *
  generalize getB b 4 2 = G2 at *
  have hwX : IntKind.i64.wrap X = X := IntWalk.i64_in _ (by omega)
  have hwY : IntKind.i64.wrap Y = Y := IntWalk.i64_in _ (by omega)
  clear bA bB c3 h hv
  go_enter Try.func30, Try.ntmps30
  go_wp2_with (go_at_call 33; with_reducible refine (C1 _).out.mono ?_)
  rintro e w1 ⟨rfl, hb1⟩
  go_wp2_with (go_at_call 33; with_reducible refine (C2 _).out.mono ?_)
  rintro e w2 ⟨rfl, hb2⟩
  have K0 := ((Ky.new 40 0 ⟨#[]⟩ ⟨#[]⟩ 0 0 0 w).later hb1).later hb2
  have B0 := bl (bl ((Below.refl w.heap.size w).alloc (Nat.le_refl _) (.cells #[.int .i64 0, .string ⟨#[]⟩, .string ⟨#[]⟩, .int .i64 0, .int .i64 0, .int .i64 0] 40)) hb1) hb2
  clear hb1 hb2
  go_wp2_with (go_at_call 44; with_reducible refine (C3 _).out.mono ?_)
  rintro e w3 ⟨rfl, rfl⟩
  go_wp2_with fail
  go_region
  all_goals
    go_wp2_with (go_at_call 28; with_reducible refine (C4 _).out.mono ?_)
    rintro e w4 ⟨rfl, hb4⟩
    have Y1 := ((Ky.new 40 6 (b.extract 6 22) (b.extract 22 38) X Y (byteN b 1) w2).drew).later hb4
    have K1 := ((K0.alloc (.cells #[.int .i64 6, .string (b.extract 6 22), .string (b.extract 22 38), .int .i64 X, .int .i64 Y, .int .i64 (byteN b 1)] 40)).drew).later hb4
    have B1 := bl (B0.alloc B0.size (.cells #[.int .i64 6, .string (b.extract 6 22), .string (b.extract 22 38), .int .i64 X, .int .i64 Y, .int .i64 (byteN b 1)] 40)).drew hb4
    have l0 := K0.lt
    have ne1 : w.heap.size ≠ w2.heap.size := by omega
    have ne2 : w2.heap.size ≠ w.heap.size := by omega
    have le2 : w.heap.size ≤ w2.heap.size := by omega
    clear hb4 K0 B0 l0
    obtain ⟨y0, y1, y2, y3, y4, y5⟩ := Y1.cells
    obtain ⟨z0, z1, z2, z3, z4, z5⟩ := Y1.frozen
    obtain ⟨r0, r1, r2, r3, r4, r5⟩ := K1.cells
    obtain ⟨f0, f1, f2, f3, f4, f5⟩ := K1.frozen
    have hS : (S.toList == b.toList) = true := by rw [hG.2]; exact beq_self_eq_true _
    obtain ⟨hR, hS2⟩ := hG
    subst hR
    obtain ⟨s0, s1, s2, s3, s4, s5⟩ := K1.set (.int .i64 6) (.string (b.extract 6 22)) (.string (b.extract 22 38)) (.int .i64 X) (.int .i64 Y) (.int .i64 (byteN b 1))
    clear Y1 K1 le2 hS2
    go_wp2_with fail
    go_region
    all_goals
      go_wp2_with fail
      refine bodyPost_ret (v := .tuple #[.agg #[.int .i64 6, .string (b.extract 6 22), .string (b.extract 22 38), .int .i64 X, .int .i64 Y, .int .i64 (byteN b 1)], .bool true]) (by simp [results, Try.results30, go_sem, s0, s1, s2, s3, s4, s5]) rfl ⟨rfl, (below_set6' (Nat.le_refl _) B1 _ _ _ _ _ _).drew⟩

set_option maxHeartbeats 4000000 in
set_option maxRecDepth 100000 in
theorem of_6bad (b : ByteArray) (hs : b.size ≤ 4294967296) (w : World) (h : b.size = 38) (hv : byteN b 0 = 6) (hG : ¬ (bR 6 (b.extract 6 22) (b.extract 22 38) (getV b 2 2) (getV b 4 2) (byteN b 1) = true ∧ bS 6 (b.extract 6 22) (b.extract 22 38) (getV b 2 2) (getV b 4 2) (byteN b 1) = b)) :
    Calls Try.prog 30 #[.string b] w fun e w' => e = .returned (.tuple #[.agg #[.int .i64 0, .string ⟨#[]⟩, .string ⟨#[]⟩, .int .i64 0, .int .i64 0, .int .i64 0], .bool false]) ∧ Below w.heap.size w w' := by
  have d : ((b.size : Int) != 38) = false := by rw [bne_eq_false_iff_eq]; omega
  have g0 : 0 < b.size := by omega
  have g1 : 1 < b.size := by omega
  have e0 : b[0].toNat = 6 := (byteN_get b 0 g0).trans hv
  have e1 := byteN_get b 1 g1
  have hb1 := byteN_lt b 1
  have hw1 : wrap64 (byteN b 1 : Int) = (byteN b 1 : Int) := by unfold wrap64; omega
  have x1 : (22 : Int) ≤ (b.size : Int) := by omega
  have x2 : (38 : Int) ≤ (b.size : Int) := by omega
  have bA := getV2_bd b 2
  have bB := getV2_bd b 4
  have C1 := fun w => Lib.hid (Get_calls b 2 2 (by omega) w)
  have C2 := fun w => Lib.hid (Get_calls b 4 2 (by omega) w)
  have c3 := long_calls 6
  have C3 : ∀ w : World, Hid (Calls Try.prog 44 #[.int .i64 6] w fun e w' => e = .returned (.int .i64 16) ∧ w = w') := fun w => Lib.hid (c3 w)
  have c4 := bytes_calls 6 (b.extract 6 22) (b.extract 22 38) (getV b 2 2) (getV b 4 2) (byteN b 1) (by rw [ByteArray.size_extract]; omega) (by rw [ByteArray.size_extract]; omega)
  generalize bS 6 (b.extract 6 22) (b.extract 22 38) (getV b 2 2) (getV b 4 2) (byteN b 1) = S at *
  generalize bR 6 (b.extract 6 22) (b.extract 22 38) (getV b 2 2) (getV b 4 2) (byteN b 1) = R at *
  have C4 := fun w => Lib.hid (c4 w)
  clear c4
  generalize getV b 2 2 = X at *
  generalize getV b 4 2 = Y at *
  generalize getB b 2 2 = G0 at *
  generalize getB b 4 2 = G2 at *
  have hwX : IntKind.i64.wrap X = X := IntWalk.i64_in _ (by omega)
  have hwY : IntKind.i64.wrap Y = Y := IntWalk.i64_in _ (by omega)
  clear bA bB c3 h hv
  go_enter Try.func30, Try.ntmps30
  go_wp2_with (go_at_call 33; with_reducible refine (C1 _).out.mono ?_)
  rintro e w1 ⟨rfl, hb1⟩
  go_wp2_with (go_at_call 33; with_reducible refine (C2 _).out.mono ?_)
  rintro e w2 ⟨rfl, hb2⟩
  have K0 := ((Ky.new 40 0 ⟨#[]⟩ ⟨#[]⟩ 0 0 0 w).later hb1).later hb2
  have B0 := bl (bl ((Below.refl w.heap.size w).alloc (Nat.le_refl _) (.cells #[.int .i64 0, .string ⟨#[]⟩, .string ⟨#[]⟩, .int .i64 0, .int .i64 0, .int .i64 0] 40)) hb1) hb2
  clear hb1 hb2
  go_wp2_with (go_at_call 44; with_reducible refine (C3 _).out.mono ?_)
  rintro e w3 ⟨rfl, rfl⟩
  go_wp2_with fail
  go_region
  all_goals
    go_wp2_with (go_at_call 28; with_reducible refine (C4 _).out.mono ?_)
    rintro e w4 ⟨rfl, hb4⟩
    have Y1 := ((Ky.new 40 6 (b.extract 6 22) (b.extract 22 38) X Y (byteN b 1) w2).drew).later hb4
    have K1 := ((K0.alloc (.cells #[.int .i64 6, .string (b.extract 6 22), .string (b.extract 22 38), .int .i64 X, .int .i64 Y, .int .i64 (byteN b 1)] 40)).drew).later hb4
    have B1 := bl (B0.alloc B0.size (.cells #[.int .i64 6, .string (b.extract 6 22), .string (b.extract 22 38), .int .i64 X, .int .i64 Y, .int .i64 (byteN b 1)] 40)).drew hb4
    have l0 := K0.lt
    have ne1 : w.heap.size ≠ w2.heap.size := by omega
    have ne2 : w2.heap.size ≠ w.heap.size := by omega
    have le2 : w.heap.size ≤ w2.heap.size := by omega
    clear hb4 K0 B0 l0
    obtain ⟨y0, y1, y2, y3, y4, y5⟩ := Y1.cells
    obtain ⟨z0, z1, z2, z3, z4, z5⟩ := Y1.frozen
    obtain ⟨r0, r1, r2, r3, r4, r5⟩ := K1.cells
    obtain ⟨f0, f1, f2, f3, f4, f5⟩ := K1.frozen
    cases R with
    | true =>
      have hS : (S.toList == b.toList) = false := by
        rw [beq_eq_false_iff_ne]
        intro h
        rw [ByteArray.toList_eq, ByteArray.toList_eq] at h
        exact hG ⟨rfl, ba_ext h⟩
      clear hG
      have Y2 := Y1.setall 0 ⟨#[]⟩ ⟨#[]⟩ 0 0 0
      have K2 := K1.others ne1 0 ⟨#[]⟩ ⟨#[]⟩ 0 0 0
      have B2 := below_set6' le2 B1 (.int .i64 0) (.string ⟨#[]⟩) (.string ⟨#[]⟩) (.int .i64 0) (.int .i64 0) (.int .i64 0)
      obtain ⟨W5, hW5⟩ : ∃ W5 : World, W5 = ((((((w4.setCell ⟨w2.heap.size, 0, none⟩ (.int .i64 0)).setCell ⟨w2.heap.size, 1, none⟩ (.string ⟨#[]⟩)).setCell ⟨w2.heap.size, 2, none⟩ (.string ⟨#[]⟩)).setCell ⟨w2.heap.size, 3, none⟩ (.int .i64 0)).setCell ⟨w2.heap.size, 4, none⟩ (.int .i64 0)).setCell ⟨w2.heap.size, 5, none⟩ (.int .i64 0)) := ⟨_, rfl⟩
      rw [← hW5] at Y2 K2 B2
      have HW5 := Lib.hid hW5
      clear hW5 le2 K1 Y1 B1
      go_upto_region 10 with fail
      rw [← HW5.out]
      clear HW5 y0 y1 y2 y3 y4 y5 z0 z1 z2 z3 z4 z5 r0 r1 r2 r3 r4 r5 f0 f1 f2 f3 f4 f5
      obtain ⟨y0, y1, y2, y3, y4, y5⟩ := Y2.cells
      obtain ⟨r0, r1, r2, r3, r4, r5⟩ := K2.cells
      obtain ⟨f0, f1, f2, f3, f4, f5⟩ := K2.frozen
      obtain ⟨s0, s1, s2, s3, s4, s5⟩ := K2.set (.int .i64 0) (.string ⟨#[]⟩) (.string ⟨#[]⟩) (.int .i64 0) (.int .i64 0) (.int .i64 0)
      clear Y2 K2
      go_region
      all_goals
        go_wp2_with fail
        refine bodyPost_ret (v := .tuple #[.agg #[.int .i64 0, .string ⟨#[]⟩, .string ⟨#[]⟩, .int .i64 0, .int .i64 0, .int .i64 0], .bool false]) (by simp [results, Try.results30, go_sem, s0, s1, s2, s3, s4, s5]) rfl ⟨rfl, (below_set6' (Nat.le_refl _) B2 _ _ _ _ _ _).drew⟩
    | false =>
      clear hG
      have Y2 := Y1.setall 0 ⟨#[]⟩ ⟨#[]⟩ 0 0 0
      have K2 := K1.others ne1 0 ⟨#[]⟩ ⟨#[]⟩ 0 0 0
      have B2 := below_set6' le2 B1 (.int .i64 0) (.string ⟨#[]⟩) (.string ⟨#[]⟩) (.int .i64 0) (.int .i64 0) (.int .i64 0)
      obtain ⟨W5, hW5⟩ : ∃ W5 : World, W5 = ((((((w4.setCell ⟨w2.heap.size, 0, none⟩ (.int .i64 0)).setCell ⟨w2.heap.size, 1, none⟩ (.string ⟨#[]⟩)).setCell ⟨w2.heap.size, 2, none⟩ (.string ⟨#[]⟩)).setCell ⟨w2.heap.size, 3, none⟩ (.int .i64 0)).setCell ⟨w2.heap.size, 4, none⟩ (.int .i64 0)).setCell ⟨w2.heap.size, 5, none⟩ (.int .i64 0)) := ⟨_, rfl⟩
      rw [← hW5] at Y2 K2 B2
      have HW5 := Lib.hid hW5
      clear hW5 le2 K1 Y1 B1
      go_upto_region 10 with fail
      rw [← HW5.out]
      clear HW5 y0 y1 y2 y3 y4 y5 z0 z1 z2 z3 z4 z5 r0 r1 r2 r3 r4 r5 f0 f1 f2 f3 f4 f5
      obtain ⟨y0, y1, y2, y3, y4, y5⟩ := Y2.cells
      obtain ⟨r0, r1, r2, r3, r4, r5⟩ := K2.cells
      obtain ⟨f0, f1, f2, f3, f4, f5⟩ := K2.frozen
      obtain ⟨s0, s1, s2, s3, s4, s5⟩ := K2.set (.int .i64 0) (.string ⟨#[]⟩) (.string ⟨#[]⟩) (.int .i64 0) (.int .i64 0) (.int .i64 0)
      clear Y2 K2
      go_region
      all_goals
        go_wp2_with fail
        refine bodyPost_ret (v := .tuple #[.agg #[.int .i64 0, .string ⟨#[]⟩, .string ⟨#[]⟩, .int .i64 0, .int .i64 0, .int .i64 0], .bool false]) (by simp [results, Try.results30, go_sem, s0, s1, s2, s3, s4, s5]) rfl ⟨rfl, (below_set6' (Nat.le_refl _) B2 _ _ _ _ _ _).drew⟩

set_option maxHeartbeats 4000000 in
set_option maxRecDepth 100000 in
theorem of_xbad (b : ByteArray) (hs : b.size ≤ 4294967296) (w : World) (h : b.size = 38) (hv4 : ¬ byteN b 0 = 4) (hv6 : ¬ byteN b 0 = 6) :
    Calls Try.prog 30 #[.string b] w fun e w' => e = .returned (.tuple #[.agg #[.int .i64 0, .string ⟨#[]⟩, .string ⟨#[]⟩, .int .i64 0, .int .i64 0, .int .i64 0], .bool false]) ∧ Below w.heap.size w w' := by
  have d : ((b.size : Int) != 38) = false := by rw [bne_eq_false_iff_eq]; omega
  have g0 : 0 < b.size := by omega
  have g1 : 1 < b.size := by omega
  have e0 := byteN_get b 0 g0
  have hb0 := byteN_lt b 0
  have hw0 : wrap64 (byteN b 0 : Int) = (byteN b 0 : Int) := by unfold wrap64; omega
  have e1 := byteN_get b 1 g1
  have hb1 := byteN_lt b 1
  have hw1 : wrap64 (byteN b 1 : Int) = (byteN b 1 : Int) := by unfold wrap64; omega
  have x1 : (6 : Int) ≤ (b.size : Int) := by omega
  have x2 : (22 : Int) ≤ (b.size : Int) := by omega
  have bA := getV2_bd b 2
  have bB := getV2_bd b 4
  have C1 := fun w => Lib.hid (Get_calls b 2 2 (by omega) w)
  have C2 := fun w => Lib.hid (Get_calls b 4 2 (by omega) w)
  have c3 := long_calls (byteN b 0)
  rw [if_neg (by omega), if_neg (by omega)] at c3
  have C3 : ∀ w : World, Hid (Calls Try.prog 44 #[.int .i64 (byteN b 0 : Int)] w fun e w' => e = .returned (.int .i64 0) ∧ w = w') := fun w => Lib.hid (c3 w)
  have c4 := bytes_calls (byteN b 0 : Int) ByteArray.empty ByteArray.empty (getV b 2 2) (getV b 4 2) (byteN b 1) (by decide) (by decide)
  have hRR : bR (byteN b 0 : Int) ByteArray.empty ByteArray.empty (getV b 2 2) (getV b 4 2) (byteN b 1) = false := by
    cases hq : bR (byteN b 0 : Int) ByteArray.empty ByteArray.empty (getV b 2 2) (getV b 4 2) (byteN b 1) with
    | false => rfl
    | true => exact absurd ((bR_iff _ _ _ _ _ _).1 hq).1 (by omega)
  rw [hRR] at c4
  generalize bS (byteN b 0 : Int) ByteArray.empty ByteArray.empty (getV b 2 2) (getV b 4 2) (byteN b 1) = S at *
  have C4 := fun w => Lib.hid (c4 w)
  clear c4
  generalize getV b 2 2 = X at *
  generalize getV b 4 2 = Y at *
  generalize getB b 2 2 = G0 at *
  generalize getB b 4 2 = G2 at *
  have hwX : IntKind.i64.wrap X = X := IntWalk.i64_in _ (by omega)
  have hwY : IntKind.i64.wrap Y = Y := IntWalk.i64_in _ (by omega)
  clear bA bB c3 h hv4 hv6 hRR
  go_enter Try.func30, Try.ntmps30
  go_wp2_with (go_at_call 33; with_reducible refine (C1 _).out.mono ?_)
  rintro e w1 ⟨rfl, hb1⟩
  go_wp2_with (go_at_call 33; with_reducible refine (C2 _).out.mono ?_)
  rintro e w2 ⟨rfl, hb2⟩
  have K0 := ((Ky.new 40 0 ⟨#[]⟩ ⟨#[]⟩ 0 0 0 w).later hb1).later hb2
  have B0 := bl (bl ((Below.refl w.heap.size w).alloc (Nat.le_refl _) (.cells #[.int .i64 0, .string ⟨#[]⟩, .string ⟨#[]⟩, .int .i64 0, .int .i64 0, .int .i64 0] 40)) hb1) hb2
  clear hb1 hb2
  go_wp2_with (go_at_call 44; with_reducible refine (C3 _).out.mono ?_)
  rintro e w3 ⟨rfl, rfl⟩
  go_wp2_with fail
  go_region
  all_goals
    go_wp2_with (go_at_call 28; with_reducible refine (C4 _).out.mono ?_)
    rintro e w4 ⟨rfl, hb4⟩
    have Y1 := ((Ky.new 40 (byteN b 0 : Int) ByteArray.empty ByteArray.empty X Y (byteN b 1) w2).drew).later hb4
    have K1 := ((K0.alloc (.cells #[.int .i64 (byteN b 0 : Int), .string ByteArray.empty, .string ByteArray.empty, .int .i64 X, .int .i64 Y, .int .i64 (byteN b 1)] 40)).drew).later hb4
    have B1 := bl (B0.alloc B0.size (.cells #[.int .i64 (byteN b 0 : Int), .string ByteArray.empty, .string ByteArray.empty, .int .i64 X, .int .i64 Y, .int .i64 (byteN b 1)] 40)).drew hb4
    have l0 := K0.lt
    have ne1 : w.heap.size ≠ w2.heap.size := by omega
    have ne2 : w2.heap.size ≠ w.heap.size := by omega
    have le2 : w.heap.size ≤ w2.heap.size := by omega
    clear hb4 K0 B0 l0
    obtain ⟨y0, y1, y2, y3, y4, y5⟩ := Y1.cells
    obtain ⟨z0, z1, z2, z3, z4, z5⟩ := Y1.frozen
    obtain ⟨r0, r1, r2, r3, r4, r5⟩ := K1.cells
    obtain ⟨f0, f1, f2, f3, f4, f5⟩ := K1.frozen
    have Y2 := Y1.setall 0 ⟨#[]⟩ ⟨#[]⟩ 0 0 0
    have K2 := K1.others ne1 0 ⟨#[]⟩ ⟨#[]⟩ 0 0 0
    have B2 := below_set6' le2 B1 (.int .i64 0) (.string ⟨#[]⟩) (.string ⟨#[]⟩) (.int .i64 0) (.int .i64 0) (.int .i64 0)
    obtain ⟨W5, hW5⟩ : ∃ W5 : World, W5 = ((((((w4.setCell ⟨w2.heap.size, 0, none⟩ (.int .i64 0)).setCell ⟨w2.heap.size, 1, none⟩ (.string ⟨#[]⟩)).setCell ⟨w2.heap.size, 2, none⟩ (.string ⟨#[]⟩)).setCell ⟨w2.heap.size, 3, none⟩ (.int .i64 0)).setCell ⟨w2.heap.size, 4, none⟩ (.int .i64 0)).setCell ⟨w2.heap.size, 5, none⟩ (.int .i64 0)) := ⟨_, rfl⟩
    rw [← hW5] at Y2 K2 B2
    have HW5 := Lib.hid hW5
    clear hW5 le2 K1 Y1 B1
    go_upto_region 10 with fail
    rw [← HW5.out]
    clear HW5 y0 y1 y2 y3 y4 y5 z0 z1 z2 z3 z4 z5 r0 r1 r2 r3 r4 r5 f0 f1 f2 f3 f4 f5
    obtain ⟨y0, y1, y2, y3, y4, y5⟩ := Y2.cells
    obtain ⟨r0, r1, r2, r3, r4, r5⟩ := K2.cells
    obtain ⟨f0, f1, f2, f3, f4, f5⟩ := K2.frozen
    obtain ⟨s0, s1, s2, s3, s4, s5⟩ := K2.set (.int .i64 0) (.string ⟨#[]⟩) (.string ⟨#[]⟩) (.int .i64 0) (.int .i64 0) (.int .i64 0)
    clear Y2 K2
    go_region
    all_goals
      go_wp2_with fail
      refine bodyPost_ret (v := .tuple #[.agg #[.int .i64 0, .string ⟨#[]⟩, .string ⟨#[]⟩, .int .i64 0, .int .i64 0, .int .i64 0], .bool false]) (by simp [results, Try.results30, go_sem, s0, s1, s2, s3, s4, s5]) rfl ⟨rfl, (below_set6' (Nat.le_refl _) B2 _ _ _ _ _ _).drew⟩

theorem oB_iff (b : ByteArray) : oB b = true ↔ b.size = 38 ∧ bR (byteN b 0) (oS b) (oD b) (getV b 2 2) (getV b 4 2) (byteN b 1) = true ∧ bS (byteN b 0) (oS b) (oD b) (getV b 2 2) (getV b 4 2) (byteN b 1) = b := by
  unfold oB bS
  rw [Bool.and_eq_true_iff, Bool.and_eq_true_iff, decide_eq_true_eq, decide_eq_true_eq, and_assoc]
  generalize bX (byteN b 0) (oS b) (oD b) (getV b 2 2) (getV b 4 2) (byteN b 1) = x
  generalize bR (byteN b 0) (oS b) (oD b) (getV b 2 2) (getV b 4 2) (byteN b 1) = r
  cases r <;> simp
def ofV (b : ByteArray) : Value := .tuple #[.agg #[.int .i64 (oV b), .string (oA b), .string (oC b), .int .i64 (oF b), .int .i64 (oT b), .int .i64 (oP b)], .bool (oB b)]
theorem ofV_no {b : ByteArray} (h : ¬ oB b = true) : ofV b = .tuple #[.agg #[.int .i64 0, .string ⟨#[]⟩, .string ⟨#[]⟩, .int .i64 0, .int .i64 0, .int .i64 0], .bool false] := by
  unfold ofV oV oA oC oF oT oP
  rw [if_neg h, if_neg h, if_neg h, if_neg h, if_neg h, if_neg h, Bool.eq_false_iff.2 h]
theorem ofV_yes {b : ByteArray} (h : oB b = true) : ofV b = .tuple #[.agg #[.int .i64 (byteN b 0), .string (oS b), .string (oD b), .int .i64 (getV b 2 2), .int .i64 (getV b 4 2), .int .i64 (byteN b 1)], .bool true] := by
  unfold ofV oV oA oC oF oT oP
  rw [if_pos h, if_pos h, if_pos h, if_pos h, if_pos h, if_pos h, h]
theorem packetOf_calls (b : ByteArray) (hs : b.size ≤ 4294967296) (w : World) :
    Calls Try.prog 30 #[.string b] w fun e w' => e = .returned (ofV b) ∧ Below w.heap.size w w' := by
  by_cases h : b.size = 38
  · by_cases h4 : byteN b 0 = 4
    · have hw : wN b = 4 := by unfold wN; rw [if_pos h4]
      have e1 : oS b = b.extract 6 10 := by unfold oS; rw [hw]
      have e2 : oD b = b.extract 22 26 := by unfold oD; rw [hw]
      have h4i : ((byteN b 0 : Nat) : Int) = 4 := by rw [h4]; rfl
      by_cases hG : oB b = true
      · rw [ofV_yes hG]
        rw [oB_iff, e1, e2, h4i] at hG
        rw [e1, e2, h4i]
        exact of_4good b hs w h h4 hG.2
      · rw [ofV_no hG]
        rw [oB_iff, e1, e2, h4i] at hG
        exact of_4bad b hs w h h4 (fun g => hG ⟨h, g⟩)
    · have hw : wN b = 16 := by unfold wN; rw [if_neg h4]
      have e1 : oS b = b.extract 6 22 := by unfold oS; rw [hw]
      have e2 : oD b = b.extract 22 38 := by unfold oD; rw [hw]
      by_cases h6 : byteN b 0 = 6
      · have h6i : ((byteN b 0 : Nat) : Int) = 6 := by rw [h6]; rfl
        by_cases hG : oB b = true
        · rw [ofV_yes hG]
          rw [oB_iff, e1, e2, h6i] at hG
          rw [e1, e2, h6i]
          exact of_6good b hs w h h6 hG.2
        · rw [ofV_no hG]
          rw [oB_iff, e1, e2, h6i] at hG
          exact of_6bad b hs w h h6 (fun g => hG ⟨h, g⟩)
      · have hG : ¬ oB b = true := by
          intro g
          have := ((bR_iff _ _ _ _ _ _).1 ((oB_iff b).1 g).2.1).1
          omega
        rw [ofV_no hG]
        exact of_xbad b hs w h h4 h6
  · have hG : ¬ oB b = true := fun g => h ((oB_iff b).1 g).1
    rw [ofV_no hG]
    exact of_short b hs w h
end Go.Proofs.Ytjfijllnmjajpaa
