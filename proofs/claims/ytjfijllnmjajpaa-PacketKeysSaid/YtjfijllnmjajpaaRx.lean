/- gangplankref07.Of: what it answers. -/
import Derived.WalkKit
import Derived.BigRegion
import Derived.Deep.CutRange
import Derived.Deep.RegionHeld3
import Derived.Deep.Cut
import Derived.StillTailTactics
import Derived.Lib.Hide
import Derived.Laws.IdiomStrings
import Derived.Test.YtjfijllnmjajpaaOf
import Derived.Test.YtjfijllnmjajpaaRb
set_option linter.unusedSimpArgs false
set_option linter.unusedVariables false
namespace Go.Proofs.Ytjfijllnmjajpaa
open Go.RowKit Go.BigFrame

set_option maxHeartbeats 40000000 in
set_option maxRecDepth 100000 in
theorem ro_x (b : ByteArray) (hs : b.size ≤ 4294967296) (w : World) (h : b.size = 38) (hv : ¬ byteN b 0 = 4) (r : Value) (hg : (bR (byteN b 0 : Int) (b.extract 6 22) (b.extract 22 38) (getV b 2 2) (getV b 4 2) (byteN b 1) = true ∧ bS (byteN b 0 : Int) (b.extract 6 22) (b.extract 22 38) (getV b 2 2) (getV b 4 2) (byteN b 1) = b) → r = .tuple #[.agg #[.int .i64 (byteN b 0 : Int), .string (b.extract 6 22), .string (b.extract 22 38), .int .i64 (getV b 2 2), .int .i64 (getV b 4 2), .int .i64 (byteN b 1)], .bool true]) (hbd : ¬ (bR (byteN b 0 : Int) (b.extract 6 22) (b.extract 22 38) (getV b 2 2) (getV b 4 2) (byteN b 1) = true ∧ bS (byteN b 0 : Int) (b.extract 6 22) (b.extract 22 38) (getV b 2 2) (getV b 4 2) (byteN b 1) = b) → r = .tuple #[.agg #[.int .i64 0, .string ⟨#[]⟩, .string ⟨#[]⟩, .int .i64 0, .int .i64 0, .int .i64 0], .bool false]) :
    Calls Try.prog 31 #[.string b] w fun e w' => e = .returned (r) ∧ Below w.heap.size w w' := by
  have d : ((b.size : Int) != 38) = false := by rw [bne_eq_false_iff_eq]; omega
  have g0 : 0 < b.size := by omega
  have g1 : 1 < b.size := by omega
  have e0 := byteN_get b 0 g0
  have hb0 := byteN_lt b 0
  have hw0 : wrap64 (byteN b 0 : Int) = (byteN b 0 : Int) := by unfold wrap64; omega
  have hi0 : IntKind.i64.wrap (byteN b 0 : Int) = (byteN b 0 : Int) := IntWalk.i64_in _ (by omega)
  have d4 : ((byteN b 0 : Int) == 4) = false := by rw [beq_eq_false_iff_ne]; omega
  have e1 := byteN_get b 1 g1
  have hb1 := byteN_lt b 1
  have hw1 : wrap64 (byteN b 1 : Int) = (byteN b 1 : Int) := by unfold wrap64; omega
  have hi1 : IntKind.i64.wrap (byteN b 1 : Int) = (byteN b 1 : Int) := IntWalk.i64_in _ (by omega)
  have x1 : (22 : Int) ≤ (b.size : Int) := by omega
  have x2 : (38 : Int) ≤ (b.size : Int) := by omega
  have k1 : IntKind.i64.wrap 22 = 22 := IntWalk.i64_in _ (by omega)
  have k2 : IntKind.i64.wrap 38 = 38 := IntWalk.i64_in _ (by omega)
  have k3 : IntKind.i64.wrap (6 + 16) = 22 := IntWalk.i64_in _ (by omega)
  have k4 : IntKind.i64.wrap (22 + 16) = 38 := IntWalk.i64_in _ (by omega)
  have C1 := fun w => Lib.hid (word_calls b 2 (by omega) w)
  have C2 := fun w => Lib.hid (word_calls b 4 (by omega) w)
  have C4 := fun w => Lib.hid (refBytes_calls (byteN b 0 : Int) (b.extract 6 22) (b.extract 22 38) (getV b 2 2) (getV b 4 2) (byteN b 1) w)
  generalize bS (byteN b 0 : Int) (b.extract 6 22) (b.extract 22 38) (getV b 2 2) (getV b 4 2) (byteN b 1) = S at *
  generalize bR (byteN b 0 : Int) (b.extract 6 22) (b.extract 22 38) (getV b 2 2) (getV b 4 2) (byteN b 1) = R at *
  generalize getV b 2 2 = X at *
  generalize getV b 4 2 = Y at *
  have HG := Lib.hid hg
  have HBD := Lib.hid hbd
  clear h hv hg hbd
  go_enter Try.func31, Try.ntmps31
  have K0 := Ky.new 40 0 ⟨#[]⟩ ⟨#[]⟩ 0 0 0 w
  have B0 := (Below.refl w.heap.size w).alloc (Nat.le_refl _) (.cells #[.int .i64 0, .string ⟨#[]⟩, .string ⟨#[]⟩, .int .i64 0, .int .i64 0, .int .i64 0] 40)
  go_upto_region 6 with fail
  go_cut [5] from 15 to 33 (fun u wx => u = .pointer (some ⟨w.heap.size + 1, 0, none⟩) ∧ wx = ((w.alloc (.cells #[.int .i64 0, .string ⟨#[]⟩, .string ⟨#[]⟩, .int .i64 0, .int .i64 0, .int .i64 0] 40)).alloc (.cells #[.int .i64 (byteN b 0 : Int), .string (b.extract 6 22), .string (b.extract 22 38), .int .i64 X, .int .i64 Y, .int .i64 (byteN b 1)] 40)).drew)
  case first =>
    clear C4 K0 B0 HG HBD hs
    go_region_held3 (fun w' => True)
      (exact trivial)
      (first
        | (go_at_call 34; (with_reducible refine ((C1 _).out).mono ?_); rintro e w1 ⟨rfl, rfl⟩)
        | (go_at_call 34; (with_reducible refine ((C2 _).out).mono ?_); rintro e w1 ⟨rfl, rfl⟩))
    all_goals
      go_wp2_with fail
      go_meet
      exact ⟨rfl, by first | rfl | simp only [hi1] | simp only [hi0, hi1]⟩
  case rest =>
    obtain ⟨rfl, rfl⟩ := hcut
    go_wp2_with (go_at_call 29; with_reducible refine (C4 _).out.mono ?_)
    rintro e w4 ⟨rfl, hb4⟩
    have Y1 := ((Ky.new 40 (byteN b 0 : Int) (b.extract 6 22) (b.extract 22 38) X Y (byteN b 1) (w.alloc (.cells #[.int .i64 0, .string ⟨#[]⟩, .string ⟨#[]⟩, .int .i64 0, .int .i64 0, .int .i64 0] 40))).drew).later hb4
    have K1 := ((K0.alloc (.cells #[.int .i64 (byteN b 0 : Int), .string (b.extract 6 22), .string (b.extract 22 38), .int .i64 X, .int .i64 Y, .int .i64 (byteN b 1)] 40)).drew).later hb4
    have B1 := bl (B0.alloc B0.size (.cells #[.int .i64 (byteN b 0 : Int), .string (b.extract 6 22), .string (b.extract 22 38), .int .i64 X, .int .i64 Y, .int .i64 (byteN b 1)] 40)).drew hb4
    simp only [World.size_alloc] at Y1
    clear hb4 K0 B0
    obtain ⟨y0, y1, y2, y3, y4, y5⟩ := Y1.cells
    obtain ⟨r0, r1, r2, r3, r4, r5⟩ := K1.cells
    obtain ⟨f0, f1, f2, f3, f4, f5⟩ := K1.frozen
    have hgg := HG.out
    have hbb := HBD.out
    clear HG HBD
    by_cases hG : R = true ∧ S = b
    · obtain rfl := hgg hG
      clear hgg hbb
      have hS : (S.toList == b.toList) = true := by rw [hG.2]; exact beq_self_eq_true _
      obtain ⟨hR, hS2⟩ := hG
      subst hR
      clear hS2
      obtain ⟨s0, s1, s2, s3, s4, s5⟩ := K1.set (.int .i64 (byteN b 0 : Int)) (.string (b.extract 6 22)) (.string (b.extract 22 38)) (.int .i64 X) (.int .i64 Y) (.int .i64 (byteN b 1))
      clear K1 Y1
      go_wp2_with fail
      refine bodyPost_ret (v := .tuple #[.agg #[.int .i64 (byteN b 0 : Int), .string (b.extract 6 22), .string (b.extract 22 38), .int .i64 X, .int .i64 Y, .int .i64 (byteN b 1)], .bool true]) (by simp [results, Try.results31, go_sem, s0, s1, s2, s3, s4, s5]) rfl ⟨rfl, below_set6' (Nat.le_refl _) B1 _ _ _ _ _ _⟩
    · obtain rfl := hbb hG
      clear hgg hbb
      cases R with
      | true =>
        have hS : (S.toList == b.toList) = false := by
          rw [beq_eq_false_iff_ne]
          intro h
          rw [ByteArray.toList_eq, ByteArray.toList_eq] at h
          exact hG ⟨rfl, ba_ext h⟩
        clear hG
        obtain ⟨s0, s1, s2, s3, s4, s5⟩ := K1.set (.int .i64 0) (.string ⟨#[]⟩) (.string ⟨#[]⟩) (.int .i64 0) (.int .i64 0) (.int .i64 0)
        clear K1 Y1
        go_wp2_with fail
        refine bodyPost_ret (v := .tuple #[.agg #[.int .i64 0, .string ⟨#[]⟩, .string ⟨#[]⟩, .int .i64 0, .int .i64 0, .int .i64 0], .bool false]) (by simp [results, Try.results31, go_sem, s0, s1, s2, s3, s4, s5]) rfl ⟨rfl, below_set6' (Nat.le_refl _) B1 _ _ _ _ _ _⟩
      | false =>
        clear hG
        obtain ⟨s0, s1, s2, s3, s4, s5⟩ := K1.set (.int .i64 0) (.string ⟨#[]⟩) (.string ⟨#[]⟩) (.int .i64 0) (.int .i64 0) (.int .i64 0)
        clear K1 Y1
        go_wp2_with fail
        refine bodyPost_ret (v := .tuple #[.agg #[.int .i64 0, .string ⟨#[]⟩, .string ⟨#[]⟩, .int .i64 0, .int .i64 0, .int .i64 0], .bool false]) (by simp [results, Try.results31, go_sem, s0, s1, s2, s3, s4, s5]) rfl ⟨rfl, below_set6' (Nat.le_refl _) B1 _ _ _ _ _ _⟩

end Go.Proofs.Ytjfijllnmjajpaa
