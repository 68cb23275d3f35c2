/- gangplankref07.Right, wide, Bytes: what they answer. -/
import Derived.WalkKit
import Derived.Lib.Hide
import Derived.Deep.CutRange
import Derived.Laws.IdiomStrings
import Derived.BigQuiet
import Derived.Deep.QuietTactic
import Derived.Test.YtjfijllnmjajpaaBy
import Derived.Test.YtjfijllnmjajpaaRq
set_option linter.unusedSimpArgs false
set_option linter.unusedVariables false
namespace Go.Proofs.Ytjfijllnmjajpaa
open Go.RowKit Go.BigFrame

/-- Some zeros behind a text. -/
def padN (s : ByteArray) (k : Nat) : ByteArray := s ++ ⟨(List.replicate k 0).toArray⟩
theorem padN_succ (s : ByteArray) (k : Nat) : padN s (k + 1) = padN s k ++ ⟨#[0]⟩ := by
  apply ba_ext
  rw [ba_app, padN, padN, ba_app, ba_app, List.append_assoc]
  congr 1
  show List.replicate (k + 1) 0 = List.replicate k 0 ++ [0]
  rw [List.replicate_succ']
theorem padN_size (s : ByteArray) (k : Nat) : (padN s k).size = s.size + k := by
  rw [padN, ByteArray.size_append]
  congr 1
  show (List.replicate k (0 : UInt8)).toArray.size = k
  simp

/-- How long a text is. -/
def strN : Value → Nat
  | .string y => y.size
  | _ => 0

set_option maxHeartbeats 2000000 in
set_option maxRecDepth 100000 in
theorem wide_calls (s : ByteArray) (hs : s.size ≤ 9223372036854775807) (w : World) :
    Calls Try.prog 47 #[.string s] w fun e w' => e = .returned (.string (wide s)) ∧ w = w' := by
  have h0 : padN s 0 = s := ByteArray.append_empty
  have hw : wide s = padN s (16 - s.size) := rfl
  rw [hw]
  have HW := Lib.hid hw
  clear hw
  go_enter Try.func47, Try.ntmps47
  go_wp2_with fail
  go_loopw [0, 3, 4, 5, 6, 7] (fun x _ _ _ _ _ wr => ∃ k : Nat, k ≤ 16 - s.size ∧ x = .string (padN s k) ∧ wr = w) (fun x _ _ _ _ _ _ => 16 - strN x)
  case atStart => exact ⟨0, Nat.zero_le _, by rw [h0], rfl⟩
  case round =>
    obtain ⟨k, hk, rfl, rfl⟩ := hrel
    have hz := padN_size s k
    have hsu := padN_succ s k
    obtain ⟨X, hX⟩ : ∃ X, X = padN s k := ⟨_, rfl⟩
    rw [← hX] at hz hsu ⊢
    have HX := Lib.hid hX
    have HS := Lib.hid hsu
    have HZ := Lib.hid hz
    have z1 : (⟨#[0]⟩ : ByteArray).size = 1 := rfl
    by_cases hlt : X.size < 16
    · have d : decide ((X.size : Int) < 16) = true := by simp; omega
      have n1 : ¬ (9223372036854775807 < X.size + 1) := by omega
      have hk1 : k + 1 ≤ 16 - s.size := by omega
      have hm : 16 - (X.size + 1) < 16 - X.size := by omega
      clear hz hsu hX hk
      go_wp2_with fail
      go_roundw
      case rel => exact ⟨k + 1, hk1, by rw [HS.out], by first | rfl | trivial⟩
      case measure =>
        show 16 - (X ++ ⟨#[0]⟩).size < 16 - X.size
        rw [ByteArray.size_append]
        exact hm
    · have d : decide ((X.size : Int) < 16) = false := by simp; omega
      have hke : k = 16 - s.size := by omega
      have HK := Lib.hid hke
      clear hz hsu hX hk hke hlt
      go_wp2_with fail
      go_ret
      exact ⟨by rw [HX.out, HK.out]; rfl, rfl⟩

set_option maxHeartbeats 2000000 in
set_option maxRecDepth 100000 in
theorem right_calls (v : Int) (a b : ByteArray) (f t p : Int) (w : World) :
    Calls Try.prog 46 #[.agg #[.int .i64 v, .string a, .string b, .int .i64 f, .int .i64 t, .int .i64 p]] w fun e w' => e = .returned (.bool (bR v a b f t p)) ∧ Below w.heap.size w w' := by
  have hR : bR v a b f t p = (((((v == 4) && ((a.size : Int) == 4)) && ((b.size : Int) == 4)) || (((v == 6) && ((a.size : Int) == 16)) && ((b.size : Int) == 16))) && (((decide (0 ≤ f) && decide (f ≤ 65535)) && decide (0 ≤ t)) && decide (t ≤ 65535)) && ((p == 6) || (p == 17))) := by
    rw [Bool.eq_iff_iff, bR_iff]
    simp only [Bool.and_eq_true_iff, Bool.or_eq_true_iff, decide_eq_true_eq, beq_iff_eq]
    omega
  rw [hR]
  have HR := Lib.hid hR
  clear hR
  obtain ⟨W, hW⟩ : ∃ W : World, W = w.alloc (.cells #[.int .i64 v, .string a, .string b, .int .i64 f, .int .i64 t, .int .i64 p] 40) := ⟨_, rfl⟩
  have K := Ky.new 40 v a b f t p w
  have hB : Below w.heap.size w W := by rw [hW]; exact (Below.refl _ _).alloc (Nat.le_refl _) _
  rw [← hW] at K
  obtain ⟨q0, q1, q2, q3, q4, q5⟩ := K.cells
  have HW := Lib.hid hW
  clear hW K
  go_enter Try.func46, Try.ntmps46
  go_upto_region 1 with fail
  rw [← HW.out]
  go_cut [3] from 6 to 20 (fun u wx => u = .bool (((v == 4) && ((a.size : Int) == 4)) && ((b.size : Int) == 4)) ∧ wx = W)
  case first =>
    cases h0 : (v == 4) with
    | false =>
      go_wp2_with fail
      go_meet
      exact ⟨by rw [h0]; rfl, rfl⟩
    | true =>
      cases h1 : ((a.size : Int) == 4) with
      | false =>
        go_wp2_with fail
        go_meet
        exact ⟨by rw [h0, h1]; rfl, rfl⟩
      | true =>
        cases h2 : ((b.size : Int) == 4) with
        | false =>
          go_wp2_with fail
          go_meet
          exact ⟨by rw [h0, h1, h2]; rfl, rfl⟩
        | true =>
          go_wp2_with fail
          go_meet
          exact ⟨by rw [h0, h1, h2]; rfl, rfl⟩
  case rest =>
    obtain ⟨rfl, rfl⟩ := hcut
    go_upto_region 2 with fail
    go_cut [4] from 21 to 35 (fun u wx => u = .bool (((v == 6) && ((a.size : Int) == 16)) && ((b.size : Int) == 16)) ∧ wx = wc)
    case first =>
      cases h0 : (v == 6) with
      | false =>
        go_wp2_with fail
        go_meet
        exact ⟨by rw [h0]; rfl, rfl⟩
      | true =>
        cases h1 : ((a.size : Int) == 16) with
        | false =>
          go_wp2_with fail
          go_meet
          exact ⟨by rw [h0, h1]; rfl, rfl⟩
        | true =>
          cases h2 : ((b.size : Int) == 16) with
          | false =>
            go_wp2_with fail
            go_meet
            exact ⟨by rw [h0, h1, h2]; rfl, rfl⟩
          | true =>
            go_wp2_with fail
            go_meet
            exact ⟨by rw [h0, h1, h2]; rfl, rfl⟩
    case rest =>
      obtain ⟨rfl, rfl⟩ := hcut
      go_upto_region 3 with fail
      go_cut [5] from 36 to 53 (fun u wx => u = .bool (((decide (0 ≤ f) && decide (f ≤ 65535)) && decide (0 ≤ t)) && decide (t ≤ 65535)) ∧ wx = wc)
      case first =>
        cases h0 : decide (0 ≤ f) with
        | false =>
          go_wp2_with fail
          go_meet
          exact ⟨by rw [h0]; rfl, rfl⟩
        | true =>
          cases h1 : decide (f ≤ 65535) with
          | false =>
            go_wp2_with fail
            go_meet
            exact ⟨by rw [h0, h1]; rfl, rfl⟩
          | true =>
            cases h2 : decide (0 ≤ t) with
            | false =>
              go_wp2_with fail
              go_meet
              exact ⟨by rw [h0, h1, h2]; rfl, rfl⟩
            | true =>
              cases h3 : decide (t ≤ 65535) with
              | false =>
                go_wp2_with fail
                go_meet
                exact ⟨by rw [h0, h1, h2, h3]; rfl, rfl⟩
              | true =>
                go_wp2_with fail
                go_meet
                exact ⟨by rw [h0, h1, h2, h3]; rfl, rfl⟩
      case rest =>
        obtain ⟨rfl, rfl⟩ := hcut
        generalize h4 : (((v == 4) && ((a.size : Int) == 4)) && ((b.size : Int) == 4)) = B4
        generalize h6 : (((v == 6) && ((a.size : Int) == 16)) && ((b.size : Int) == 16)) = B6
        generalize hP : (((decide (0 ≤ f) && decide (f ≤ 65535)) && decide (0 ≤ t)) && decide (t ≤ 65535)) = BP
        have H4 := Lib.hid h4
        have H6 := Lib.hid h6
        have HP := Lib.hid hP
        clear h4 h6 hP
        cases d6 : (p == 6) <;> cases d17 : (p == 17) <;> cases B4 <;> cases B6 <;> cases BP <;>
          (go_wp2_with fail; go_ret; exact ⟨by rw [H4.out, H6.out, HP.out, d6, d17]; rfl, hB⟩)

set_option maxHeartbeats 2000000 in
set_option maxRecDepth 100000 in
theorem rb_no (v : Int) (a b : ByteArray) (f t p : Int) (w : World) (hR : bR v a b f t p = false) :
    Calls Try.prog 29 #[.agg #[.int .i64 v, .string a, .string b, .int .i64 f, .int .i64 t, .int .i64 p]] w fun e w' => e = .returned (.tuple #[.string ⟨#[]⟩, .bool false]) ∧ Below w.heap.size w w' := by
  have c1 := right_calls v a b f t p
  rw [hR] at c1
  have C1 := fun w => Lib.hid (c1 w)
  clear c1 hR
  go_enter Try.func29, Try.ntmps29
  go_wp2_with (go_at_call 46; with_reducible refine (C1 _).out.mono ?_)
  rintro e w1 ⟨rfl, hb1⟩
  have B1 := bl ((Below.refl w.heap.size w).alloc (Nat.le_refl _) (.cells #[.int .i64 v, .string a, .string b, .int .i64 f, .int .i64 t, .int .i64 p] 40)) hb1
  clear hb1
  go_wp2_with fail
  go_ret2
  exact ⟨rfl, B1⟩

set_option maxHeartbeats 2000000 in
set_option maxRecDepth 100000 in
theorem rb_ok (v : Int) (a b : ByteArray) (f t p : Int) (w : World) (hR : bR v a b f t p = true) :
    Calls Try.prog 29 #[.agg #[.int .i64 v, .string a, .string b, .int .i64 f, .int .i64 t, .int .i64 p]] w fun e w' => e = .returned (.tuple #[.string (bX v a b f t p), .bool true]) ∧ Below w.heap.size w w' := by
  have c1 := right_calls v a b f t p
  rw [hR] at c1
  have C1 := fun w => Lib.hid (c1 w)
  have h := (bR_iff v a b f t p).1 hR
  have P1 := fun w => Lib.hid (refPut_calls v 1 (by omega) (by omega) w)
  have P2 := fun w => Lib.hid (refPut_calls p 1 (by omega) (by omega) w)
  have P3 := fun w => Lib.hid (refPut_calls f 2 (by omega) (by omega) w)
  have P4 := fun w => Lib.hid (refPut_calls t 2 (by omega) (by omega) w)
  have D1 := fun w => Lib.hid (wide_calls a (by omega) w)
  have D2 := fun w => Lib.hid (wide_calls b (by omega) w)
  have hwv : IntKind.u64.wrap v = v := by rw [IntKind.wrap_u64]; omega
  have hwp : IntKind.u64.wrap p = p := by rw [IntKind.wrap_u64]; omega
  have hwf : IntKind.u64.wrap f = f := by rw [IntKind.wrap_u64]; omega
  have hwt : IntKind.u64.wrap t = t := by rw [IntKind.wrap_u64]; omega
  have s1 : (putS v 1).size = 1 := by have := putS_size v 1; simp at this; omega
  have s2 : (putS p 1).size = 1 := by have := putS_size p 1; simp at this; omega
  have s3 : (putS f 2).size = 2 := by have := putS_size f 2; simp at this; omega
  have s4 : (putS t 2).size = 2 := by have := putS_size t 2; simp at this; omega
  have s5 : (wide a).size = 16 := by
    have e : wide a = padN a (16 - a.size) := rfl
    rw [e, padN_size]; omega
  have s6 : (wide b).size = 16 := by
    have e : wide b = padN b (16 - b.size) := rfl
    rw [e, padN_size]; omega
  have hX : bX v a b f t p = (putS v 1 ++ putS p 1) ++ (putS f 2 ++ putS t 2) ++ wide a ++ wide b := rfl
  rw [hX]
  have HX := Lib.hid hX
  clear c1 hR h hX
  generalize putS v 1 = S1 at *
  generalize putS p 1 = S2 at *
  generalize putS f 2 = S3 at *
  generalize putS t 2 = S4 at *
  generalize wide a = S5 at *
  generalize wide b = S6 at *
  go_enter Try.func29, Try.ntmps29
  go_wp2_with (go_at_call 46; with_reducible refine (C1 _).out.mono ?_)
  rintro e w1 ⟨rfl, hb1⟩
  have K1 := (Ky.new 40 v a b f t p w).later hb1
  have B1 := bl ((Below.refl w.heap.size w).alloc (Nat.le_refl _) (.cells #[.int .i64 v, .string a, .string b, .int .i64 f, .int .i64 t, .int .i64 p] 40)) hb1
  clear hb1
  have q : ∀ x : Later w1, Ky 40 w.heap.size v a b f t p x.world := fun x => K1.later x.below
  have q0 : ∀ x : Later w1, x.world.cell? ⟨w.heap.size, 0, none⟩ = some (.int .i64 v) := fun x => (q x).cells.1
  have q1 : ∀ x : Later w1, x.world.cell? ⟨w.heap.size, 1, none⟩ = some (.string a) := fun x => (q x).cells.2.1
  have q2 : ∀ x : Later w1, x.world.cell? ⟨w.heap.size, 2, none⟩ = some (.string b) := fun x => (q x).cells.2.2.1
  have q3 : ∀ x : Later w1, x.world.cell? ⟨w.heap.size, 3, none⟩ = some (.int .i64 f) := fun x => (q x).cells.2.2.2.1
  have q4 : ∀ x : Later w1, x.world.cell? ⟨w.heap.size, 4, none⟩ = some (.int .i64 t) := fun x => (q x).cells.2.2.2.2.1
  have q5 : ∀ x : Later w1, x.world.cell? ⟨w.heap.size, 5, none⟩ = some (.int .i64 p) := fun x => (q x).cells.2.2.2.2.2
  clear q K1
  go_wp2_with fail
  refine wp_region_later (by kernel_rfl) (by kernel_rfl) ?_
  repeat (go_big_quiet_step ((go_at_call 37; first | with_reducible exact calls_later (P1 _).out | with_reducible exact calls_later (P2 _).out)))
  refine wpQuiet_nil ?_
  rintro _ ⟨x, rfl⟩
  have K2 : ∀ y : Later x.world, ∃ z : Later w1, z.world = y.world := fun y => ⟨⟨y.world, x.below.trans (y.below.mono x.below.size)⟩, rfl⟩
  have y3 : ∀ y : Later x.world, y.world.cell? ⟨w.heap.size, 3, none⟩ = some (.int .i64 f) := fun y => by obtain ⟨z, hz⟩ := K2 y; rw [← hz]; exact q3 z
  have y4 : ∀ y : Later x.world, y.world.cell? ⟨w.heap.size, 4, none⟩ = some (.int .i64 t) := fun y => by obtain ⟨z, hz⟩ := K2 y; rw [← hz]; exact q4 z
  go_wp2_with fail
  refine wp_region_later (by kernel_rfl) (by kernel_rfl) ?_
  repeat (go_big_quiet_step ((go_at_call 37; first | with_reducible exact calls_later (P3 _).out | with_reducible exact calls_later (P4 _).out)))
  refine wpQuiet_nil ?_
  rintro _ ⟨y, rfl⟩
  have K3 : ∀ z : Later y.world, ∃ z' : Later w1, z'.world = z.world := fun z => ⟨⟨z.world, (x.below.trans (y.below.mono x.below.size)).trans (z.below.mono (Nat.le_trans x.below.size y.below.size))⟩, rfl⟩
  have z1 : ∀ z : Later y.world, z.world.cell? ⟨w.heap.size, 1, none⟩ = some (.string a) := fun z => by obtain ⟨z', hz⟩ := K3 z; rw [← hz]; exact q1 z'
  have z2 : ∀ z : Later y.world, z.world.cell? ⟨w.heap.size, 2, none⟩ = some (.string b) := fun z => by obtain ⟨z', hz⟩ := K3 z; rw [← hz]; exact q2 z'
  go_wp2_with fail
  refine wp_region_later (by kernel_rfl) (by kernel_rfl) ?_
  repeat (go_big_quiet_step ((go_at_call 47; first | with_reducible exact calls_later_same (D1 _).out | with_reducible exact calls_later_same (D2 _).out)))
  refine wpQuiet_nil ?_
  rintro _ ⟨z, rfl⟩
  have hB : Below w.heap.size w z.world := bl (bl (bl B1 x.below) y.below) z.below
  clear K2 K3 q0 q1 q2 q3 q4 q5 y3 y4 z1 z2
  go_wp2_with fail
  go_ret2
  exact ⟨rfl, hB⟩

theorem refBytes_calls (v : Int) (a b : ByteArray) (f t p : Int) (w : World) :
    Calls Try.prog 29 #[.agg #[.int .i64 v, .string a, .string b, .int .i64 f, .int .i64 t, .int .i64 p]] w fun e w' => e = .returned (.tuple #[.string (bS v a b f t p), .bool (bR v a b f t p)]) ∧ Below w.heap.size w w' := by
  cases hR : bR v a b f t p with
  | false =>
    unfold bS
    rw [if_neg (by rw [hR]; decide)]
    exact rb_no v a b f t p w hR
  | true =>
    unfold bS
    rw [if_pos hR]
    exact rb_ok v a b f t p w hR
end Go.Proofs.Ytjfijllnmjajpaa
