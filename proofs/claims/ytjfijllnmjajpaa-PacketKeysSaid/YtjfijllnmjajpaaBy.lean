/- packet.long, packet.Bytes: what they answer. -/
import Derived.WalkKit
import Derived.Lib.Hide
import Derived.Deep.CutRange
import Derived.Deep.RegionHeld3
import Derived.Laws.IdiomStrings
import Derived.Test.YtjfijllnmjajpaaPp
import Derived.Test.YtjfijllnmjajpaaSk
import Derived.Test.YtjfijllnmjajpaaAr
set_option linter.unusedSimpArgs false
set_option linter.unusedVariables false
namespace Go.Proofs.Ytjfijllnmjajpaa
open Go.RowKit Go.BigFrame

/-- A key's block. -/
def Ky (T n : Nat) (v : Int) (a b : ByteArray) (f t p : Int) (w : World) : Prop := w.heap[n]? = some (.cells #[.int .i64 v, .string a, .string b, .int .i64 f, .int .i64 t, .int .i64 p] T (0, 0))
theorem Ky.new (T : Nat) (v : Int) (a b : ByteArray) (f t p : Int) (w : World) : Ky T w.heap.size v a b f t p (w.alloc (.cells #[.int .i64 v, .string a, .string b, .int .i64 f, .int .i64 t, .int .i64 p] T)) := heap_alloc_new w _
theorem Ky.later {T n : Nat} {v : Int} {a b : ByteArray} {f t p : Int} {w w' : World} (h : Ky T n v a b f t p w) (hb : Below w.heap.size w w') : Ky T n v a b f t p w' := (hb.block n (Array.getElem?_eq_some_iff.1 h).1).trans h
theorem Ky.alloc {T n : Nat} {v : Int} {a b : ByteArray} {f t p : Int} {w : World} (h : Ky T n v a b f t p w) (o : Obj) : Ky T n v a b f t p (w.alloc o) := h.later ((Below.refl _ _).alloc (Nat.le_refl _) _)
theorem Ky.cells {T n : Nat} {v : Int} {a b : ByteArray} {f t p : Int} {w : World} (h : Ky T n v a b f t p w) :
    w.cell? ⟨n, 0, none⟩ = some (.int .i64 v) ∧ w.cell? ⟨n, 1, none⟩ = some (.string a) ∧ w.cell? ⟨n, 2, none⟩ = some (.string b) ∧ w.cell? ⟨n, 3, none⟩ = some (.int .i64 f) ∧ w.cell? ⟨n, 4, none⟩ = some (.int .i64 t) ∧ w.cell? ⟨n, 5, none⟩ = some (.int .i64 p) := by
  unfold Ky at h
  refine ⟨?_, ?_, ?_, ?_, ?_, ?_⟩ <;> simp [World.cell?, h]

set_option maxHeartbeats 1000000 in
set_option maxRecDepth 100000 in
theorem long_calls (v : Int) (w : World) : Calls Try.prog 44 #[.int .i64 v] w fun e w' => e = .returned (.int .i64 (if v = 4 then 4 else if v = 6 then 16 else 0)) ∧ w = w' := by
  by_cases h4 : v = 4
  · have d4 : (v == 4) = true := by simpa using h4
    rw [if_pos h4]
    clear h4
    go_enter Try.func44, Try.ntmps44
    go_wp2
    go_ret
    exact ⟨rfl, rfl⟩
  · have d4 : (v == 4) = false := by simpa using h4
    rw [if_neg h4]
    by_cases h6 : v = 6
    · have d6 : (v == 6) = true := by simpa using h6
      rw [if_pos h6]
      clear h4 h6
      go_enter Try.func44, Try.ntmps44
      go_wp2
      go_ret
      exact ⟨rfl, rfl⟩
    · have d6 : (v == 6) = false := by simpa using h6
      rw [if_neg h6]
      clear h4 h6
      go_enter Try.func44, Try.ntmps44
      go_wp2
      go_ret
      exact ⟨rfl, rfl⟩

theorem rows38 (X A B : List UInt8) (n : Nat) (hX : X.length = 6) (hA : A.length = n) (hB : B.length = n) (hn : n = 4 ∨ n = 16) :
    ((X ++ List.replicate 32 0).take 6 ++ A ++ (X ++ List.replicate 32 0).drop (6 + n)).take 22 ++ B ++ ((X ++ List.replicate 32 0).take 6 ++ A ++ (X ++ List.replicate 32 0).drop (6 + n)).drop (22 + n) = X ++ (A ++ List.replicate (16 - n) 0) ++ (B ++ List.replicate (16 - n) 0) := by
  rcases hn with rfl | rfl <;> simp [List.take_append, List.drop_append, List.take_of_length_le, List.drop_of_length_le, hX, hA, hB]
theorem wide_list (s : ByteArray) : (wide s).data.toList = s.data.toList ++ List.replicate (16 - s.size) 0 := by
  unfold wide; rw [ba_app]

/-- What packet.Bytes stands at: its argument's block, and its array. -/
structure Bst (n m : Nat) (l : List UInt8) (v : Int) (a b : ByteArray) (f t p : Int) (w0 w : World) : Prop where
  key : Ky 40 n v a b f t p w
  arr : Arr m l w
  bel : Below w0.heap.size w0 w
theorem Bst.later {n m : Nat} {l : List UInt8} {v : Int} {a b : ByteArray} {f t p : Int} {w0 w w' : World} (h : Bst n m l v a b f t p w0 w) (hb : Below w.heap.size w w') : Bst n m l v a b f t p w0 w' :=
  ⟨h.key.later hb, h.arr.later hb, h.bel.trans (hb.mono h.bel.size)⟩
theorem Bst.wrote {n m : Nat} {l l' : List UInt8} {v : Int} {a b : ByteArray} {f t p : Int} {w0 w w' : World} (h : Bst n m l v a b f t p w0 w) (hw : Wrote m l' w w') (hm : w0.heap.size ≤ m) (hn : n ≠ m) : Bst n m l' v a b f t p w0 w' :=
  ⟨(hw.other n hn).trans h.key, hw.arr, hw.below hm h.bel⟩

/-- A call of octet.Put within packet.Bytes, and the copy that may come behind it. -/
theorem put_in (n m : Nat) (v : Int) (a b : ByteArray) (f t p : Int) (w0 : World) (hm : w0.heap.size ≤ m) (hn : n ≠ m) (X : ByteArray) (hX : X.size = 6) (x : Int) (hx : 0 ≤ x) (S : ByteArray) (hS : putS x 2 = S) (w : World) (h : Bst n m (List.replicate 38 0) v a b f t p w0 w) :
    Calls Try.prog 45 #[.int .u64 x, .int .i64 2] w fun e w' => e = .returned (.string S) ∧ Bst n m (List.replicate 38 0) v a b f t p w0 w' ∧
      w'.cell? ⟨n, 0, none⟩ = some (.int .i64 v) ∧ w'.cell? ⟨n, 3, none⟩ = some (.int .i64 f) ∧ w'.cell? ⟨n, 4, none⟩ = some (.int .i64 t) ∧ w'.cell? ⟨n, 5, none⟩ = some (.int .i64 p) ∧
      ∃ w'', (∀ ty, (Builtin.copy_ #[87, 9] ty #[.slice (some ⟨m, 0, none⟩) 38 38, .string X]).run Try.prog w' = .ok (goInt 6) w'') ∧ Bst n m (X.data.toList ++ List.replicate 32 0) v a b f t p w0 w'' ∧
        w''.cell? ⟨n, 0, none⟩ = some (.int .i64 v) ∧ w''.cell? ⟨n, 3, none⟩ = some (.int .i64 f) ∧ w''.cell? ⟨n, 4, none⟩ = some (.int .i64 t) ∧ w''.cell? ⟨n, 5, none⟩ = some (.int .i64 p) := by
  subst hS
  refine (Put_calls x 2 hx w).mono ?_
  rintro e w' ⟨he, hb⟩
  have h1 := h.later hb
  obtain ⟨c0, _, _, c3, c4, c5⟩ := h1.key.cells
  obtain ⟨w'', hr, hw⟩ := copy_row m 0 38 38 (List.replicate 38 0) X w' h1.arr (by omega) (by rw [hX]; decide)
  have e1 : (List.replicate 38 (0 : UInt8)).take 0 ++ X.data.toList ++ (List.replicate 38 0).drop (0 + X.size) = X.data.toList ++ List.replicate 32 0 := by rw [hX]; rfl
  rw [e1] at hw
  have h2 := h1.wrote hw hm hn
  obtain ⟨d0, _, _, d3, d4, d5⟩ := h2.key.cells
  rw [hX] at hr
  exact ⟨he, h1, c0, c3, c4, c5, w'', hr, h2, d0, d3, d4, d5⟩

theorem drew_cell {w : World} {a : Addr} {u : Value} (h : w.cell? a = some u) : w.drew.cell? a = some u := h
theorem Bst.drew {n m : Nat} {l : List UInt8} {v : Int} {a b : ByteArray} {f t p : Int} {w0 w : World} (h : Bst n m l v a b f t p w0 w) : Bst n m l v a b f t p w0 w.drew := ⟨h.key, h.arr, h.bel.drew⟩

set_option maxHeartbeats 4000000 in
set_option maxRecDepth 100000 in
theorem by_ok (v : Int) (a b : ByteArray) (f t p : Int) (w : World) (hv : v = 4 ∨ v = 6) (hp : p = 6 ∨ p = 17) (n : Nat) (hn : n = if v = 4 then 4 else 16) (ha : a.size = n) (hb : b.size = n) (hf0 : 0 ≤ f) (hf : f ≤ 65535) (ht0 : 0 ≤ t) (ht : t ≤ 65535) :
    Calls Try.prog 28 #[.agg #[.int .i64 v, .string a, .string b, .int .i64 f, .int .i64 t, .int .i64 p]] w fun e w' => e = .returned (.tuple #[.string (bX v a b f t p), .bool true]) ∧ Below w.heap.size w w' := by
  have hn0 : ((n : Int) == 0) = false := by simp; split at hn <;> omega
  have ea : ((a.size : Int) != (n : Int)) = false := by simp; omega
  have eb' : ((b.size : Int) != (n : Int)) = false := by simp; omega
  have c1 := long_calls v
  rw [show (if v = 4 then (4 : Int) else if v = 6 then 16 else 0) = (n : Int) by rw [hn]; rcases hv with rfl | rfl <;> rfl] at c1
  have c2 := portPut_calls p f t 0
  rw [(puE_iff p f t 0).2 (by omega)] at c2
  generalize puS p f t 0 = Z at *
  have C1 := fun w => Lib.hid (c1 w)
  have C2 := fun w => Lib.hid (c2 w)
  have s1 : (putS (v * 256 + p) 2).size = 2 := by have := putS_size (v * 256 + p) 2; simp at this; omega
  have s2 : (putS f 2).size = 2 := by have := putS_size f 2; simp at this; omega
  have s3 : (putS t 2).size = 2 := by have := putS_size t 2; simp at this; omega
  obtain ⟨S1, hS1⟩ : ∃ S, putS (v * 256 + p) 2 = S := ⟨_, rfl⟩
  obtain ⟨S2, hS2⟩ : ∃ S, putS f 2 = S := ⟨_, rfl⟩
  obtain ⟨S3, hS3⟩ : ∃ S, putS t 2 = S := ⟨_, rfl⟩
  rw [hS1] at s1
  rw [hS2] at s2
  rw [hS3] at s3
  have hX : (S1 ++ S2 ++ S3).size = 6 := by rw [ByteArray.size_append, ByteArray.size_append]; omega
  have D1 := fun n m w0 hm hn w h => Lib.hid (put_in n m v a b f t p w0 hm hn (S1 ++ S2 ++ S3) hX (v * 256 + p) (by omega) S1 hS1 w h)
  have D2 := fun n m w0 hm hn w h => Lib.hid (put_in n m v a b f t p w0 hm hn (S1 ++ S2 ++ S3) hX f hf0 S2 hS2 w h)
  have D3 := fun n m w0 hm hn w h => Lib.hid (put_in n m v a b f t p w0 hm hn (S1 ++ S2 ++ S3) hX t ht0 S3 hS3 w h)
  have hbX : (bX v a b f t p).data.toList = (((S1 ++ S2 ++ S3).data.toList ++ List.replicate 32 0).take 6 ++ a.data.toList ++ ((S1 ++ S2 ++ S3).data.toList ++ List.replicate 32 0).drop (6 + n)).take 22 ++ b.data.toList ++ (((S1 ++ S2 ++ S3).data.toList ++ List.replicate 32 0).take 6 ++ a.data.toList ++ ((S1 ++ S2 ++ S3).data.toList ++ List.replicate 32 0).drop (6 + n)).drop (22 + n) := by
    have hXY : (S1 ++ S2 ++ S3).data.toList = ((putS v 1 ++ putS p 1) ++ (putS f 2 ++ putS t 2)).data.toList := by
      rw [← hS1, ← hS2, ← hS3, ByteArray.append_assoc, ba_app, ba_app]
      congr 1
      rcases hv with rfl | rfl <;> rcases hp with rfl | rfl <;> rfl
    have hn' : n = 4 ∨ n = 16 := by split at hn <;> omega
    rw [bX, ba_app, ba_app, ← hXY, wide_list, wide_list, ha, hb]
    exact (rows38 _ _ _ n (by rw [Array.length_toList]; exact hX) (by rw [Array.length_toList]; exact ha) (by rw [Array.length_toList]; exact hb) hn').symm
  have hwv : IntKind.u64.wrap v = v := by rw [IntKind.wrap_u64]; omega
  have hwp : IntKind.u64.wrap p = p := by rw [IntKind.wrap_u64]; omega
  have hwf : IntKind.u64.wrap f = f := by rw [IntKind.wrap_u64]; omega
  have hwt : IntKind.u64.wrap t = t := by rw [IntKind.wrap_u64]; omega
  have hwm : IntKind.u64.wrap (v * 256) = v * 256 := by rw [IntKind.wrap_u64]; omega
  have hor : bits .or .u64 (v * 256) p = v * 256 + p := by rcases hv with rfl | rfl <;> rcases hp with rfl | rfl <;> decide
  have n1 : ¬ (9223372036854775807 < S1.size + S2.size) := by omega
  have n2 : ¬ (9223372036854775807 < S1.size + S2.size + S3.size) := by omega
  have hn16 : n ≤ 16 := by split at hn <;> omega
  have HV := Lib.hid hv
  have HP := Lib.hid hp
  have HN := Lib.hid hn
  have HA := Lib.hid ha
  have HB := Lib.hid hb
  have HX := Lib.hid hX
  have HBX := Lib.hid hbX
  have HN16 := Lib.hid hn16
  clear c1 c2 hv hp hn ha hb hX hbX hS1 hS2 hS3 hn16 hf0 hf ht0 ht
  go_enter Try.func28, Try.ntmps28
  go_wp2_with (go_at_call 44; with_reducible refine (C1 _).out.mono ?_)
  rintro e w1 ⟨rfl, rfl⟩
  go_wp2_with (go_at_call 18; with_reducible refine (C2 _).out.mono ?_)
  rintro e w2 ⟨rfl, hb2⟩
  have K0 := (Ky.new 40 v a b f t p w).later hb2
  have B0 := bl ((Below.refl w.heap.size w).alloc (Nat.le_refl _) (.cells #[.int .i64 v, .string a, .string b, .int .i64 f, .int .i64 t, .int .i64 p] 40)) hb2
  obtain ⟨q0, q1, q2, q3, q4, q5⟩ := K0.cells
  have A0 : Arr w2.heap.size (List.replicate 38 0) (w2.alloc (.cells #[.int .u8 0, .int .u8 0, .int .u8 0, .int .u8 0, .int .u8 0, .int .u8 0, .int .u8 0, .int .u8 0, .int .u8 0, .int .u8 0, .int .u8 0, .int .u8 0, .int .u8 0, .int .u8 0, .int .u8 0, .int .u8 0, .int .u8 0, .int .u8 0, .int .u8 0, .int .u8 0, .int .u8 0, .int .u8 0, .int .u8 0, .int .u8 0, .int .u8 0, .int .u8 0, .int .u8 0, .int .u8 0, .int .u8 0, .int .u8 0, .int .u8 0, .int .u8 0, .int .u8 0, .int .u8 0, .int .u8 0, .int .u8 0, .int .u8 0, .int .u8 0] 86)) := heap_alloc_new w2 _
  have hcl := clear_row _ _ A0
  have hst0 : Bst w.heap.size w2.heap.size (List.replicate 38 0) v a b f t p w (w2.alloc (.cells #[.int .u8 0, .int .u8 0, .int .u8 0, .int .u8 0, .int .u8 0, .int .u8 0, .int .u8 0, .int .u8 0, .int .u8 0, .int .u8 0, .int .u8 0, .int .u8 0, .int .u8 0, .int .u8 0, .int .u8 0, .int .u8 0, .int .u8 0, .int .u8 0, .int .u8 0, .int .u8 0, .int .u8 0, .int .u8 0, .int .u8 0, .int .u8 0, .int .u8 0, .int .u8 0, .int .u8 0, .int .u8 0, .int .u8 0, .int .u8 0, .int .u8 0, .int .u8 0, .int .u8 0, .int .u8 0, .int .u8 0, .int .u8 0, .int .u8 0, .int .u8 0] 86)) := ⟨K0.alloc _, A0, B0.alloc B0.size _⟩
  have hm : w.heap.size ≤ w2.heap.size := B0.size
  have hne : w.heap.size ≠ w2.heap.size := by have := (Array.getElem?_eq_some_iff.1 K0).1; omega
  go_upto_region 7 with fail
  obtain ⟨W, hW⟩ : ∃ W : World, W = w2.alloc (.cells #[.int .u8 0, .int .u8 0, .int .u8 0, .int .u8 0, .int .u8 0, .int .u8 0, .int .u8 0, .int .u8 0, .int .u8 0, .int .u8 0, .int .u8 0, .int .u8 0, .int .u8 0, .int .u8 0, .int .u8 0, .int .u8 0, .int .u8 0, .int .u8 0, .int .u8 0, .int .u8 0, .int .u8 0, .int .u8 0, .int .u8 0, .int .u8 0, .int .u8 0, .int .u8 0, .int .u8 0, .int .u8 0, .int .u8 0, .int .u8 0, .int .u8 0, .int .u8 0, .int .u8 0, .int .u8 0, .int .u8 0, .int .u8 0, .int .u8 0, .int .u8 0] 86) := ⟨_, rfl⟩
  rw [← hW] at hst0 ⊢
  clear hcl A0 q0 q1 q2 q3 q4 q5 hW K0 B0 hb2
  have hst1 := hst0.drew
  obtain ⟨q0, q1, q2, q3, q4, q5⟩ := hst0.key.cells
  go_cut [] from 43 to 63 (fun wx => Bst w.heap.size w2.heap.size ((S1 ++ S2 ++ S3).data.toList ++ List.replicate 32 0) v a b f t p w wx)
  case first =>
    go_region_held3 (fun w' => w'.cell? ⟨w.heap.size, 0, none⟩ = some (.int .i64 v) ∧ w'.cell? ⟨w.heap.size, 3, none⟩ = some (.int .i64 f) ∧ w'.cell? ⟨w.heap.size, 4, none⟩ = some (.int .i64 t) ∧ w'.cell? ⟨w.heap.size, 5, none⟩ = some (.int .i64 p))
      (first
        | (refine ⟨?_, ?_, ?_, ?_⟩ <;> first | assumption | (refine drew_cell ?_; assumption))
        | trace_state)
      (first
        | (go_at_call 45; (with_reducible refine ((D1 _ _ _ hm hne _ ?_).out).mono ?_); (first | assumption | trace_state); rintro e w3 ⟨rfl, hstA, a0, a3, a4, a5, w4, hcpA, hstB, b0, b3, b4, b5⟩)
        | (go_at_call 45; (with_reducible refine ((D2 _ _ _ hm hne _ ?_).out).mono ?_); (first | assumption | trace_state); rintro e w5 ⟨rfl, hstC, a0, a3, a4, a5, w6, hcpC, hstD, b0, b3, b4, b5⟩)
        | (go_at_call 45; (with_reducible refine ((D3 _ _ _ hm hne _ ?_).out).mono ?_); (first | assumption | trace_state); rintro e w7 ⟨rfl, hstE, a0, a3, a4, a5, w8, hcpE, hstF, b0, b3, b4, b5⟩))
    all_goals
      go_wp2_with fail
      go_meet
      assumption
  case rest =>
    have hst := hcut
    clear hst0 hst1 q0 q1 q2 q3 q4 q5 D1 D2 D3
    obtain ⟨L1, hL1⟩ : ∃ L, L = (S1 ++ S2 ++ S3).data.toList ++ List.replicate 32 0 := ⟨_, rfl⟩
    have hXl : (S1 ++ S2 ++ S3).data.toList.length = 6 := by rw [Array.length_toList]; exact HX.out
    have hl1 : L1.length = 38 := by rw [hL1, List.length_append, hXl]; rfl
    have hbx := HBX.out
    rw [← hL1] at hst hbx
    have ha := HA.out
    have hb := HB.out
    have hn := HN16.out
    obtain ⟨w5, hc5, hw5⟩ := copy_row w2.heap.size 6 32 32 L1 a wc.drew hst.drew.arr (by omega) (by omega)
    have st5 := hst.drew.wrote hw5 hm hne
    obtain ⟨L2, hL2⟩ : ∃ L, L = L1.take 6 ++ a.data.toList ++ L1.drop (6 + a.size) := ⟨_, rfl⟩
    have la : a.data.toList.length = n := by rw [Array.length_toList]; exact ha
    have lb : b.data.toList.length = n := by rw [Array.length_toList]; exact hb
    have hl2 : L2.length = 38 := by rw [hL2]; simp [hl1, la]; omega
    rw [← hL2] at st5 hw5
    obtain ⟨w6, hc6, hw6⟩ := copy_row w2.heap.size 22 16 16 L2 b w5.drew st5.drew.arr (by omega) (by omega)
    have st6 := st5.drew.wrote hw6 hm hne
    obtain ⟨L3, hL3⟩ : ∃ L, L = L2.take 22 ++ b.data.toList ++ L2.drop (22 + b.size) := ⟨_, rfl⟩
    have hl3 : L3.length = 38 := by rw [hL3]; simp [hl2, lb]; omega
    rw [← hL3] at st6
    have hcv := text_row w2.heap.size L3 w6 st6.arr hl3
    have hfin : (⟨L3.toArray⟩ : ByteArray) = bX v a b f t p := by
      apply ByteArray.ext
      rw [← Array.toList_inj, hbx, ← ha, ← hL2, ha, ← hb, ← hL3]
    rw [hfin] at hcv
    obtain ⟨_, p1, _, _, _, _⟩ := hst.drew.key.cells
    obtain ⟨_, _, p2, _, _, _⟩ := st5.drew.key.cells
    have hB := st6.bel
    clear hst st5 st6 hw5 hw6 hfin hbx ha hb hn la lb hl1 hl2 hl3 hL1 hL2 hL3 hXl hm hne
    go_wp2_with fail
    go_region
    all_goals
      go_wp2_with fail
      go_region
    all_goals
      go_wp2_with fail
      go_ret2
      exact ⟨rfl, hB⟩

theorem bR_iff (v : Int) (a b : ByteArray) (f t p : Int) : bR v a b f t p = true ↔ ((v = 4 ∧ a.size = 4 ∧ b.size = 4) ∨ (v = 6 ∧ a.size = 16 ∧ b.size = 16)) ∧ 0 ≤ f ∧ f ≤ 65535 ∧ 0 ≤ t ∧ t ≤ 65535 ∧ (p = 6 ∨ p = 17) := by
  unfold bR inB
  simp only [Bool.and_eq_true_iff, Bool.or_eq_true_iff, decide_eq_true_eq, beq_iff_eq]
  omega
theorem bR_not (v : Int) (a b : ByteArray) (f t p : Int) (N : Int) (hN : N = if v = 4 then 4 else if v = 6 then 16 else 0) (h0 : (N == 0) = false) (h1 : ((a.size : Int) != N) = false) (h2 : ((b.size : Int) != N) = false) (h3 : (puE p f t 0 != 0) = false) : bR v a b f t p = true := by
  rw [bR_iff]
  simp only [beq_eq_false_iff_ne, bne_eq_false_iff_eq] at h0 h1 h2 h3
  have := (puE_iff p f t 0).1 h3
  split at hN
  · omega
  · split at hN <;> omega

set_option maxHeartbeats 4000000 in
set_option maxRecDepth 100000 in
theorem by_no (v : Int) (a b : ByteArray) (f t p : Int) (w : World) (ha : a.size ≤ 9223372036854775807) (hb : b.size ≤ 9223372036854775807) (hR : bR v a b f t p = false) :
    Calls Try.prog 28 #[.agg #[.int .i64 v, .string a, .string b, .int .i64 f, .int .i64 t, .int .i64 p]] w fun e w' => e = .returned (.tuple #[.string ⟨#[]⟩, .bool false]) ∧ Below w.heap.size w w' := by
  have c1 := long_calls v
  have c2 := portPut_calls p f t 0
  have hno := fun N hN h0 h1 h2 h3 => (bR_not v a b f t p N hN h0 h1 h2 h3).symm.trans hR
  obtain ⟨N, hN⟩ : ∃ N : Int, N = if v = 4 then (4 : Int) else if v = 6 then 16 else 0 := ⟨_, rfl⟩
  rw [← hN] at c1
  have hnn := hno N hN
  clear hno hR hN
  generalize puS p f t 0 = Z at *
  generalize puE p f t 0 = E at *
  have C1 := fun w => Lib.hid (c1 w)
  have C2 := fun w => Lib.hid (c2 w)
  have HN := Lib.hid hnn
  clear c1 c2 hnn
  cases d0 : (N == 0) with
  | true =>
    clear HN
    go_enter Try.func28, Try.ntmps28
    go_wp2_with (go_at_call 44; with_reducible refine (C1 _).out.mono ?_)
    rintro e w1 ⟨rfl, rfl⟩
    go_wp2_with (go_at_call 18; with_reducible refine (C2 _).out.mono ?_)
    rintro e w2 ⟨rfl, hb2⟩
    have K0 := (Ky.new 40 v a b f t p w).later hb2
    have B0 := bl ((Below.refl w.heap.size w).alloc (Nat.le_refl _) (.cells #[.int .i64 v, .string a, .string b, .int .i64 f, .int .i64 t, .int .i64 p] 40)) hb2
    obtain ⟨q0, q1, q2, q3, q4, q5⟩ := K0.cells
    clear hb2 K0
    go_wp2_with fail
    go_ret2
    exact ⟨rfl, B0⟩
  | false =>
    cases d1 : ((a.size : Int) != N) with
    | true =>
      clear HN
      go_enter Try.func28, Try.ntmps28
      go_wp2_with (go_at_call 44; with_reducible refine (C1 _).out.mono ?_)
      rintro e w1 ⟨rfl, rfl⟩
      go_wp2_with (go_at_call 18; with_reducible refine (C2 _).out.mono ?_)
      rintro e w2 ⟨rfl, hb2⟩
      have K0 := (Ky.new 40 v a b f t p w).later hb2
      have B0 := bl ((Below.refl w.heap.size w).alloc (Nat.le_refl _) (.cells #[.int .i64 v, .string a, .string b, .int .i64 f, .int .i64 t, .int .i64 p] 40)) hb2
      obtain ⟨q0, q1, q2, q3, q4, q5⟩ := K0.cells
      clear hb2 K0
      go_wp2_with fail
      go_ret2
      exact ⟨rfl, B0⟩
    | false =>
      cases d2 : ((b.size : Int) != N) with
      | true =>
        clear HN
        go_enter Try.func28, Try.ntmps28
        go_wp2_with (go_at_call 44; with_reducible refine (C1 _).out.mono ?_)
        rintro e w1 ⟨rfl, rfl⟩
        go_wp2_with (go_at_call 18; with_reducible refine (C2 _).out.mono ?_)
        rintro e w2 ⟨rfl, hb2⟩
        have K0 := (Ky.new 40 v a b f t p w).later hb2
        have B0 := bl ((Below.refl w.heap.size w).alloc (Nat.le_refl _) (.cells #[.int .i64 v, .string a, .string b, .int .i64 f, .int .i64 t, .int .i64 p] 40)) hb2
        obtain ⟨q0, q1, q2, q3, q4, q5⟩ := K0.cells
        clear hb2 K0
        go_wp2_with fail
        go_ret2
        exact ⟨rfl, B0⟩
      | false =>
        cases d3 : (E != 0) with
        | true =>
          clear HN
          go_enter Try.func28, Try.ntmps28
          go_wp2_with (go_at_call 44; with_reducible refine (C1 _).out.mono ?_)
          rintro e w1 ⟨rfl, rfl⟩
          go_wp2_with (go_at_call 18; with_reducible refine (C2 _).out.mono ?_)
          rintro e w2 ⟨rfl, hb2⟩
          have K0 := (Ky.new 40 v a b f t p w).later hb2
          have B0 := bl ((Below.refl w.heap.size w).alloc (Nat.le_refl _) (.cells #[.int .i64 v, .string a, .string b, .int .i64 f, .int .i64 t, .int .i64 p] 40)) hb2
          obtain ⟨q0, q1, q2, q3, q4, q5⟩ := K0.cells
          clear hb2 K0
          go_wp2_with fail
          go_ret2
          exact ⟨rfl, B0⟩
        | false => exact absurd (HN.out d0 d1 d2 d3) (by decide)

theorem bytes_calls (v : Int) (a b : ByteArray) (f t p : Int) (ha : a.size ≤ 9223372036854775807) (hb : b.size ≤ 9223372036854775807) (w : World) :
    Calls Try.prog 28 #[.agg #[.int .i64 v, .string a, .string b, .int .i64 f, .int .i64 t, .int .i64 p]] w fun e w' => e = .returned (.tuple #[.string (bS v a b f t p), .bool (bR v a b f t p)]) ∧ Below w.heap.size w w' := by
  cases hR : bR v a b f t p with
  | false =>
    unfold bS
    rw [if_neg (by rw [hR]; decide)]
    exact by_no v a b f t p w ha hb hR
  | true =>
    unfold bS
    rw [if_pos hR]
    obtain ⟨hk, h1, h2, h3, h4, hp⟩ := (bR_iff v a b f t p).1 hR
    rcases hk with ⟨rfl, g1, g2⟩ | ⟨rfl, g1, g2⟩
    · exact by_ok 4 a b f t p w (by decide) hp 4 rfl g1 g2 h1 h2 h3 h4
    · exact by_ok 6 a b f t p w (by decide) hp 16 rfl g1 g2 h1 h2 h3 h4
end Go.Proofs.Ytjfijllnmjajpaa
