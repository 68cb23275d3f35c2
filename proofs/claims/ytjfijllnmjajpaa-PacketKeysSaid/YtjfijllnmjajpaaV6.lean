/- ip6.Put: what it answers. -/
import Derived.WalkKit
import Derived.Lib.Hide
import Derived.Laws.IdiomStrings
import Derived.Test.YtjfijllnmjajpaaWn
import Derived.Test.YtjfijllnmjajpaaU6
set_option linter.unusedSimpArgs false
namespace Go.Proofs.Ytjfijllnmjajpaa
open Go.RowKit Go.BigFrame

/-- What ip6.Put stands at: its argument's box, and its writer, which holds the bytes l. -/
structure PutSt (w : World) (a b : ByteArray) (p : Int) (l : List UInt8) (W : World) : Prop where
  wr : Wr (w.heap.size + 1) (w.heap.size + 1) l W
  box : W.heap[w.heap.size]? = some (.cells #[.string a, .string b, .int .i64 p] 78 (0, 0))
  bel : Below w.heap.size w W
  size : w.heap.size + 2 ≤ W.heap.size

theorem PutSt.first (w : World) (a b : ByteArray) (p : Int) : PutSt w a b p [] ((w.alloc (.cells #[.string a, .string b, .int .i64 p] 78)).alloc (.cells #[.pointer none, .slice none 0 0] 110)) := by
  refine ⟨?_, ?_, ((Below.refl _ _).alloc (Nat.le_refl _) _).alloc (by rw [World.size_alloc]; omega) _, by rw [World.size_alloc, World.size_alloc]; omega⟩
  · have := Lib.fresh_isBuilder 110 5 (w.alloc (.cells #[.string a, .string b, .int .i64 p] 78))
    rw [World.size_alloc] at this
    exact this
  · rw [Below.heap_alloc _ _ _ (by rw [World.size_alloc]; omega)]
    exact heap_alloc_new w _

theorem PutSt.cells {w : World} {a b : ByteArray} {p : Int} {l : List UInt8} {W : World} (h : PutSt w a b p l W) :
    W.cell? ⟨w.heap.size, 0, none⟩ = some (.string a) ∧ W.cell? ⟨w.heap.size, 1, none⟩ = some (.string b) ∧ W.cell? ⟨w.heap.size, 2, none⟩ = some (.int .i64 p) := by
  refine ⟨?_, ?_, ?_⟩ <;> simp [World.cell?, h.box]

theorem PutSt.more {w : World} {a b : ByteArray} {p : Int} {l l' : List UInt8} {W W' : World} (h : PutSt w a b p l W) (h1 : Wr (w.heap.size + 1) (w.heap.size + 1) l' W') (hb : Below (w.heap.size + 1) W W') : PutSt w a b p l' W' :=
  ⟨h1, (hb.block _ (by omega)).trans h.box, h.bel.trans (hb.mono (by omega)), Nat.le_trans h.size hb.size⟩

theorem st_number {w : World} {a b : ByteArray} {p : Int} {l : List UInt8} (v m : Int) (W : World) (h : PutSt w a b p l W) (hv0 : 0 ≤ v) (hv : v ≤ 9223372036854775807) (hl : l.length ≤ 140737488355000) :
    Calls Try.prog 58 #[.pointer (some ⟨w.heap.size + 1, 0, none⟩), .int .i64 v, .int .i64 m] W fun e W' => e = .returned (.tuple #[]) ∧ PutSt w a b p (l ++ (putS v m).data.toList) W' :=
  (wb_number _ _ l v m hv0 hv W h.wr hl (by have := h.size; omega)).mono fun _ _ ⟨he, h1, hb⟩ => ⟨he, h.more h1 hb⟩

theorem st_write {w : World} {a b : ByteArray} {p : Int} {l : List UInt8} (s : ByteArray) (W : World) (h : PutSt w a b p l W) (hl : l.length + s.size ≤ 140737488355328) :
    Calls Try.prog 59 #[.pointer (some ⟨w.heap.size + 1, 0, none⟩), .string s] W fun e W' => e = .returned (.tuple #[.int .i64 s.size, .nilIface]) ∧ PutSt w a b p (l ++ s.data.toList) W' ∧ Lib.OthersKept 5 (some (w.heap.size + 1)) W W' :=
  (wb_write _ _ l s W h.wr hl (by have := h.size; omega)).mono fun _ _ ⟨he, h1, hb, hk⟩ => ⟨he, h.more h1 hb, hk⟩

/-- The three texts of the loop. -/
def put6k (a b r : ByteArray) (k : Nat) : ByteArray := if k = 0 then a else if k = 1 then b else r
def put6l (a b r : ByteArray) (k : Nat) : List UInt8 := (List.range k).flatMap fun k => (put6k a b r k).data.toList
theorem put6l_succ (a b r : ByteArray) (k : Nat) : put6l a b r (k + 1) = put6l a b r k ++ (put6k a b r k).data.toList := by simp [put6l, List.range_succ]
theorem put6l_three (a b r : ByteArray) : put6l a b r 3 = a.data.toList ++ b.data.toList ++ r.data.toList := by simp [put6l, put6k, List.range_succ]
theorem put6l_le (a b r : ByteArray) (ha : a.size ≤ 65535) (hb : b.size ≤ 65535) (hr : r.size ≤ 65535) (k : Nat) : (put6l a b r k).length ≤ k * 65535 ∧ (put6k a b r k).size ≤ 65535 := by
  have hk : ∀ k, (put6k a b r k).size ≤ 65535 := fun k => by unfold put6k; split; exact ha; split; exact hb; exact hr
  refine ⟨?_, hk k⟩
  induction k with
  | zero => simp [put6l]
  | succ k ih =>
    rw [put6l_succ, List.length_append]
    have := hk k
    have e : (put6k a b r k).data.toList.length = (put6k a b r k).size := by rw [Array.length_toList]; rfl
    omega
theorem put6_cell {w : World} {g : Nat} {a b r : ByteArray} {T : Nat} (h : w.heap[g]? = some (.cells #[.string a, .string b, .string r] T (0, 0))) (k : Nat) (hk : k < 3) : w.cell? ⟨g, k, none⟩ = some (.string (put6k a b r k)) := by
  rcases (show k = 0 ∨ k = 1 ∨ k = 2 by omega) with rfl | rfl | rfl <;> simp [World.cell?, h, put6k]
theorem putS_6 : (putS 1610612736 4).data.toList = [96, 0, 0, 0] := by decide
theorem putS_64 : (putS 64 1).data.toList = [64] := by decide

set_option maxHeartbeats 1000000 in
set_option maxRecDepth 100000 in
theorem u6_bad (a b : ByteArray) (p : Int) (r : ByteArray) (w : World) (h1 : u6Bad a b p = true) :
    Calls Try.prog 40 #[.agg #[.string a, .string b, .int .i64 p], .string r] w fun e w' => e = .returned (.tuple #[.string ⟨#[]⟩, .int .i64 1]) ∧ Below w.heap.size w w' := by
  by_cases g1 : a.size = 16
  · have e1 : ((a.size : Int) != 16) = false := by simp; omega
    by_cases g2 : b.size = 16
    · have e2 : ((b.size : Int) != 16) = false := by simp; omega
      by_cases g3 : p < 0
      · have e3 : decide (p < 0) = true := by simpa using g3
        go_enter Try.func40, Try.ntmps40
        go_wp2
        go_ret2
        exact ⟨rfl, (Below.refl _ _).alloc (Nat.le_refl _) _⟩
      · have e3 : decide (p < 0) = false := by simpa using g3
        have e4 : decide (255 < p) = true := by simpa [u6Bad, g1, g2, e3] using h1
        clear g3
        go_enter Try.func40, Try.ntmps40
        go_wp2
        go_ret2
        exact ⟨rfl, (Below.refl _ _).alloc (Nat.le_refl _) _⟩
    · have e2 : ((b.size : Int) != 16) = true := by simp; omega
      go_enter Try.func40, Try.ntmps40
      go_wp2
      go_ret2
      exact ⟨rfl, (Below.refl _ _).alloc (Nat.le_refl _) _⟩
  · have e1 : ((a.size : Int) != 16) = true := by simp; omega
    go_enter Try.func40, Try.ntmps40
    go_wp2
    go_ret2
    exact ⟨rfl, (Below.refl _ _).alloc (Nat.le_refl _) _⟩

set_option maxHeartbeats 1000000 in
set_option maxRecDepth 100000 in
theorem u6_long (a b : ByteArray) (p : Int) (r : ByteArray) (w : World) (hr : r.size ≤ 9223372036854775807) (h1 : u6Bad a b p = false) (h3 : 65535 < r.size) :
    Calls Try.prog 40 #[.agg #[.string a, .string b, .int .i64 p], .string r] w fun e w' => e = .returned (.tuple #[.string ⟨#[]⟩, .int .i64 4]) ∧ Below w.heap.size w w' := by
  have h2 : a.size = 16 ∧ b.size = 16 ∧ 0 ≤ p ∧ p ≤ 255 := by
    simp only [u6Bad, Bool.or_eq_false_iff, bne_eq_false_iff_eq, decide_eq_false_iff_not] at h1
    omega
  obtain ⟨g1, g2, g3, g4⟩ := h2
  have e1 : ((a.size : Int) != 16) = false := by simp; omega
  have e2 : ((b.size : Int) != 16) = false := by simp; omega
  have e3 : decide (p < 0) = false := by simp; omega
  have e4 : decide (255 < p) = false := by simp; omega
  have e5 : decide (65535 < (r.size : Int)) = true := by simp; omega
  clear g3 g4
  go_enter Try.func40, Try.ntmps40
  go_wp2
  go_ret2
  exact ⟨rfl, (Below.refl _ _).alloc (Nat.le_refl _) _⟩

set_option maxHeartbeats 1000000 in
set_option maxRecDepth 100000 in
theorem u6_ok (a b : ByteArray) (p : Int) (r : ByteArray) (w : World) (h1 : u6Bad a b p = false) (h3 : ¬ 65535 < r.size) :
    Calls Try.prog 40 #[.agg #[.string a, .string b, .int .i64 p], .string r] w fun e w' => e = .returned (.tuple #[.string ⟨(put6 a b p r).toArray⟩, .int .i64 0]) ∧ Below w.heap.size w w' := by
  have h2 : a.size = 16 ∧ b.size = 16 ∧ 0 ≤ p ∧ p ≤ 255 := by
    simp only [u6Bad, Bool.or_eq_false_iff, bne_eq_false_iff_eq, decide_eq_false_iff_not] at h1
    omega
  obtain ⟨g1, g2, g3, g4⟩ := h2
  have e1 : ((a.size : Int) != 16) = false := by simp; omega
  have e2 : ((b.size : Int) != 16) = false := by simp; omega
  have e3 : decide (p < 0) = false := by simp; omega
  have e4 : decide (255 < p) = false := by simp; omega
  have e5 : decide (65535 < (r.size : Int)) = false := by simp; omega
  have hr : r.size ≤ 65535 := by omega
  clear h3
  have hC := PutSt.first w a b p
  have hs1 := putS_le 1610612736 4
  have hs2 := putS_le (r.size : Int) 2
  have hs3 := putS_le p 1
  have hs4 := putS_le 64 1
  have hz := fun s : ByteArray => (Array.length_toList (xs := s.data))
  have hz2 : ∀ s : ByteArray, s.data.toList.length = s.size := fun s => by rw [Array.length_toList]; rfl
  go_enter Try.func40, Try.ntmps40
  have C := Lib.hid (st_number (l := []) (1610612736) 4 _ hC (by omega) (by omega) (by simp [hz2] <;> omega))
  go_wp2_with (go_at_call 58; with_reducible refine (C.out).mono ?_)
  rintro e w1 ⟨rfl, h1⟩
  clear C
  have k2 : (h1.cells).2.2 = (h1.cells).2.2 := rfl
  clear k2
  have C := Lib.hid (st_number (l := [] ++ (putS 1610612736 4).data.toList) ((r.size : Int)) 2 _ h1 (by omega) (by omega) (by simp [hz2] <;> omega))
  go_wp2_with (go_at_call 58; with_reducible refine (C.out).mono ?_)
  rintro e w2 ⟨rfl, h2⟩
  clear C
  obtain ⟨q0, q1, q2⟩ := h2.cells
  have C := Lib.hid (st_number (l := [] ++ (putS 1610612736 4).data.toList ++ (putS (r.size : Int) 2).data.toList) (p) 1 _ h2 (by omega) (by omega) (by simp [hz2] <;> omega))
  go_wp2_with (go_at_call 58; with_reducible refine (C.out).mono ?_)
  rintro e w3 ⟨rfl, h3⟩
  clear C
  clear q0 q1 q2
  have C := Lib.hid (st_number (l := [] ++ (putS 1610612736 4).data.toList ++ (putS (r.size : Int) 2).data.toList ++ (putS p 1).data.toList) (64) 1 _ h3 (by omega) (by omega) (by simp [hz2] <;> omega))
  go_wp2_with (go_at_call 58; with_reducible refine (C.out).mono ?_)
  rintro e w4 ⟨rfl, h4⟩
  clear C
  obtain ⟨q0, q1, q2⟩ := h4.cells
  obtain ⟨L, hL⟩ : ∃ L, L = [] ++ (putS 1610612736 4).data.toList ++ (putS (r.size : Int) 2).data.toList ++ (putS p 1).data.toList ++ (putS 64 1).data.toList := ⟨_, rfl⟩
  rw [← hL] at h4
  have hLl : L.length ≤ 100 := by rw [hL]; simp [hz2]; omega
  have HL := Lib.hid hL
  clear hL hz hz2 hs1 hs2 hs3 hs4 hC h1 h2 h3
  have hsz4 := h4.size
  go_wp2_with fail
  go_loopw [8, 49] (fun _ i wr => ∃ k : Nat, ∃ l : List UInt8, k ≤ 3 ∧ i = .int .i64 k ∧ Hid (l = L ++ put6l a b r k) ∧ PutSt w a b p l wr ∧ wr.heap[w4.heap.size]? = some (.cells #[.string a, .string b, .string r] 9 (0, 0)))
    (fun _ i _ => 3 - (intOf i).toNat)
  case atStart =>
    refine ⟨0, L, by omega, rfl, Lib.hid (by simp [put6l]), h4.more (wr_below h4.wr ((Below.refl _ _).alloc (Nat.le_refl _) _)) ((Below.refl _ _).alloc (by omega) _), heap_alloc_new w4 _⟩
  case round =>
    obtain ⟨k, l, hk, rfl, HE, hP, hA⟩ := hrel
    have hle := put6l_le a b r (by omega) (by omega) hr k
    have hll : l.length ≤ 300000 := by rw [HE.out, List.length_append]; omega
    by_cases hlt : k < 3
    · have hcell := put6_cell hA k hlt
      obtain ⟨S, hS⟩ : ∃ S, S = put6k a b r k := ⟨_, rfl⟩
      rw [← hS] at hcell hle
      have HS := Lib.hid hS
      clear hS
      have C := Lib.hid (st_write S wr hP (by omega))
      go_wp2_with (go_at_call 59; with_reducible refine (C.out).mono ?_)
      rintro e w5 ⟨rfl, h5, hk5⟩
      go_wp2_with fail
      go_roundw
      case rel =>
        refine ⟨k + 1, _, by omega, by simp, Lib.hid ?_, h5, hk5 _ _ hA (by intro e; injection e with e; omega) (by intro c fz e; injection e with _ e _; exact absurd e (by decide))⟩
        rw [put6l_succ, ← HS.out, HE.out, List.append_assoc]
      case measure => simp [intOf]; omega
    · obtain rfl : k = 3 := by omega
      have C := Lib.hid (wb_string _ _ l wr hP.wr (by rw [HE.out, HL.out]; simp [putS_6]))
      go_wp2_with (go_at_call 60; with_reducible refine (C.out).mono ?_)
      rintro e w5 ⟨rfl, hb5⟩
      go_wp2_with fail
      go_ret2
      refine ⟨?_, hP.bel.trans (hb5.mono (by omega))⟩
      have hE : l = put6 a b p r := by
        rw [HE.out, HL.out, put6l_three, putS_6, putS_64, put6]
        simp [List.append_assoc]
      rw [hE]
      rfl

theorem ip6Put_calls (a b : ByteArray) (p : Int) (r : ByteArray) (hr : r.size ≤ 9223372036854775807) (w : World) :
    Calls Try.prog 40 #[.agg #[.string a, .string b, .int .i64 p], .string r] w fun e w' => e = .returned (.tuple #[.string (u6S a b p r), .int .i64 (u6E a b p r)]) ∧ Below w.heap.size w w' := by
  cases h1 : u6Bad a b p with
  | true => simpa [u6S, u6E, h1] using u6_bad a b p r w h1
  | false =>
    by_cases h3 : 65535 < r.size
    · simpa [u6S, u6E, h1, h3] using u6_long a b p r w hr h1 h3
    · simpa [u6S, u6E, h1, h3] using u6_ok a b p r w h1 h3
end Go.Proofs.Ytjfijllnmjajpaa
