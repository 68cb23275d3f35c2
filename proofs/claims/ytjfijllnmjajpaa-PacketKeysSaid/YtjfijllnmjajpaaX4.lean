/- ip4.first at ip4.Parse's five looks: the first error of those. -/
import Derived.WalkKit
import Derived.Lib.Hide
import Derived.Test.YtjfijllnmjajpaaF4
namespace Go.Proofs.Ytjfijllnmjajpaa
open Go.RowKit Go.BigFrame

/-- The error that ip4.Parse finds first. -/
def f4 (s : ByteArray) (z : Nat) (L : Int) : Int :=
  if decide (s.size < 20) then 2 else if getV s 0 1 / 16 != 4 then 3 else if decide (z < 20) || decide (s.size < z) || decide (L < (z : Int)) || decide ((s.size : Int) < L) then 4
  else if !goodS (s.extract 0 z).data.toList then 5 else if getV s 6 2 % 16384 != 0 then 6 else 0

/-- What ip4.Parse's variables hold, and its looks (block g). -/
structure Looks (s : ByteArray) (z : Nat) (L : Int) (b f n m g : Nat) (w : World) : Prop where
  vs : w.cell? ⟨b, 0, none⟩ = some (.string s)
  vf : w.cell? ⟨f, 0, none⟩ = some (.func (.func 65) #[] #[.pointer (some ⟨b, 0, none⟩)])
  vn : w.cell? ⟨n, 0, none⟩ = some (.int .i64 z)
  vm : w.cell? ⟨m, 0, none⟩ = some (.int .i64 L)
  l0 : w.cell? ⟨g, 0, none⟩ = some (.func (.func 67) #[] #[.pointer (some ⟨b, 0, none⟩)])
  e0 : w.cell? ⟨g, 1, none⟩ = some (.int .i64 2)
  l1 : w.cell? ⟨g, 2, none⟩ = some (.func (.func 68) #[] #[.pointer (some ⟨f, 0, none⟩)])
  e1 : w.cell? ⟨g, 3, none⟩ = some (.int .i64 3)
  l2 : w.cell? ⟨g, 4, none⟩ = some (.func (.func 69) #[] #[.pointer (some ⟨n, 0, none⟩), .pointer (some ⟨b, 0, none⟩), .pointer (some ⟨m, 0, none⟩)])
  e2 : w.cell? ⟨g, 5, none⟩ = some (.int .i64 4)
  l3 : w.cell? ⟨g, 6, none⟩ = some (.func (.func 70) #[] #[.pointer (some ⟨b, 0, none⟩), .pointer (some ⟨n, 0, none⟩)])
  e3 : w.cell? ⟨g, 7, none⟩ = some (.int .i64 5)
  l4 : w.cell? ⟨g, 8, none⟩ = some (.func (.func 72) #[] #[.pointer (some ⟨f, 0, none⟩)])
  e4 : w.cell? ⟨g, 9, none⟩ = some (.int .i64 6)

theorem Looks.later {s : ByteArray} {z : Nat} {L : Int} {b f n m g : Nat} {w w' : World} (h : Looks s z L b f n m g w) (hb : Below w.heap.size w w') : Looks s z L b f n m g w' := by
  have hk : ∀ {p : Addr} {v : Value}, w.cell? p = some v → w'.cell? p = some v := fun {p v} hc => (hb.cell (World.block_lt_of_cell? w _ hc)).trans hc
  exact ⟨hk h.vs, hk h.vf, hk h.vn, hk h.vm, hk h.l0, hk h.e0, hk h.l1, hk h.e1, hk h.l2, hk h.e2, hk h.l3, hk h.e3, hk h.l4, hk h.e4⟩

theorem st_look (K : Nat) (caps : Array Value) (W : World) : (store ⟨W.heap.size, 0, none⟩ (.func (.func K) #[] caps)).run Try.prog (W.alloc (.cells #[.nilFunc, .int .i64 0] 125)) = .ok () (W.alloc (.cells #[.func (.func K) #[] caps, .int .i64 0] 125)) := by
  rw [run_store Try.prog _ _ _ _ rfl]
  simp [go_sem]

set_option maxHeartbeats 4000000 in
set_option maxRecDepth 100000 in
theorem first4_calls (s : ByteArray) (z : Nat) (L : Int) (b f n m g cap : Nat) (hs : s.size ≤ 4294967296) (w : World) (h : Looks s z L b f n m g w) :
    Calls Try.prog 66 #[.slice (some ⟨g, 0, none⟩) 5 cap] w fun e w' => e = .returned (.int .i64 (f4 s z L)) ∧ Below w.heap.size w w' := by
  have hfn : (∀ (t0 t1 t2 t3 t4 : Bool), t0 = decide (s.size < 20) → t1 = (getV s 0 1 / 16 != 4) → t2 = (decide (z < 20) || decide (s.size < z) || decide (L < (z : Int)) || decide ((s.size : Int) < L)) → t3 = (!goodS (s.extract 0 z).data.toList) → t4 = (getV s 6 2 % 16384 != 0) →
    f4 s z L = if t0 then 2 else if t1 then 3 else if t2 then 4 else if t3 then 5 else if t4 then 6 else 0) := by
    rintro _ _ _ _ _ rfl rfl rfl rfl rfl; rfl
  have C2 := fun w hc => Lib.hid (look2_calls s b w hc)
  have C3 := fun w hc hf => Lib.hid (look3_calls s b f (by omega) w hc hf)
  have C4 := fun w hc hf hg => Lib.hid (look4_calls s b n m z L w hc hf hg)
  have C5 := fun hz w hc hf => Lib.hid (look5_calls s b n z hz hs w hc hf)
  have C6 := fun w hc hf => Lib.hid (look6_calls s b f (by omega) w hc hf)
  have hzs : (decide (z < 20) || decide (s.size < z) || decide (L < (z : Int)) || decide ((s.size : Int) < L)) = false → z ≤ s.size := by
    intro h; simp at h; omega
  obtain ⟨t0, e0⟩ : ∃ t, t = decide (s.size < 20) := ⟨_, rfl⟩
  obtain ⟨t1, e1⟩ : ∃ t, t = (getV s 0 1 / 16 != 4) := ⟨_, rfl⟩
  obtain ⟨t2, e2⟩ : ∃ t, t = (decide (z < 20) || decide (s.size < z) || decide (L < (z : Int)) || decide ((s.size : Int) < L)) := ⟨_, rfl⟩
  obtain ⟨t3, e3⟩ : ∃ t, t = (!goodS (s.extract 0 z).data.toList) := ⟨_, rfl⟩
  obtain ⟨t4, e4⟩ : ∃ t, t = (getV s 6 2 % 16384 != 0) := ⟨_, rfl⟩
  rw [hfn t0 t1 t2 t3 t4 e0 e1 e2 e3 e4]
  rw [← e0] at C2
  rw [← e1] at C3
  rw [← e2] at C4 hzs
  rw [← e3] at C5
  rw [← e4] at C6
  clear hfn e0 e1 e2 e3 e4
  have HZ := Lib.hid hzs
  have hst := fun K caps => st_look K caps
  clear hzs
  go_enter Try.func66, Try.ntmps66
  go_wp2_with fail
  refine wp_scope_straight ?_
  go_wp2_with fail
  refine wp_label ?_
  go_wp2_with fail
  go_loopw [3, 5, 8] (fun e _ i wr => ∃ k : Nat, k ≤ 5 ∧ e = .int .i64 0 ∧ i = .int .i64 k ∧ Hid ((0 < k → t0 = false) ∧ (1 < k → t1 = false) ∧ (2 < k → t2 = false) ∧ (3 < k → t3 = false) ∧ (4 < k → t4 = false)) ∧ Below w.heap.size w wr) (fun _ _ i _ => 5 - (intOf i).toNat)
  case atStart => exact ⟨0, Nat.zero_le _, rfl, rfl, Lib.hid (by omega), Below.refl _ _⟩
  case round =>
    obtain ⟨k, hk, rfl, rfl, HT, hB⟩ := hrel
    have hL := h.later hB
    rcases (show k = 0 ∨ k = 1 ∨ k = 2 ∨ k = 3 ∨ k = 4 ∨ k = 5 by omega) with rfl | rfl | rfl | rfl | rfl | rfl
    · clear hk
      have l := hL.l0
      have c := hL.e0
      clear HT HZ
      have hM := hL.later ((Below.refl _ _).alloc (Nat.le_refl _) (.cells #[.func (.func 67) #[] #[.pointer (some ⟨b, 0, none⟩)], .int .i64 2] 125))
      have C := C2 _ hM.vs
      have hB1 := hB.alloc hB.size (.cells #[.func (.func 67) #[] #[.pointer (some ⟨b, 0, none⟩)], .int .i64 2] 125)
      go_wp2_with (go_at_call 67; with_reducible refine (C.out).mono ?_)
      rintro e w1 ⟨rfl, rfl⟩
      cases t0 with
      | true =>
        
        go_wp2_with fail
        simp only [Exit.noGoto]
        go_ret
        exact ⟨rfl, hB1⟩
      | false =>
        go_wp2_with fail
        go_roundw
        case rel => exact ⟨1, by decide, rfl, rfl, Lib.hid ⟨fun _ => by first | rfl | trivial, fun h => absurd h (by decide), fun h => absurd h (by decide), fun h => absurd h (by decide), fun h => absurd h (by decide)⟩, hB1⟩
        case measure => simp [intOf]
    · clear hk
      have l := hL.l1
      have c := hL.e1
      obtain rfl : t0 = false := HT.out.1 (by decide)
      clear HT HZ
      have hM := hL.later ((Below.refl _ _).alloc (Nat.le_refl _) (.cells #[.func (.func 68) #[] #[.pointer (some ⟨f, 0, none⟩)], .int .i64 3] 125))
      have C := C3 _ hM.vs hM.vf
      have hB1 := hB.alloc hB.size (.cells #[.func (.func 68) #[] #[.pointer (some ⟨f, 0, none⟩)], .int .i64 3] 125)
      go_wp2_with (go_at_call 68; with_reducible refine (C.out).mono ?_)
      rintro e w1 ⟨rfl, hb1⟩
      cases t1 with
      | true =>
        have q1 : w1.cell? ⟨wr.heap.size, 1, none⟩ = some (.int .i64 3) := (hb1.cell (by rw [World.size_alloc]; show wr.heap.size < wr.heap.size + 1; omega)).trans (World.cell?_alloc_mark wr _ _ (0, 0) 1)
        go_wp2_with fail
        simp only [Exit.noGoto]
        go_ret
        exact ⟨rfl, (hB1.trans (hb1.mono hB1.size))⟩
      | false =>
        go_wp2_with fail
        go_roundw
        case rel => exact ⟨2, by decide, rfl, rfl, Lib.hid ⟨fun _ => by first | rfl | trivial, fun _ => by first | rfl | trivial, fun h => absurd h (by decide), fun h => absurd h (by decide), fun h => absurd h (by decide)⟩, (hB1.trans (hb1.mono hB1.size))⟩
        case measure => simp [intOf]
    · clear hk
      have l := hL.l2
      have c := hL.e2
      obtain rfl : t0 = false := HT.out.1 (by decide)
      obtain rfl : t1 = false := HT.out.2.1 (by decide)
      clear HT HZ
      have hM := hL.later ((Below.refl _ _).alloc (Nat.le_refl _) (.cells #[.func (.func 69) #[] #[.pointer (some ⟨n, 0, none⟩), .pointer (some ⟨b, 0, none⟩), .pointer (some ⟨m, 0, none⟩)], .int .i64 4] 125))
      have C := C4 _ hM.vs hM.vn hM.vm
      have hB1 := hB.alloc hB.size (.cells #[.func (.func 69) #[] #[.pointer (some ⟨n, 0, none⟩), .pointer (some ⟨b, 0, none⟩), .pointer (some ⟨m, 0, none⟩)], .int .i64 4] 125)
      go_wp2_with (go_at_call 69; with_reducible refine (C.out).mono ?_)
      rintro e w1 ⟨rfl, rfl⟩
      cases t2 with
      | true =>
        
        go_wp2_with fail
        simp only [Exit.noGoto]
        go_ret
        exact ⟨rfl, hB1⟩
      | false =>
        go_wp2_with fail
        go_roundw
        case rel => exact ⟨3, by decide, rfl, rfl, Lib.hid ⟨fun _ => by first | rfl | trivial, fun _ => by first | rfl | trivial, fun _ => by first | rfl | trivial, fun h => absurd h (by decide), fun h => absurd h (by decide)⟩, hB1⟩
        case measure => simp [intOf]
    · clear hk
      have l := hL.l3
      have c := hL.e3
      obtain rfl : t0 = false := HT.out.1 (by decide)
      obtain rfl : t1 = false := HT.out.2.1 (by decide)
      obtain rfl : t2 = false := HT.out.2.2.1 (by decide)
      have hzz := HZ.out rfl
      clear HT HZ
      have hM := hL.later ((Below.refl _ _).alloc (Nat.le_refl _) (.cells #[.func (.func 70) #[] #[.pointer (some ⟨b, 0, none⟩), .pointer (some ⟨n, 0, none⟩)], .int .i64 5] 125))
      have C := C5 hzz _ hM.vs hM.vn
      have hB1 := hB.alloc hB.size (.cells #[.func (.func 70) #[] #[.pointer (some ⟨b, 0, none⟩), .pointer (some ⟨n, 0, none⟩)], .int .i64 5] 125)
      go_wp2_with (go_at_call 70; with_reducible refine (C.out).mono ?_)
      rintro e w1 ⟨rfl, hb1⟩
      cases t3 with
      | true =>
        have q1 : w1.cell? ⟨wr.heap.size, 1, none⟩ = some (.int .i64 5) := (hb1.cell (by rw [World.size_alloc]; show wr.heap.size < wr.heap.size + 1; omega)).trans (World.cell?_alloc_mark wr _ _ (0, 0) 1)
        go_wp2_with fail
        simp only [Exit.noGoto]
        go_ret
        exact ⟨rfl, (hB1.trans (hb1.mono hB1.size))⟩
      | false =>
        go_wp2_with fail
        go_roundw
        case rel => exact ⟨4, by decide, rfl, rfl, Lib.hid ⟨fun _ => by first | rfl | trivial, fun _ => by first | rfl | trivial, fun _ => by first | rfl | trivial, fun _ => by first | rfl | trivial, fun h => absurd h (by decide)⟩, (hB1.trans (hb1.mono hB1.size))⟩
        case measure => simp [intOf]
    · clear hk
      have l := hL.l4
      have c := hL.e4
      obtain rfl : t0 = false := HT.out.1 (by decide)
      obtain rfl : t1 = false := HT.out.2.1 (by decide)
      obtain rfl : t2 = false := HT.out.2.2.1 (by decide)
      obtain rfl : t3 = false := HT.out.2.2.2.1 (by decide)
      clear HT HZ
      have hM := hL.later ((Below.refl _ _).alloc (Nat.le_refl _) (.cells #[.func (.func 72) #[] #[.pointer (some ⟨f, 0, none⟩)], .int .i64 6] 125))
      have C := C6 _ hM.vs hM.vf
      have hB1 := hB.alloc hB.size (.cells #[.func (.func 72) #[] #[.pointer (some ⟨f, 0, none⟩)], .int .i64 6] 125)
      go_wp2_with (go_at_call 72; with_reducible refine (C.out).mono ?_)
      rintro e w1 ⟨rfl, hb1⟩
      cases t4 with
      | true =>
        have q1 : w1.cell? ⟨wr.heap.size, 1, none⟩ = some (.int .i64 6) := (hb1.cell (by rw [World.size_alloc]; show wr.heap.size < wr.heap.size + 1; omega)).trans (World.cell?_alloc_mark wr _ _ (0, 0) 1)
        go_wp2_with fail
        simp only [Exit.noGoto]
        go_ret
        exact ⟨rfl, (hB1.trans (hb1.mono hB1.size))⟩
      | false =>
        go_wp2_with fail
        go_roundw
        case rel => exact ⟨5, by decide, rfl, rfl, Lib.hid ⟨fun _ => by first | rfl | trivial, fun _ => by first | rfl | trivial, fun _ => by first | rfl | trivial, fun _ => by first | rfl | trivial, fun _ => by first | rfl | trivial⟩, (hB1.trans (hb1.mono hB1.size))⟩
        case measure => simp [intOf]
    · clear hk
      obtain rfl : t0 = false := HT.out.1 (by decide)
      obtain rfl : t1 = false := HT.out.2.1 (by decide)
      obtain rfl : t2 = false := HT.out.2.2.1 (by decide)
      obtain rfl : t3 = false := HT.out.2.2.2.1 (by decide)
      obtain rfl : t4 = false := HT.out.2.2.2.2 (by decide)
      clear HT HZ
      go_wp2_with fail
      simp only [Exit.noGoto]
      go_ret
      exact ⟨rfl, hB⟩
end Go.Proofs.Ytjfijllnmjajpaa
