/- octet.Get: for every text, every place and every number of bytes it answers getV and getB. -/
import Derived.RangeFuncNested
import Derived.RangeFuncBound
import Derived.RangeFuncCalls
import Derived.RangeFuncLeaves
import Derived.Shelf.Abstract
import Derived.Shelf.RegionOpen
import Derived.WalkKit
import Derived.OwnWalkIn
import Derived.TacticsInMore
import Derived.LoopNIn
import Derived.LoopIn
import Derived.Laws.Bits64b
import Derived.Laws.Bits64
import Derived.Outline
import Derived.Test.YtjfijllnmjajpaaLn
import Derived.Test.YtjfijllnmjajpaaOc
import Derived.Test.YtjfijllnmjajpaaRg
namespace Go.Proofs.Ytjfijllnmjajpaa
open Go.RowKit Go.Shelf
attribute [local go_sem] Oper.semAt_some

theorem addr_ne {a b : Nat} (h : a ≠ b) : (⟨a, 0, none⟩ : Addr) ≠ ⟨b, 0, none⟩ := fun e => h (congrArg Addr.block e)

/-- One round of Get: the byte, shifted to its place, joins what is there. -/
theorem step_val (s : ByteArray) (p m x : Nat) (l : List Nat) (hm : m ≤ 8) (hx : x < m) (h : p + x < s.size) (hl : ∀ k ∈ l, k < m) :
    bits .or .u64 ((accL s p m l : Nat) : Int) (IntKind.u64.wrap (IntKind.u64.wrap ((s[p + x].toNat : Nat) : Int) * 2 ^ (8 * (m - 1 - x)))) = ((accL s p m (l ++ [x]) : Nat) : Int) := by
  have hb := part_lt s[p + x] m x hm hx
  have hc := s[p + x].toNat_lt
  have e1 : IntKind.u64.wrap ((s[p + x].toNat : Nat) : Int) = ((s[p + x].toNat : Nat) : Int) := by rw [IntKind.wrap_u64]; omega
  have e2 : IntKind.u64.wrap (((s[p + x].toNat : Nat) : Int) * 2 ^ (8 * (m - 1 - x))) = ((s[p + x].toNat * 256 ^ (m - 1 - x) : Nat) : Int) := by
    rw [pow_256] at hb ⊢
    have e : ((s[p + x].toNat : Nat) : Int) * 2 ^ (8 * (m - 1 - x)) = ((s[p + x].toNat * 2 ^ (8 * (m - 1 - x)) : Nat) : Int) := by rw [Int.natCast_mul, Int.natCast_pow]; rfl
    rw [IntKind.wrap_u64, e]
    exact Int.emod_eq_of_lt (Int.natCast_nonneg _) (Int.ofNat_lt.2 hb)
  rw [e1, e2, bits_or_u64_nat _ _ (accL_lt s p m hm l hl) hb, accL_snoc, byte_at s _ h]

set_option maxRecDepth 100000 in
set_option maxHeartbeats 400000 in
theorem Get_yes (F : Fence) (n : Nat) (h3 : F.fn 33) (h5 : F.fn 48) (h6 : F.fn 64) (hro : F.round = none) (hn : 3 ≤ n) (s : ByteArray) (p m : Nat) (hm1 : 1 ≤ m) (hm8 : m ≤ 8) (hp : p + m ≤ s.size) (hs : s.size ≤ 9223372036854775807) (w : World) :
    CallsIn F n Try.prog 33 #[.string s, .int .i64 (p : Int), .int .i64 (m : Int)] w fun e W' => e = .returned (.tuple #[.int .u64 ((acc s p m m : Nat) : Int), .bool true]) ∧ Below w.heap.size w W' := by
  have h1 : 1 ≤ n := by omega
  have hd1 : decide ((m : Int) < 1) = false := by simp; omega
  have hd2 : decide (8 < (m : Int)) = false := by simp; omega
  have hd3 : decide ((p : Int) < 0) = false := by simp
  have hd4 : decide ((s.size : Int) - (m : Int) < (p : Int)) = false := by simp; omega
  refine callsIn_of_wp_marks Try.func33 rfl h3 ?_ hro
  simp only [Try.ntmps33, List.size_toArray, List.length_cons, List.length_nil, Nat.reduceAdd, Nat.reduceSub, Array.replicate_succ, Array.replicate_zero, List.push_toArray, List.append_toArray, List.nil_append, List.cons_append]
  gi_wp2_with (gi_at_call 48; refine (lanes_in F (n - 1) h5 hro _ _).mono ?_; rintro e w' ⟨rfl, rfl⟩)
  have bS := Boxed.new w 9 (.string s)
  have bP := Boxed.new (w.alloc (.cells #[.string s] 9)) 3 (.int .i64 (p : Int))
  have bV := Boxed.new ((w.alloc (.cells #[.string s] 9)).alloc (.cells #[.int .i64 (p : Int)] 3)) 63 (.int .u64 0)
  have bN := Boxed.new (((w.alloc (.cells #[.string s] 9)).alloc (.cells #[.int .i64 (p : Int)] 3)).alloc (.cells #[.int .u64 0] 63)) 3 (.int .i64 (m : Int))
  simp only [World.size_alloc] at bP bV bN
  have hB0 : Below w.heap.size w ((((w.alloc (.cells #[.string s] 9)).alloc (.cells #[.int .i64 (p : Int)] 3)).alloc (.cells #[.int .u64 0] 63)).alloc (.cells #[.int .i64 (m : Int)] 3)) :=
    ((((Below.refl _ w).alloc (Nat.le_refl _) _).alloc (by simp) _).alloc (by simp; omega) _).alloc (by simp; omega) _
  refine wpIn_rangeFunc_ownG hro h1 (gf := 64) (lb := #[.pointer (some ⟨w.heap.size + 1 + 1 + 1, 0, none⟩)]) rfl h6 (enters_of Try.func64 (by kernel_rfl) rfl)
    (lanes_stops F (n - 1) h6 hro (by omega) (w.heap.size + 1 + 1 + 1) m hm1 hm8 _ (by simp) bN.cell) keepsCell_t keepsCell_b (Below.refl _ _) (fun _ => rfl)
    (fun pre W => ((W.cell? ⟨w.heap.size, 0, none⟩ = some (.string s) ∧ W.cell? ⟨w.heap.size + 1, 0, none⟩ = some (.int .i64 (p : Int)) ∧ W.cell? ⟨w.heap.size + 1 + 1, 0, none⟩ = some (.int .u64 ((accL s p m (pre.map Subtype.val) : Nat) : Int)) ∧ W.frozen? ⟨w.heap.size + 1 + 1, 0, none⟩ = false)) ∧ Below w.heap.size w W)
    (fun _ _ _ => False)
    (OwnFrom.and (Own.from (fun s A B row hs hg hr => ⟨cell_kept hs.1 hg hr, cell_kept hs.2.1 hg hr, cell_kept hs.2.2.1 hg hr, (frozen_kept hs.2.2.1 hg hr).trans hs.2.2.2⟩) _) (ownFrom_below (Nat.le_refl _) (by simp; omega)))
    (fun _ _ _ _ _ hs _ _ => hs)
    ⟨⟨((bS.alloc _).alloc _ |>.alloc _).cell, ((bP.alloc _).alloc _).cell, (bV.alloc _).cell, (bV.alloc _).frozen⟩, hB0⟩
    (fun x => { tmps := #[.string s, .int .i64 (p : Int), .int .i64 (m : Int), .pointer (some ⟨w.heap.size, 0, none⟩), .pointer (some ⟨w.heap.size + 1, 0, none⟩), undef, .int .u64 0, .bool false, .pointer (some ⟨w.heap.size + 1 + 1, 0, none⟩), .int .i64 (x.1 : Int), .int .u64 (8 * ((m : Int) - 1 - (x.1 : Int))), .int .i64 (m : Int), .bool false, .bool false, .int .i64 (m : Int), .bool false, .bool false, .bool false, .int .i64 (p : Int), .bool false, .bool false, .bool false, .int .i64 (p : Int), .string s, .int .i64 (s.size : Int), .int .i64 (m : Int), .int .i64 ((s.size : Int) - (m : Int)), .bool false, .bool false, .int .i64 (m : Int), .func (.func 64) #[] #[.pointer (some ⟨w.heap.size + 1 + 1 + 1, 0, none⟩)], .int .i64 (x.1 : Int), .int .u64 (8 * ((m : Int) - 1 - (x.1 : Int))), undef, undef, undef, undef, undef, undef, undef, undef, undef, undef, undef], defers := [] }) ?assign ?body ?done ?stop
  case assign =>
    intro l x W K hK
    dsimp only [lane]
    gi_wp2
    exact hK
  case body =>
    rintro l pre ⟨x, hx⟩ W ⟨⟨hc0, hc1, hc2, hf2⟩, hB⟩ hlt
    dsimp only
    have hi1 : (0 : Int) ≤ (p : Int) + (x : Int) := by omega
    have hi2 : (p : Int) + (x : Int) < (s.size : Int) := by omega
    have hwr : IntKind.i64.wrap ((p : Int) + (x : Int)) = (p : Int) + (x : Int) := IntWalk.i64_in _ (by omega)
    have hmx : Try.prog.follows .mixedOrders = true := by kernel_rfl
    gi_wp2
    refine wpIn_region_round_tail 10 hmx (by rintro ⟨_, _, h⟩; exact h) (by rfl) (by kernel_rfl) ?_
    simp only [List.take_succ_cons, List.take_zero, List.drop_succ_cons, List.drop_zero]
    change wpStill _ _ W.drew _ _ _
    repeat still_step
    try refine wpStill_nil ?_
    change wpList _ _ _ _ _ W.drew
    go_wp2
    refine ⟨((KeepsOthers.setCell _ _ _).trans (KeepsOthers.drew _)).from _, fun v hv => ?_, ⟨?_, ?_, ?_, ?_⟩, ?_⟩
    · rw [← hv]; exact World.cell?_setCell_other _ _ _ _ (addr_ne (by omega))
    · rw [← hc0]; exact World.cell?_setCell_other _ _ _ _ (addr_ne (by omega))
    · rw [← hc1]; exact World.cell?_setCell_other _ _ _ _ (addr_ne (by omega))
    · have e := step_val s p m x (pre.map Subtype.val) hm8 hx (by omega) (fun k hk => by obtain ⟨y, _, rfl⟩ := List.mem_map.1 hk; exact y.2)
      rw [List.map_append]
      have e3 : W.drew.cell? ⟨w.heap.size + 1 + 1, 0, none⟩ = some (.int .u64 ((accL s p m (pre.map Subtype.val) : Nat) : Int)) := hc2
      refine (World.cell?_setCell_same' W _ _ (by rw [hc2]; rfl)).trans ?_
      exact congrArg (fun z => some (Value.int IntKind.u64 z)) e
    · exact (World.frozen?_setCell ..).trans hf2
    · exact (hB.setCell (p := ⟨w.heap.size + 1 + 1, 0, none⟩) (by show w.heap.size ≤ w.heap.size + 1 + 1; omega) _).drew
  case done =>
    rintro D ys W hD hys ⟨⟨_, _, hc2, _⟩, hB⟩ hK
    rw [hys, accL_range s p m hp m (Nat.le_refl _)] at hc2
    clear hys
    gi_wp2
    refine ⟨by simp, .inl ⟨_, _, rfl, run_takeDeferred hK, ?_⟩⟩
    exact ⟨_, results_tmp2 rfl _ _ _, rfl, hB.trans (belowK_b (w := w) (Nat.le_refl _) W D _ _ (by simp at hD; omega) hK rfl rfl)⟩
  case stop =>
    rintro D c pre W _ _ h _
    exact h.elim

set_option maxRecDepth 100000 in
set_option maxHeartbeats 400000 in
theorem Get_no (F : Fence) (n : Nat) (h3 : F.fn 33) (hro : F.round = none) (s : ByteArray) (p m : Int) (hs : s.size ≤ 9223372036854775807) (hno : m < 1 ∨ 8 < m ∨ p < 0 ∨ (s.size : Int) - m < p) (w : World) :
    CallsIn F n Try.prog 33 #[.string s, .int .i64 p, .int .i64 m] w fun e W' => e = .returned (.tuple #[.int .u64 0, .bool false]) ∧ Below w.heap.size w W' := by
  have hb : Below w.heap.size w ((w.alloc (.cells #[.string s] 9)).alloc (.cells #[.int .i64 p] 3)) := ((Below.refl _ w).alloc (Nat.le_refl _) _).alloc (by simp) _
  refine callsIn_of_wp Try.func33 rfl h3 ?_ hro
  simp only [Try.ntmps33, List.size_toArray, List.length_cons, List.length_nil, Nat.reduceAdd, Nat.reduceSub, Array.replicate_succ, Array.replicate_zero, List.push_toArray, List.append_toArray, List.nil_append, List.cons_append]
  by_cases h1 : m < 1
  · have d1 : decide (m < 1) = true := by simpa using h1
    clear hno
    gi_wp2
    go_ret2
    exact ⟨rfl, hb⟩
  · have d1 : decide (m < 1) = false := by simpa using h1
    by_cases h2 : 8 < m
    · have d2 : decide (8 < m) = true := by simpa using h2
      clear hno
      gi_wp2
      go_ret2
      exact ⟨rfl, hb⟩
    · have d2 : decide (8 < m) = false := by simpa using h2
      by_cases h3 : p < 0
      · have d3 : decide (p < 0) = true := by simpa using h3
        clear hno
        gi_wp2
        go_ret2
        exact ⟨rfl, hb⟩
      · have d3 : decide (p < 0) = false := by simpa using h3
        have h4 : (s.size : Int) - m < p := by omega
        have d4 : decide ((s.size : Int) - m < p) = true := by simpa using h4
        clear hno
        gi_wp2
        go_ret2
        exact ⟨rfl, hb⟩

/-- octet.Get, whatever it is given. -/
theorem Get_in (F : Fence) (n : Nat) (h3 : F.fn 33) (h5 : F.fn 48) (h6 : F.fn 64) (hro : F.round = none) (hn : 3 ≤ n) (s : ByteArray) (p m : Int) (hs : s.size ≤ 9223372036854775807) (w : World) :
    CallsIn F n Try.prog 33 #[.string s, .int .i64 p, .int .i64 m] w fun e W' => e = .returned (.tuple #[.int .u64 (getV s p m), .bool (getB s p m)]) ∧ Below w.heap.size w W' := by
  cases hg : getB s p m with
  | false =>
    rw [getV_no hg]
    exact Get_no F n h3 hro s p m hs (by simp [getB] at hg; omega) w
  | true =>
    obtain ⟨a1, a2, a3, a4⟩ := (getB_iff s p m).1 hg
    obtain ⟨p, rfl⟩ := Int.eq_ofNat_of_zero_le a3
    obtain ⟨m, rfl⟩ := Int.eq_ofNat_of_zero_le (show 0 ≤ m by omega)
    rw [getV_yes hg, Int.toNat_natCast, Int.toNat_natCast, ← acc_all]
    exact Get_yes F n h3 h5 h6 hro hn s p m (by omega) (by omega) (by omega) hs w

/-- octet.Get, called from anywhere. -/
theorem Get_calls (s : ByteArray) (p m : Int) (hs : s.size ≤ 9223372036854775807) (w : World) :
    Calls Try.prog 33 #[.string s, .int .i64 p, .int .i64 m] w fun e W' => e = .returned (.tuple #[.int .u64 (getV s p m), .bool (getB s p m)]) ∧ Below w.heap.size w W' :=
  callsIn_wide.1 (Get_in Fence.wide 3 trivial trivial trivial rfl (Nat.le_refl _) s p m hs w)
end Go.Proofs.Ytjfijllnmjajpaa
