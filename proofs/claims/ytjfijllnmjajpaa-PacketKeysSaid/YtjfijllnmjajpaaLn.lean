/- octet.lanes: what the iterator over a number's bytes hands to a loop's body: 0 and 8*(n-1), 1 and 8*(n-2), .., n-1 and 0; for n from 1 to 8. -/
import Derived.RangeFuncNested
import Derived.RangeFuncBound
import Derived.RangeFuncCalls
import Derived.RangeFuncLeaves
import Derived.Shelf.Abstract
import Derived.Shelf.RegionOpen
import Derived.WalkKit
import Derived.OwnWalkIn
import Derived.TacticsInMore
import Derived.LoopNIn
import Derived.LoopIn
import Derived.Laws.Bits64
import Derived.Outline
import Derived.Lib.Hide
import Derived.Test.YtjfijllnmjajpaaProg
namespace Go.Proofs.Ytjfijllnmjajpaa
open Go.RowKit Go.Shelf
attribute [local go_sem] Oper.semAt_some

/-- The cell of block b holds on behind what it held. -/
def KeepsCell (b : Nat) (A B : World) : Prop := ∀ v, A.cell? ⟨b, 0, none⟩ = some v → B.cell? ⟨b, 0, none⟩ = some v
theorem keepsCell_t {b : Nat} {A B C : World} (h : KeepsCell b A B) (k : KeepsCell b B C) : KeepsCell b A C := fun v hv => k v (h v hv)
theorem keepsCell_b {b : Nat} {w : World} (W : World) (l : Nat) (o o' : Obj) (_ : w.heap.size ≤ l) (hl : W.heap[l]? = some o) (ho : o.isCells = false) (_ : o.isWalk = false) : KeepsCell b W (W.putObj l o') :=
  fun _ hv => cell_kept hv (grownBy_putObj' W l o') (fun r e => by cases e; exact ⟨_, hl, ho⟩)

/-- The rounds of m: numbers below m. -/
abbrev Upto (m : Nat) := { k : Nat // k < m }
/-- What round k of m is handed: k, and how far its byte is shifted. -/
def lane (m : Nat) (k : Upto m) : Array Value := #[.int .i64 (k.1 : Int), .int .u64 (8 * ((m : Int) - 1 - (k.1 : Int)))]

set_option maxRecDepth 100000 in
set_option maxHeartbeats 2000000 in
theorem lanes1_in (F : Fence) (n : Nat) (h8 : F.fn 64) (hro : F.round = none) (hn : 1 ≤ n) (l Bn m : Nat) (_hm1 : 1 ≤ m) (hm8 : m ≤ 8) (J Jx : List (Upto m) → World → Prop)
    (hY : ∀ pre x W, J pre W → pre.length < m → YieldAt F (n - 1) Try.prog l (lane m x) W fun e W' =>
      (e = .returned (.bool true) ∧ J (pre ++ [x]) W' ∧ KeepsCell Bn W W') ∨ (e = .returned (.bool false) ∧ Jx (pre ++ [x]) W'))
    (W : World) (hBn : W.cell? ⟨Bn, 0, none⟩ = some (.int .i64 (m : Int))) (h0 : J [] W) :
    CallsIn F n Try.prog 64 #[.func (.yield l) #[] #[], .pointer (some ⟨Bn, 0, none⟩)] W fun e W' => (∃ v, e = .returned v) ∧
      ((∃ ys, ys.map Subtype.val = List.range m ∧ J ys W') ∨ (∃ pre, (∃ k, k ≤ m ∧ pre.map Subtype.val = List.range k) ∧ Jx pre W')) := by
  refine callsIn_of_wp Try.func64 rfl h8 ?_ hro
  simp only [Try.ntmps64, List.size_toArray, List.length_cons, List.length_nil, Nat.reduceAdd, Nat.reduceSub, Array.replicate_succ, Array.replicate_zero, List.push_toArray, List.append_toArray, List.nil_append, List.cons_append]
  gi_wp2
  gi_loopw [5] (fun i wr => ∃ (k : Nat) (pre : List (Upto m)), k ≤ m ∧ i = .int .i64 k ∧ pre.map Subtype.val = List.range k ∧ J pre wr ∧ wr.cell? ⟨Bn, 0, none⟩ = some (.int .i64 (m : Int)))
    (fun i _ => m - (intOf i).toNat)
  case atStart => exact ⟨0, [], Nat.zero_le _, rfl, rfl, h0, hBn⟩
  case round =>
    obtain ⟨k, pre, hk, rfl, hpre, hJs, hcx⟩ := hrel
    have hlen : pre.length = k := by have := congrArg List.length hpre; simpa using this
    have hstep : ∀ h : k < m, (pre ++ [(⟨k, h⟩ : Upto m)]).map Subtype.val = List.range (k + 1) := fun h => by rw [List.map_append, hpre, List.range_succ]; rfl
    have HP := Lib.hid hpre; clear hpre
    have HL := Lib.hid hlen; clear hlen
    by_cases hlt : k < m
    · obtain ⟨fn, tmps, assign, body, hy, hR⟩ := hY pre ⟨k, hlt⟩ wr hJs (by rw [HL.out]; exact hlt)
      have HS := Lib.hid (hstep hlt); clear hstep
      dsimp only [lane] at hy
      have e1 : IntKind.u64.wrap (8 * ((m : Int) - 1 - (k : Int))) = 8 * ((m : Int) - 1 - (k : Int)) := by rw [IntKind.wrap_u64]; omega
      gi_wp2
      refine hR.mono ?_
      rintro e W3 (⟨rfl, hJ3, hk3⟩ | ⟨rfl, hJx3⟩)
      · gi_wp2
        go_roundw
        case rel => exact ⟨k + 1, pre ++ [⟨k, hlt⟩], by omega, by simp, HS.out, hJ3, hk3 _ hcx⟩
        case measure => simp [intOf]; omega
      · gi_wp2
        refine bodyPost_ret (results_none rfl _ _ _) rfl ?_
        exact ⟨⟨_, rfl⟩, .inr ⟨_, ⟨k + 1, by omega, HS.out⟩, hJx3⟩⟩
    · obtain rfl : k = m := by omega
      clear hstep
      gi_wp2
      go_end0
      exact ⟨⟨_, rfl⟩, .inl ⟨pre, HP.out, hJs⟩⟩

set_option maxHeartbeats 1000000 in
/-- 'lanes(n)': n is boxed; the function value captures the box. -/
theorem lanes_in (F : Fence) (n : Nat) (h6 : F.fn 48) (hro : F.round = none) (m : Int) (w : World) :
    CallsIn F n Try.prog 48 #[.int .i64 m] w fun e w' => e = .returned (.func (.func 64) #[] #[.pointer (some ⟨w.heap.size, 0, none⟩)]) ∧ w' = w.alloc (.cells #[.int .i64 m] 3) := by
  refine callsIn_of_wp Try.func48 rfl h6 ?_ hro
  simp only [Try.ntmps48, List.size_toArray, List.length_cons, List.length_nil, Nat.reduceAdd, Nat.reduceSub, Array.replicate_succ, Array.replicate_zero, List.push_toArray, List.append_toArray, List.nil_append, List.cons_append]
  gi_wp2
  go_ret
  exact ⟨rfl, rfl⟩

/-- What 'lanes(n)' hands back, ranged over: 0, 1, .., n-1, each with its shift; all of them, or the first k. -/
theorem lanes_stops (F : Fence) (n : Nat) (h8 : F.fn 64) (hro : F.round = none) (hn : 1 ≤ n) (Bn m : Nat) (hm1 : 1 ≤ m) (hm8 : m ≤ 8) (w : World) (hBn : Bn < w.heap.size)
    (hc : w.cell? ⟨Bn, 0, none⟩ = some (.int .i64 (m : Int))) :
    SeqStopsK F n Try.prog 64 #[.pointer (some ⟨Bn, 0, none⟩)] (lane m) (KeepsCell Bn) (fun ys => ys.map Subtype.val = List.range m) (fun pre => ∃ k, k ≤ m ∧ pre.map Subtype.val = List.range k) m w := fun l J Jx W hW _ _ hY h0 =>
  lanes1_in F n h8 hro hn l Bn m hm1 hm8 J Jx hY W ((hW.cell (p := ⟨Bn, 0, none⟩) hBn).trans hc) h0
end Go.Proofs.Ytjfijllnmjajpaa
