/- sum.words: what the iterator over a text's words hands to a loop's body: its words, one by one, in order; a last odd byte with a 0 behind it. -/
import Derived.WalkKit
import Derived.OwnWalkIn
import Derived.TacticsInMore
import Derived.LoopNIn
import Derived.LoopIn
import Derived.Lib.Hide
import Derived.Outline
import Derived.Test.YtjfijllnmjajpaaGt
import Derived.Test.YtjfijllnmjajpaaRf
import Derived.Test.YtjfijllnmjajpaaSm
namespace Go.Proofs.Ytjfijllnmjajpaa
open Go.RowKit Go.Shelf
attribute [local go_sem] Oper.semAt_some

/-- A word's number. -/
abbrev Word := { x : Int // 0 ≤ x ∧ x ≤ 65535 }
theorem getV_two (t : ByteArray) (p : Int) : 0 ≤ getV t p 2 ∧ getV t p 2 ≤ 65535 := by
  by_cases h : getB t p 2 = true
  · rw [getV_yes h]
    have := be_take_lt (t.data.toList.drop p.toNat) 2
    rw [show (2 : Int).toNat = 2 from rfl]
    omega
  · rw [getV_no (by simpa using h)]; omega
/-- Word number k of a text. -/
def wordAt (t : ByteArray) (k : Nat) : Word := ⟨getV t (2 * (k : Int)) 2, getV_two t _⟩
/-- The first k words. -/
def wordsTo (t : ByteArray) (k : Nat) : List Word := (List.range k).map (wordAt t)
theorem wordsTo_succ (t : ByteArray) (k : Nat) : wordsTo t (k + 1) = wordsTo t k ++ [wordAt t k] := by simp [wordsTo, List.range_succ]
theorem wordsTo_length (t : ByteArray) (k : Nat) : (wordsTo t k).length = k := by simp [wordsTo]

theorem below_grown {W W' : World} (h : Below W.heap.size W W') : W.grownBy W' none := ⟨h.os, h.tape, h.output, h.size, fun k hk _ => h.block k hk⟩
theorem abides_below {β : Type} {B : Nat} {J : β → World → Prop} (h : AbidesFrom B J) {s : β} {W W' : World} (hs : J s W) (hb : Below W.heap.size W W') : J s W' :=
  h s W W' none hs (below_grown hb) (fun r e => by cases e)

/-- The iterator's own writes: to the variable that it has captured. -/
def Sets (b : Nat) (A B : World) : Prop := ∃ v, B = A.setCell ⟨b, 0, none⟩ v
/-- The variable of block b holds on behind what it held. -/
abbrev KeepsBox (b : Nat) (A B : World) : Prop := KeepsCell b A B

set_option maxRecDepth 100000 in
set_option maxHeartbeats 800000 in
theorem words1_even (F : Fence) (n : Nat) (h29 : F.fn 80) (h15 : F.fn 33) (h26 : F.fn 48) (h28 : F.fn 64) (hro : F.round = none) (hn : 4 ≤ n) (l Bs M : Nat) (s : ByteArray) (hs : s.size ≤ 4294967296) (hM : s.size = 2 * M)
    (J Jx : List Word → World → Prop) (W : World) (hJ : AbidesFrom W.heap.size J) 
    (hY : ∀ pre x W, J pre W → pre.length < M → YieldAt F (n - 1) Try.prog l #[.int .u64 x.1] W fun e W' =>
      (e = .returned (.bool true) ∧ J (pre ++ [x]) W' ∧ KeepsBox Bs W W') ∨ (e = .returned (.bool false) ∧ Jx (pre ++ [x]) W'))
    (hBs : W.cell? ⟨Bs, 0, none⟩ = some (.string s)) (_hBf : W.frozen? ⟨Bs, 0, none⟩ = false) (h0 : J [] W) :
    CallsIn F n Try.prog 80 #[.func (.yield l) #[] #[], .pointer (some ⟨Bs, 0, none⟩)] W fun e W' => (∃ v, e = .returned v) ∧
      ((∃ ys, ys = wordsTo s M ∧ J ys W') ∨ (∃ pre, (∃ k, k ≤ M ∧ pre = wordsTo s k) ∧ Jx pre W')) := by
  have h1 : 1 ≤ n := by omega
  have q : ((s.size : Int) % 2 == 1) = false := by simp; omega
  have HM := Lib.hid hM; clear hM
  have HJ := Lib.hid hJ; clear hJ
  have HY := Lib.hid hY; clear hY
  refine callsIn_of_wp Try.func80 rfl h29 ?_ hro
  simp only [Try.ntmps80, List.size_toArray, List.length_cons, List.length_nil, Nat.reduceAdd, Nat.reduceSub, Array.replicate_succ, Array.replicate_zero, List.push_toArray, List.append_toArray, List.nil_append, List.cons_append]
  gi_wp2
  gi_loopw [3] (fun i wr => ∃ k : Nat, k ≤ M ∧ i = .int .i64 (2 * (k : Int)) ∧ J (wordsTo s k) wr ∧ wr.cell? ⟨Bs, 0, none⟩ = some (.string s))
    (fun i _ => 2 * M - (intOf i).toNat)
  case atStart => exact ⟨0, Nat.zero_le _, rfl, h0, hBs⟩
  case round =>
    obtain ⟨k, hk, rfl, hJs, hcx⟩ := hrel
    by_cases hlt : k < M
    · have hcond : 2 * (k : Int) < ((s).size : Int) := by have := HM.out; omega
      have hcond2 : 2 * k < (s).size := by omega
      gi_wp2_with fail
      refine (Get_in F (n - 1) h15 h26 h28 hro (by omega) s (2 * (k : Int)) 2 (by have := HM.out; omega) _).mono ?_
      rintro e w1 ⟨rfl, hb1⟩
      have hJ1 := abides_below HJ.out hJs hb1
      have hlb := World.block_lt_of_cell? _ _ hcx
      have hcx1 : w1.cell? ⟨Bs, 0, none⟩ = some (.string s) := (hb1.cell (p := ⟨Bs, 0, none⟩) hlb).trans hcx
      obtain ⟨fn, tmps, assign, body, hy, hR⟩ := HY.out (wordsTo s k) (wordAt s k) w1 hJ1 (by rw [wordsTo_length]; exact hlt)
      dsimp only [wordAt] at hy
      clear hcx hb1
      gi_wp2
      refine hR.mono ?_
      rintro e W3 (⟨rfl, hJ3, hk3⟩ | ⟨rfl, hJx3⟩)
      · have hcx3 := hk3 _ hcx1
        gi_wp2
        go_roundw
        case rel => exact ⟨k + 1, by omega, congrArg (Value.int IntKind.i64) (by omega), by rw [wordsTo_succ]; exact hJ3, hcx3⟩
        case measure => simp [intOf]; omega
      · gi_wp2
        refine bodyPost_ret (results_none rfl _ _ _) rfl ?_
        exact ⟨⟨_, rfl⟩, .inr ⟨_, ⟨k + 1, by omega, (wordsTo_succ _ _).symm⟩, hJx3⟩⟩
    · obtain rfl : k = M := by omega
      have hcond : ¬ 2 * (k : Int) < ((s).size : Int) := by have := HM.out; omega
      have hcond2 : ¬ 2 * k < (s).size := by omega
      gi_wp2
      go_end0
      exact ⟨⟨_, rfl⟩, .inl hJs⟩

set_option maxRecDepth 100000 in
set_option maxHeartbeats 800000 in
theorem words1_odd (F : Fence) (n : Nat) (h29 : F.fn 80) (h15 : F.fn 33) (h26 : F.fn 48) (h28 : F.fn 64) (hro : F.round = none) (hn : 4 ≤ n) (l Bs M : Nat) (s t : ByteArray) (hs : s.size ≤ 4294967296) (ht : t = s ++ ⟨#[0]⟩) (hM : s.size + 1 = 2 * M)
    (J Jx : List Word → World → Prop) (W : World) (hJ : AbidesFrom W.heap.size J) (hT : ∀ A B, Sets Bs A B → J [] A → J [] B)
    (hY : ∀ pre x W, J pre W → pre.length < M → YieldAt F (n - 1) Try.prog l #[.int .u64 x.1] W fun e W' =>
      (e = .returned (.bool true) ∧ J (pre ++ [x]) W' ∧ KeepsBox Bs W W') ∨ (e = .returned (.bool false) ∧ Jx (pre ++ [x]) W'))
    (hBs : W.cell? ⟨Bs, 0, none⟩ = some (.string s)) (hBf : W.frozen? ⟨Bs, 0, none⟩ = false) (h0 : J [] W) :
    CallsIn F n Try.prog 80 #[.func (.yield l) #[] #[], .pointer (some ⟨Bs, 0, none⟩)] W fun e W' => (∃ v, e = .returned v) ∧
      ((∃ ys, ys = wordsTo t M ∧ J ys W') ∨ (∃ pre, (∃ k, k ≤ M ∧ pre = wordsTo t k) ∧ Jx pre W')) := by
  have h1 : 1 ≤ n := by omega
  have q : ((s.size : Int) % 2 == 1) = true := by simp; omega
  have hM' : t.size = 2 * M := by rw [ht, ByteArray.size_append]; exact hM
  have hts : t.size ≤ 4294967297 := by omega
  have HM := Lib.hid hM'; clear hM hM'
  have HJ := Lib.hid hJ; clear hJ
  have HY := Lib.hid hY; clear hY
  have hJ1 := hT W (W.setCell ⟨Bs, 0, none⟩ (.string t)) ⟨_, rfl⟩ h0
  have hC1 : (W.setCell ⟨Bs, 0, none⟩ (.string t)).cell? ⟨Bs, 0, none⟩ = some (.string t) := World.cell?_setCell_same' W _ _ (by rw [hBs]; rfl)
  rw [ht] at hJ1 hC1
  clear hT
  have HT := Lib.hid ht; clear ht
  refine callsIn_of_wp Try.func80 rfl h29 ?_ hro
  simp only [Try.ntmps80, List.size_toArray, List.length_cons, List.length_nil, Nat.reduceAdd, Nat.reduceSub, Array.replicate_succ, Array.replicate_zero, List.push_toArray, List.append_toArray, List.nil_append, List.cons_append]
  gi_wp2
  gi_loopw [3] (fun i wr => ∃ k : Nat, k ≤ M ∧ i = .int .i64 (2 * (k : Int)) ∧ J (wordsTo t k) wr ∧ wr.cell? ⟨Bs, 0, none⟩ = some (.string t))
    (fun i _ => 2 * M - (intOf i).toNat)
  case atStart => exact ⟨0, Nat.zero_le _, rfl, by rw [HT.out]; exact hJ1, by rw [HT.out]; exact hC1⟩
  case round =>
    obtain ⟨k, hk, rfl, hJs, hcx⟩ := hrel
    by_cases hlt : k < M
    · have hcond : 2 * (k : Int) < ((t).size : Int) := by have := HM.out; omega
      have hcond2 : 2 * k < (t).size := by omega
      gi_wp2_with fail
      refine (Get_in F (n - 1) h15 h26 h28 hro (by omega) t (2 * (k : Int)) 2 (by have := HM.out; omega) _).mono ?_
      rintro e w1 ⟨rfl, hb1⟩
      have hJ1 := abides_below HJ.out hJs hb1
      have hlb := World.block_lt_of_cell? _ _ hcx
      have hcx1 : w1.cell? ⟨Bs, 0, none⟩ = some (.string t) := (hb1.cell (p := ⟨Bs, 0, none⟩) hlb).trans hcx
      obtain ⟨fn, tmps, assign, body, hy, hR⟩ := HY.out (wordsTo t k) (wordAt t k) w1 hJ1 (by rw [wordsTo_length]; exact hlt)
      dsimp only [wordAt] at hy
      clear hcx hb1
      gi_wp2
      refine hR.mono ?_
      rintro e W3 (⟨rfl, hJ3, hk3⟩ | ⟨rfl, hJx3⟩)
      · have hcx3 := hk3 _ hcx1
        gi_wp2
        go_roundw
        case rel => exact ⟨k + 1, by omega, congrArg (Value.int IntKind.i64) (by omega), by rw [wordsTo_succ]; exact hJ3, hcx3⟩
        case measure => simp [intOf]; omega
      · gi_wp2
        refine bodyPost_ret (results_none rfl _ _ _) rfl ?_
        exact ⟨⟨_, rfl⟩, .inr ⟨_, ⟨k + 1, by omega, (wordsTo_succ _ _).symm⟩, hJx3⟩⟩
    · obtain rfl : k = M := by omega
      have hcond : ¬ 2 * (k : Int) < ((t).size : Int) := by have := HM.out; omega
      have hcond2 : ¬ 2 * k < (t).size := by omega
      gi_wp2
      go_end0
      exact ⟨⟨_, rfl⟩, .inl hJs⟩

set_option maxHeartbeats 1000000 in
/-- 'words(s)': s is boxed; the function value captures the box. -/
theorem words_in (F : Fence) (n : Nat) (h6 : F.fn 79) (hro : F.round = none) (s : ByteArray) (w : World) :
    CallsIn F n Try.prog 79 #[.string s] w fun e w' => e = .returned (.func (.func 80) #[] #[.pointer (some ⟨w.heap.size, 0, none⟩)]) ∧ w' = w.alloc (.cells #[.string s] 9) := by
  refine callsIn_of_wp Try.func79 rfl h6 ?_ hro
  simp only [Try.ntmps79, List.size_toArray, List.length_cons, List.length_nil, Nat.reduceAdd, Nat.reduceSub, Array.replicate_succ, Array.replicate_zero, List.push_toArray, List.append_toArray, List.nil_append, List.cons_append]
  gi_wp2
  go_ret
  exact ⟨rfl, rfl⟩

/-- A text, with a 0 behind it where its bytes are odd in number. -/
def padded (s : ByteArray) : ByteArray := if s.size % 2 = 1 then s ++ ⟨#[0]⟩ else s
/-- How many words a text has. -/
def nwords (s : ByteArray) : Nat := (s.size + 1) / 2

/-- What 'words(s)' hands back, ranged over: the words, or the first k. -/
theorem words_stops (F : Fence) (n : Nat) (h29 : F.fn 80) (h15 : F.fn 33) (h26 : F.fn 48) (h28 : F.fn 64) (hro : F.round = none) (hn : 4 ≤ n) (Bs : Nat) (s : ByteArray) (hs : s.size ≤ 4294967296) (w : World) (hBs : Bs < w.heap.size)
    (hc : w.cell? ⟨Bs, 0, none⟩ = some (.string s)) (hf : w.frozen? ⟨Bs, 0, none⟩ = false) :
    SeqT F n Try.prog 80 #[.pointer (some ⟨Bs, 0, none⟩)] (fun x : Word => #[.int .u64 x.1]) (KeepsCell Bs) (Sets Bs) (fun ys => ys = wordsTo (padded s) (nwords s)) (fun pre => ∃ k, k ≤ nwords s ∧ pre = wordsTo (padded s) k) (nwords s) w := fun l J Jx W hW hJ _ hT _ hY h0 => by
  have hc' := (hW.cell (p := ⟨Bs, 0, none⟩) hBs).trans hc
  have hf' := (hW.frozen (p := ⟨Bs, 0, none⟩) hBs).trans hf
  by_cases h : s.size % 2 = 1
  · have hp : padded s = s ++ ⟨#[0]⟩ := by unfold padded; rw [if_pos h]
    rw [hp]
    exact words1_odd F n h29 h15 h26 h28 hro hn l Bs (nwords s) s _ hs rfl (by unfold nwords; omega) J Jx W hJ (fun A B hb hj => hT [] A B hb hj) hY hc' hf' h0
  · have hp : padded s = s := by unfold padded; rw [if_neg h]
    rw [hp]
    exact words1_even F n h29 h15 h26 h28 hro hn l Bs (nwords s) s hs (by unfold nwords; omega) J Jx W hJ hY hc' hf' h0
end Go.Proofs.Ytjfijllnmjajpaa
