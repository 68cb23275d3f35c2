/- sum.Fold, sum.Sum, sum.Good: for every text of at most 2^32 bytes they answer foldS. -/
import Derived.WalkKit
import Derived.OwnWalkIn
import Derived.TacticsInMore
import Derived.LoopNIn
import Derived.LoopIn
import Derived.Lib.Hide
import Derived.Outline
import Derived.Scope
import Derived.WalkMore
import Derived.Laws.BitsAllLaws
import Derived.Test.YtjfijllnmjajpaaWd
namespace Go.Proofs.Ytjfijllnmjajpaa
open Go.RowKit Go.Shelf
attribute [local go_sem] Oper.semAt_some


/-- The number that the variable of block b holds. -/
def cellNat (W : World) (b : Nat) : Nat := match W.cell? ⟨b, 0, none⟩ with | some v => (intOf v).toNat | none => 0
theorem cellNat_of {W : World} {b : Nat} {k : IntKind} {m : Nat} (h : W.cell? ⟨b, 0, none⟩ = some (.int k (m : Int))) : cellNat W b = m := by unfold cellNat; rw [h]; simp [intOf]

/-- One round of the carry. -/
theorem fold_round (m : Nat) (hm : m < 18446744073709551616) (h : 65535 < m) :
    IntKind.u64.wrap ((m : Int) / 65536 + bits .and .u64 (m : Int) 65535) = ((m / 65536 + m % 65536 : Nat) : Int) ∧ fold (m / 65536 + m % 65536) = fold m ∧ m / 65536 + m % 65536 < m := by
  have e := u64_and_nat m 65535 hm (by decide)
  have e2 : m &&& 65535 = m % 65536 := Nat.and_two_pow_sub_one_eq_mod m 16
  rw [e2] at e
  refine ⟨?_, fold_step m h, by omega⟩
  rw [show bits .and .u64 (m : Int) 65535 = ((m % 65536 : Nat) : Int) from e, IntKind.wrap_u64]
  omega

def sumW (l : List Word) : Int := l.foldl (fun s x => s + x.1) 0
theorem sumW_snoc (l : List Word) (x : Word) : sumW (l ++ [x]) = sumW l + x.1 := by simp [sumW]
theorem sumW_le (l : List Word) : 0 ≤ sumW l ∧ sumW l ≤ 65535 * l.length := by
  suffices h : ∀ (k : Nat) (l : List Word), l.length = k → 0 ≤ sumW l ∧ sumW l ≤ 65535 * k from h _ l rfl
  intro k
  induction k with
  | zero => intro l h; rw [List.length_eq_zero_iff.1 h]; simp [sumW]
  | succ k ih =>
    intro l h
    have hne : l ≠ [] := by intro e; subst e; simp at h
    obtain ⟨l', b, rfl⟩ : ∃ l' b, l = l' ++ [b] := ⟨l.dropLast, l.getLast hne, (List.dropLast_concat_getLast hne).symm⟩
    have := ih l' (by simpa using h)
    have := b.2
    rw [sumW_snoc]; omega

/-- The words, all together. -/
theorem sumW_to (t : ByteArray) (M : Nat) (ht : t.size = 2 * M) (k : Nat) (hk : k ≤ M) : sumW (wordsTo t k) = ((wsum (t.data.toList.take (2 * k)) : Nat) : Int) := by
  induction k with
  | zero => simp [wordsTo, sumW, wsum]
  | succ k ih =>
    have hl : 2 * k + 1 < t.data.toList.length := by simp; omega
    have hB : getB t (2 * (k : Int)) 2 = true := by rw [getB_iff]; omega
    rw [wordsTo_succ, sumW_snoc, ih (by omega), show 2 * (k + 1) = 2 * k + 2 from rfl, wsum_take _ k hl]
    show _ + getV t (2 * (k : Int)) 2 = _
    have e : (2 * (k : Int)).toNat = 2 * k := by omega
    rw [getV_yes hB, e, show (2 : Int).toNat = 2 from rfl, List.drop_eq_getElem_cons (by omega), List.drop_eq_getElem_cons hl]
    simp [be]

theorem sum_words (s : ByteArray) : sumW (wordsTo (padded s) (nwords s)) = ((wsum s.data.toList : Nat) : Int) := by
  have hsl : s.data.toList.length = s.size := by simp
  by_cases h : s.size % 2 = 1
  · have hp : padded s = s ++ ⟨#[0]⟩ := by unfold padded; rw [if_pos h]
    have hsz : (s ++ ⟨#[0]⟩ : ByteArray).size = 2 * nwords s := by rw [ByteArray.size_append]; show s.size + 1 = _; unfold nwords; omega
    rw [hp, sumW_to _ (nwords s) hsz _ (Nat.le_refl _)]
    have e : (s ++ ⟨#[0]⟩ : ByteArray).data.toList = s.data.toList ++ [0] := by rw [ByteArray.data_append]; simp
    rw [e, List.take_of_length_le (by rw [← hsz, ByteArray.size_append, List.length_append, hsl]; exact Nat.le_refl _), wsum_pad _ (by rw [hsl]; exact h)]
  · have hp : padded s = s := by unfold padded; rw [if_neg h]
    have hsz : s.size = 2 * nwords s := by unfold nwords; omega
    rw [hp, sumW_to s (nwords s) hsz _ (Nat.le_refl _), List.take_of_length_le (by omega)]

set_option maxRecDepth 100000 in
set_option maxHeartbeats 800000 in
theorem Fold_calls (s : ByteArray) (hs : s.size ≤ 4294967296) (w : World) :
    Calls Try.prog 76 #[.string s] w fun e W' => e = .returned (.int .i64 ((foldS s.data.toList : Nat) : Int)) ∧ Below w.heap.size w W' := by
  refine (callsIn_wide (n := 8)).1 ?_
  have h20 : Fence.wide.fn 76 := trivial
  refine callsIn_of_wp_marks Try.func76 rfl h20 ?_ rfl
  simp only [Try.ntmps76, List.size_toArray, List.length_cons, List.length_nil, Nat.reduceAdd, Nat.reduceSub, Array.replicate_succ, Array.replicate_zero, List.push_toArray, List.append_toArray, List.nil_append, List.cons_append]
  gi_wp2
  refine (wpIn_wide ..).2 (wp_scope_straight ((wpIn_wide (n := 8) ..).1 ?_))
  gi_wp2_with (refine ⟨trivial, ?_⟩; gi_at_call 79; refine (words_in Fence.wide 7 trivial rfl _ _).mono ?_; rintro e w' ⟨rfl, rfl⟩)
  have bV := Boxed.new w 63 (.int .u64 0)
  have bS := Boxed.new (w.alloc (.cells #[.int .u64 0] 63)) 9 (.string s)
  simp only [World.size_alloc] at bS
  have hB0 : Below w.heap.size w ((w.alloc (.cells #[.int .u64 0] 63)).alloc (.cells #[.string s] 9)) := ((Below.refl _ w).alloc (Nat.le_refl _) _).alloc (by simp) _
  refine wpIn_rangeFunc_T rfl (by decide) (gf := 80) (lb := #[.pointer (some ⟨w.heap.size + 1, 0, none⟩)]) rfl trivial (enters_of Try.func80 (by kernel_rfl) rfl)
    (words_stops Fence.wide 7 trivial trivial trivial trivial rfl (by decide) (w.heap.size + 1) s hs _ (by simp) bS.cell bS.frozen) keepsCell_t keepsCell_b (fun A B ⟨v, hv⟩ => by rw [hv]; exact (KeepsOthers.setCell _ _ _).from _) (Below.refl _ _) (fun _ => rfl)
    (fun pre W => ((W.cell? ⟨w.heap.size, 0, none⟩ = some (.int .u64 (sumW pre)) ∧ W.frozen? ⟨w.heap.size, 0, none⟩ = false)) ∧ Below w.heap.size w W)
    (fun _ _ _ => False)
    (OwnFrom.and (Own.from (fun s A B row hs hg hr => ⟨cell_kept hs.1 hg hr, (frozen_kept hs.1 hg hr).trans hs.2⟩) _) (ownFrom_below (Nat.le_refl _) (by simp; omega)))
    (fun _ _ _ _ _ hs _ _ => hs)
    (fun pre A B ⟨v, hv⟩ h => by
      rw [hv]
      exact ⟨⟨(World.cell?_setCell_other _ _ _ _ (addr_ne (by omega))).trans h.1.1, (World.frozen?_setCell ..).trans h.1.2⟩, h.2.setCell (p := ⟨w.heap.size + 1, 0, none⟩) (Nat.le_succ _) _⟩)
    (fun _ _ _ _ _ h => h)
    ⟨⟨(bV.alloc _).cell, (bV.alloc _).frozen⟩, hB0⟩
    (fun x => { tmps := #[.string s, undef, .int .i64 0, .pointer (some ⟨w.heap.size, 0, none⟩), .int .u64 x.1, .string s, .func (.func 80) #[] #[.pointer (some ⟨w.heap.size + 1, 0, none⟩)], .int .u64 x.1, undef, undef, undef, undef, undef, undef, undef, undef, undef, undef, undef, undef], defers := [] }) ?assign ?body ?done ?stop
  case assign =>
    intro l x W K hK
    gi_wp2
    exact hK
  case body =>
    rintro l pre x W ⟨⟨hc, hf⟩, hB⟩ hlt
    have e1 : IntKind.u64.wrap (sumW pre + x.1) = sumW (pre ++ [x]) := by
      have h1 := sumW_le pre
      have h2 := x.2
      have h3 : nwords s ≤ 2147483648 := by unfold nwords; omega
      rw [sumW_snoc, IntKind.wrap_u64]; omega
    have HE := Lib.hid e1; clear e1
    gi_wp2
    exact ⟨(KeepsOthers.setCell _ _ _).from _, fun u hu => (World.cell?_setCell_other _ _ _ _ (addr_ne (by omega))).trans hu,
      ⟨by rw [← HE.out]; exact World.cell?_setCell_same' _ _ _ (by rw [hc]; rfl), by rw [World.frozen?_setCell]; exact hf⟩, hB.setCell (p := ⟨w.heap.size, 0, none⟩) (Nat.le_refl _) _⟩
  case done =>
    rintro D ys W hD hys ⟨⟨hc, hf⟩, hB⟩ hK
    obtain ⟨N, hN⟩ : ∃ N : Nat, (N : Int) = sumW ys := ⟨(sumW ys).toNat, by have := sumW_le ys; omega⟩
    have hfold : foldS s.data.toList = fold N := by
      have := sum_words s
      rw [← hys, ← hN] at this
      unfold foldS
      rw [Int.ofNat_inj.1 this]
    have hNle : N < 18446744073709551616 := by
      have h1 := sumW_le ys
      have h2 : ys.length = nwords s := by rw [hys, wordsTo_length]
      have h3 : nwords s ≤ 2147483648 := by unfold nwords; omega
      omega
    rw [← hN] at hc
    have HF := Lib.hid hfold
    clear hys hfold
    gi_wp2
    refine wpIn_label ?_
    gi_wp2
    gi_loopw [11] (fun _ wr => ∃ m : Nat, wr.cell? ⟨w.heap.size, 0, none⟩ = some (.int .u64 (m : Int)) ∧ wr.frozen? ⟨w.heap.size, 0, none⟩ = false ∧ Hid (fold m = fold N) ∧ Hid (m < 18446744073709551616) ∧ Below w.heap.size w wr ∧ wr.heap[D]? = some (.deferred (some [])))
      (fun _ wr => cellNat wr w.heap.size)
    case atStart => exact ⟨N, hc, hf, Lib.hid rfl, Lib.hid hNle, hB, hK⟩
    case round =>
      obtain ⟨m, hm, hmf, HM, HL, hB2, hK2⟩ := hrel
      by_cases hle : (m : Int) ≤ 65535
      · gi_wp2
        have hfm : (m : Int) = ((foldS s.data.toList : Nat) : Int) := by
          rw [HF.out, ← HM.out, fold_small (by omega)]
        refine ⟨by simp, .inl ⟨_, _, rfl, run_takeDeferred hK2, ?_⟩⟩
        refine ⟨_, results_tmp rfl _ _ _, ?_, hB2.trans (belowK_b (w := w) (Nat.le_refl _) wr D _ _ (by simp at hD; omega) hK2 rfl rfl)⟩
        exact congrArg (fun z => Ending.returned (.int .i64 z)) hfm
      · have hst := fold_round m (by have := HL.out; omega) (by omega)
        have HS := Lib.hid hst; clear hst
        gi_wp2
        have hs1 := HS.out
        rw [hs1.1]
        have hc' : (wr.setCell ⟨w.heap.size, 0, none⟩ (.int .u64 ((m / 65536 + m % 65536 : Nat) : Int))).cell? ⟨w.heap.size, 0, none⟩ = some (.int .u64 ((m / 65536 + m % 65536 : Nat) : Int)) := World.cell?_setCell_same' _ _ _ (by rw [hm]; rfl)
        refine ⟨⟨m / 65536 + m % 65536, hc', (World.frozen?_setCell ..).trans hmf, Lib.hid (by rw [hs1.2.1]; exact HM.out), Lib.hid (by have := HL.out; have := hs1.2.2; omega), hB2.setCell (p := ⟨w.heap.size, 0, none⟩) (Nat.le_refl _) _, (KeepsOthers.setCell _ _ _).same D _ hK2 rfl⟩, ?_⟩
        rw [cellNat_of hc', cellNat_of hm]
        exact hs1.2.2
  case stop =>
    rintro D c pre W _ _ h _
    exact h.elim

set_option maxRecDepth 100000 in
set_option maxHeartbeats 400000 in
theorem Sum_calls (s : ByteArray) (hs : s.size ≤ 4294967296) (w : World) :
    Calls Try.prog 62 #[.string s] w fun e W' => e = .returned (.int .i64 (65535 - ((foldS s.data.toList : Nat) : Int))) ∧ Below w.heap.size w W' := by
  have C := Lib.hid (Fold_calls s hs)
  have hle := fold_le (wsum s.data.toList)
  have hle' : foldS s.data.toList ≤ 65535 := hle
  clear hle
  generalize foldS s.data.toList = N at *
  go_enter Try.func62, Try.ntmps62
  go_wp2_with fail
  refine (C.out _).mono ?_
  rintro e w1 ⟨rfl, hb1⟩
  go_wp2_with fail
  go_ret
  exact ⟨rfl, hb1⟩

/-- Is nothing left? -/
def goodS (l : List UInt8) : Bool := foldS l == 65535

set_option maxRecDepth 100000 in
set_option maxHeartbeats 400000 in
theorem Good_calls (s : ByteArray) (hs : s.size ≤ 4294967296) (w : World) :
    Calls Try.prog 71 #[.string s] w fun e W' => e = .returned (.bool (goodS s.data.toList)) ∧ Below w.heap.size w W' := by
  have C := Lib.hid (Fold_calls s hs)
  have hg : (((foldS s.data.toList : Nat) : Int) == 65535) = goodS s.data.toList := by
    unfold goodS; rw [Bool.eq_iff_iff, beq_iff_eq, beq_iff_eq]; omega
  generalize ((foldS s.data.toList : Nat) : Int) = N at *
  generalize goodS s.data.toList = b at *
  go_enter Try.func71, Try.ntmps71
  go_wp2_with fail
  refine (C.out _).mono ?_
  rintro e w1 ⟨rfl, hb1⟩
  go_wp2_with fail
  go_ret
  exact ⟨rfl, hb1⟩
end Go.Proofs.Ytjfijllnmjajpaa
