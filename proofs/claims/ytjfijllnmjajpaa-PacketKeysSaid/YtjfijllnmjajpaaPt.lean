/- octet.Put: for every number and every number of bytes it answers putS. -/
import Derived.RangeFuncNested
import Derived.RangeFuncBound
import Derived.RangeFuncCalls
import Derived.RangeFuncLeaves
import Derived.Shelf.Abstract
import Derived.Shelf.RegionOpen
import Derived.WalkKit
import Derived.OwnWalkIn
import Derived.TacticsInMore
import Derived.LoopNIn
import Derived.LoopIn
import Derived.Laws.Bits64b
import Derived.Laws.Bits64
import Derived.Laws.IdiomStrings
import Derived.Deep.OwnRows
import Derived.Outline
import Derived.Test.YtjfijllnmjajpaaGt
namespace Go.Proofs.Ytjfijllnmjajpaa
open Go.RowKit Go.Shelf
attribute [local go_sem] Oper.semAt_some

/-- What stands at place j of Put's bytes when the rounds l have come. -/
def putAt (v m : Nat) (l : List Nat) (j : Nat) : Int := if j ∈ l then (((v / 256 ^ (m - 1 - j) % 256 : Nat)) : Int) else 0

theorem put_step (v m x : Nat) (l : List Nat) : (v : Int) / 2 ^ (8 * (m - 1 - x)) % 256 = putAt v m (l ++ [x]) x := by
  unfold putAt
  rw [if_pos (by simp), pow_256, Int.natCast_emod, Int.natCast_ediv, Int.natCast_pow]
  rfl
theorem put_other (v m j x : Nat) (l : List Nat) (h : j ≠ x) : putAt v m l j = putAt v m (l ++ [x]) j := by
  unfold putAt
  have e : (j ∈ l ++ [x]) ↔ j ∈ l := by simp [h]
  by_cases hj : j ∈ l
  · rw [if_pos hj, if_pos (e.2 hj)]
  · rw [if_neg hj, if_neg (fun h => hj (e.1 h))]
theorem addr_ne' {a b o o' : Nat} (h : a ≠ b) : (⟨a, o, none⟩ : Addr) ≠ ⟨b, o', none⟩ := fun e => h (congrArg Addr.block e)

theorem addr_add (b j : Nat) : (⟨b, 0, none⟩ : Addr).add j = ⟨b, j, none⟩ := by unfold Addr.add; split <;> simp_all

theorem made_cells (w : World) (v m j : Nat) (hj : j < m) (o1 o2 o3 : Obj) :
    ((((w.alloc o1).alloc (.cells (madeCells #[.int .u8 0] m) 5)).alloc o2).alloc o3).cell? ⟨w.heap.size + 1, j, none⟩ = some (.int .u8 (putAt v m [] j)) ∧
    ((((w.alloc o1).alloc (.cells (madeCells #[.int .u8 0] m) 5)).alloc o2).alloc o3).frozen? ⟨w.heap.size + 1, j, none⟩ = false := by
  have hm : (madeCells #[(.int .u8 0 : Value)] m)[j]? = some (.int .u8 0) := by
    rw [← Array.getElem?_toList, toList_madeCells_one]; simp [hj]
  have hp : putAt v m [] j = 0 := by simp [putAt]
  have h1 : ((w.alloc o1).alloc (.cells (madeCells #[.int .u8 0] m) 5)).cell? ⟨w.heap.size + 1, j, none⟩ = some (.int .u8 0) := by
    have := World.cell?_alloc_mark (w.alloc o1) (madeCells #[.int .u8 0] m) 5 (0, 0) j
    rw [World.size_alloc] at this
    exact this.trans hm
  have h2 : ((w.alloc o1).alloc (.cells (madeCells #[.int .u8 0] m) 5)).frozen? ⟨w.heap.size + 1, j, none⟩ = false := by
    have := World.frozen?_alloc_mark (w.alloc o1) (madeCells #[.int .u8 0] m) 5 0 0 j
    rw [World.size_alloc] at this
    rw [this]; simp
  rw [hp]
  have hk : ∀ {W : World} {p : Addr} {u : Value} (o : Obj), W.cell? p = some u → W.frozen? p = false → (W.alloc o).cell? p = some u ∧ (W.alloc o).frozen? p = false := fun o hc hf =>
    ⟨cell_kept hc (World.grownBy_alloc _ o none) (fun r e => by cases e), (frozen_kept hc (World.grownBy_alloc _ o none) (fun r e => by cases e)).trans hf⟩
  obtain ⟨a1, a2⟩ := hk o2 h1 h2
  exact hk o3 a1 a2

set_option maxRecDepth 100000 in
set_option maxHeartbeats 400000 in
theorem Put_yes (F : Fence) (n : Nat) (h3 : F.fn 45) (h5 : F.fn 48) (h6 : F.fn 64) (hro : F.round = none) (hn : 3 ≤ n) (v m : Nat) (hm1 : 1 ≤ m) (hm8 : m ≤ 8) (w : World) :
    CallsIn F n Try.prog 45 #[.int .u64 (v : Int), .int .i64 (m : Int)] w fun e W' => e = .returned (.string ⟨(eb m v).toArray⟩) ∧ Below w.heap.size w W' := by
  have h1 : 1 ≤ n := by omega
  have hd1 : decide ((m : Int) < 1) = false := by simp; omega
  have hd2 : decide (8 < (m : Int)) = false := by simp; omega
  have hmk := fun wx : World => run_make_row' (P := Try.prog) 87 5 (.int .u8 0) 1 Try.underlying87 (by kernel_rfl) rfl .i64 .i64 m (by omega) (by omega) wx
  refine callsIn_of_wp_marks Try.func45 rfl h3 ?_ hro
  simp only [Try.ntmps45, List.size_toArray, List.length_cons, List.length_nil, Nat.reduceAdd, Nat.reduceSub, Array.replicate_succ, Array.replicate_zero, List.push_toArray, List.append_toArray, List.nil_append, List.cons_append]
  gi_wp2_with (gi_at_call 48; refine (lanes_in F (n - 1) h5 hro _ _).mono ?_; rintro e w' ⟨rfl, rfl⟩)
  have bV := Boxed.new w 63 (.int .u64 (v : Int))
  have bS := Boxed.new ((w.alloc (.cells #[.int .u64 (v : Int)] 63)).alloc (.cells (madeCells #[.int .u8 0] m) 5)) 87 (.slice (some ⟨w.heap.size + 1, 0, none⟩) m m)
  have bN := Boxed.new (((w.alloc (.cells #[.int .u64 (v : Int)] 63)).alloc (.cells (madeCells #[.int .u8 0] m) 5)).alloc (.cells #[.slice (some ⟨w.heap.size + 1, 0, none⟩) m m] 87)) 3 (.int .i64 (m : Int))
  simp only [World.size_alloc] at bS bN
  have hB0 : Below w.heap.size w ((((w.alloc (.cells #[.int .u64 (v : Int)] 63)).alloc (.cells (madeCells #[.int .u8 0] m) 5)).alloc (.cells #[.slice (some ⟨w.heap.size + 1, 0, none⟩) m m] 87)).alloc (.cells #[.int .i64 (m : Int)] 3)) :=
    ((((Below.refl _ w).alloc (Nat.le_refl _) _).alloc (by simp) _).alloc (by simp; omega) _).alloc (by simp; omega) _
  refine wpIn_rangeFunc_ownG hro h1 (gf := 64) (lb := #[.pointer (some ⟨w.heap.size + 1 + 1 + 1, 0, none⟩)]) rfl h6 (enters_of Try.func64 (by kernel_rfl) rfl)
    (lanes_stops F (n - 1) h6 hro (by omega) (w.heap.size + 1 + 1 + 1) m hm1 hm8 _ (by simp) bN.cell) keepsCell_t keepsCell_b (Below.refl _ _) (fun _ => rfl)
    (fun pre W => ((W.cell? ⟨w.heap.size, 0, none⟩ = some (.int .u64 (v : Int)) ∧ W.cell? ⟨w.heap.size + 1 + 1, 0, none⟩ = some (.slice (some ⟨w.heap.size + 1, 0, none⟩) m m)) ∧ (∀ j, j < m → W.cell? ⟨w.heap.size + 1, j, none⟩ = some (.int .u8 (putAt v m (pre.map Subtype.val) j)) ∧ W.frozen? ⟨w.heap.size + 1, j, none⟩ = false)) ∧ Below w.heap.size w W)
    (fun _ _ _ => False)
    (OwnFrom.and (Own.from (fun s A B row hs hg hr => ⟨⟨cell_kept hs.1.1 hg hr, cell_kept hs.1.2 hg hr⟩, fun j hj => ⟨cell_kept (hs.2 j hj).1 hg hr, (frozen_kept (hs.2 j hj).1 hg hr).trans (hs.2 j hj).2⟩⟩) _) (ownFrom_below (Nat.le_refl _) (by simp; omega)))
    (fun _ _ _ _ _ hs _ _ => hs)
    ⟨⟨⟨(((bV.alloc _).alloc _).alloc _).cell, (bS.alloc _).cell⟩, fun j hj => made_cells w v m j hj _ _ _⟩, hB0⟩
    (fun x => { tmps := #[.int .u64 (v : Int), .int .i64 (m : Int), .pointer (some ⟨w.heap.size, 0, none⟩), undef, .string ⟨#[]⟩, .pointer (some ⟨w.heap.size + 1 + 1, 0, none⟩), .int .i64 (x.1 : Int), .int .u64 (8 * ((m : Int) - 1 - (x.1 : Int))), .int .i64 (m : Int), .bool false, .bool false, .int .i64 (m : Int), .bool false, .bool false, .int .i64 (m : Int), .slice (some ⟨w.heap.size + 1, 0, none⟩) m m, .int .i64 (m : Int), .func (.func 64) #[] #[.pointer (some ⟨w.heap.size + 1 + 1 + 1, 0, none⟩)], .int .i64 (x.1 : Int), .int .u64 (8 * ((m : Int) - 1 - (x.1 : Int))), undef, undef, undef, undef, undef, undef, undef, undef, undef], defers := [] }) ?assign ?body ?done ?stop
  case assign =>
    intro l x W K hK
    dsimp only [lane]
    gi_wp2
    exact hK
  case body =>
    rintro l pre ⟨x, hx⟩ W ⟨⟨⟨hc0, hc2⟩, hcs⟩, hB⟩ hlt
    dsimp only
    obtain ⟨hcx, hfx⟩ := hcs x hx
    have HC := Lib.hid hcs
    clear hcs
    gi_wp2
    refine ⟨(KeepsOthers.setCell _ _ _).from _, fun u hu => ?_, ⟨⟨?_, ?_⟩, fun j hj => ?_⟩, ?_⟩
    · rw [← hu]; exact World.cell?_setCell_other _ _ _ _ (addr_ne' (by omega))
    · rw [← hc0]; exact World.cell?_setCell_other _ _ _ _ (addr_ne' (by omega))
    · rw [← hc2]; exact World.cell?_setCell_other _ _ _ _ (addr_ne' (by omega))
    · rw [World.frozen?_setCell, List.map_append]
      refine ⟨?_, (HC.out j hj).2⟩
      by_cases hjx : j = x
      · subst hjx
        refine (World.cell?_setCell_same' W _ _ (by rw [hcx]; rfl)).trans ?_
        exact congrArg (fun z => some (Value.int IntKind.u8 z)) (put_step v m j (pre.map Subtype.val))
      · refine (World.cell?_setCell_other _ _ _ _ (fun e => hjx (congrArg Addr.off e).symm)).trans ?_
        rw [(HC.out j hj).1]
        exact congrArg (fun z => some (Value.int IntKind.u8 z)) (put_other v m j x (pre.map Subtype.val) hjx)
    · exact hB.setCell (p := ⟨w.heap.size + 1, x, none⟩) (by show w.heap.size ≤ w.heap.size + 1; omega) _
  case done =>
    rintro D ys W hD hys ⟨⟨⟨_, hc2⟩, hcs⟩, hB⟩ hK
    have hconv := run_convert_bytes_back (P := Try.prog) W 87 9 5 ⟨w.heap.size + 1, 0, none⟩ m (eb m v) Try.underlying87 Try.underlying5 Try.underlying9 (fun j hj => by
      have hj' : j < m := by rw [eb_length] at hj; exact hj
      have e : (⟨w.heap.size + 1, 0, none⟩ : Addr).add j = ⟨w.heap.size + 1, j, none⟩ := addr_add _ _
      rw [e, (hcs j hj').1, hys, eb_get m v j hj']
      simp [putAt, hj'])
    rw [eb_length] at hconv
    clear hcs
    gi_wp2
    refine ⟨by simp, .inl ⟨_, _, rfl, run_takeDeferred hK, ?_⟩⟩
    exact ⟨_, results_tmp rfl _ _ _, rfl, hB.trans (belowK_b (w := w) (Nat.le_refl _) W D _ _ (by simp at hD; omega) hK rfl rfl)⟩
  case stop =>
    rintro D c pre W _ _ h _
    exact h.elim

set_option maxRecDepth 100000 in
set_option maxHeartbeats 400000 in
theorem Put_no (F : Fence) (n : Nat) (h3 : F.fn 45) (hro : F.round = none) (v m : Int) (hno : m < 1 ∨ 8 < m) (w : World) :
    CallsIn F n Try.prog 45 #[.int .u64 v, .int .i64 m] w fun e W' => e = .returned (.string ⟨#[]⟩) ∧ Below w.heap.size w W' := by
  have hb : Below w.heap.size w (w.alloc (.cells #[.int .u64 v] 63)) := (Below.refl _ w).alloc (Nat.le_refl _) _
  refine callsIn_of_wp Try.func45 rfl h3 ?_ hro
  simp only [Try.ntmps45, List.size_toArray, List.length_cons, List.length_nil, Nat.reduceAdd, Nat.reduceSub, Array.replicate_succ, Array.replicate_zero, List.push_toArray, List.append_toArray, List.nil_append, List.cons_append]
  by_cases h1 : m < 1
  · have d1 : decide (m < 1) = true := by simpa using h1
    clear hno
    gi_wp2
    go_ret
    exact ⟨rfl, hb⟩
  · have d1 : decide (m < 1) = false := by simpa using h1
    have h2 : 8 < m := by omega
    have d2 : decide (8 < m) = true := by simpa using h2
    clear hno
    gi_wp2
    go_ret
    exact ⟨rfl, hb⟩

/-- octet.Put, whatever it is given. -/
theorem Put_in (F : Fence) (n : Nat) (h3 : F.fn 45) (h5 : F.fn 48) (h6 : F.fn 64) (hro : F.round = none) (hn : 3 ≤ n) (v m : Int) (hv0 : 0 ≤ v) (w : World) :
    CallsIn F n Try.prog 45 #[.int .u64 v, .int .i64 m] w fun e W' => e = .returned (.string (putS v m)) ∧ Below w.heap.size w W' := by
  by_cases h : 1 ≤ m ∧ m ≤ 8
  · rw [putS_yes h]
    obtain ⟨v, rfl⟩ := Int.eq_ofNat_of_zero_le hv0
    obtain ⟨m, rfl⟩ := Int.eq_ofNat_of_zero_le (show 0 ≤ m by omega)
    rw [Int.toNat_natCast, Int.toNat_natCast]
    exact Put_yes F n h3 h5 h6 hro hn v m (by omega) (by omega) w
  · rw [putS_no h]
    exact Put_no F n h3 hro v m (by omega) w

/-- octet.Put, called from anywhere. -/
theorem Put_calls (v m : Int) (hv0 : 0 ≤ v) (w : World) :
    Calls Try.prog 45 #[.int .u64 v, .int .i64 m] w fun e W' => e = .returned (.string (putS v m)) ∧ Below w.heap.size w W' :=
  callsIn_wide.1 (Put_in Fence.wide 3 trivial trivial trivial rfl (Nat.le_refl _) v m hv0 w)
end Go.Proofs.Ytjfijllnmjajpaa
