/- An array of 38 bytes: cleared, copied into, and made a text. -/
import Derived.WalkKit
import Derived.Lib.BufferWrite
import Derived.Laws.IdiomStrings
import Derived.Laws.CopyOwn
import Derived.Test.YtjfijllnmjajpaaProg
namespace Go.Proofs.Ytjfijllnmjajpaa
open Go.RowKit Go.BigFrame

/-- An array of bytes. -/
def Arr (n : Nat) (l : List UInt8) (w : World) : Prop := w.heap[n]? = some (.cells (Lib.byteCells l).toArray 86 (0, 0))
theorem Arr.later {n : Nat} {l : List UInt8} {w w' : World} (h : Arr n l w) (hb : Below w.heap.size w w') : Arr n l w' := (hb.block n (Array.getElem?_eq_some_iff.1 h).1).trans h

/-- What a copy, or a clearing, leaves. -/
structure Wrote (n : Nat) (l : List UInt8) (w w' : World) : Prop where
  arr : Arr n l w'
  other : ∀ k, k ≠ n → w'.heap[k]? = w.heap[k]?
  below : ∀ {B : Nat} {W : World}, B ≤ n → Below B W w → Below B W w'

theorem wrote_setRow {n : Nat} {l m : List UInt8} {w : World} (h : Arr n l w) : Wrote n m w (w.setRow n (Lib.byteCells m).toArray) :=
  ⟨setRow_heap w n _ _ _ _ h, fun k hk => setRow_other w n k _ hk, fun hB hb => below_setRow hb hB _⟩

theorem copy_row (n o d c : Nat) (l : List UInt8) (s : ByteArray) (w : World) (h : Arr n l w) (hd : s.size ≤ d) (hfit : o + s.size ≤ l.length) :
    ∃ w', (∀ ty, (Builtin.copy_ #[87, 9] ty #[.slice (some ⟨n, o, none⟩) d c, .string s]).run Try.prog w = .ok (goInt s.size) w') ∧ Wrote n (l.take o ++ s.data.toList ++ l.drop (o + s.size)) w w' := by
  refine ⟨_, fun ty => Lib.run_copy_row_string (P := Try.prog) w _ _ ty 5 n o d c s _ _ Try.underlying87 (by kernel_rfl) h hd (by simpa [Lib.byteCells] using hfit), ?_⟩
  have e : ((Lib.byteCells l).toArray.toList.take o ++ Lib.byteCells s.data.toList ++ (Lib.byteCells l).toArray.toList.drop (o + s.size)) = Lib.byteCells (l.take o ++ s.data.toList ++ l.drop (o + s.size)) := by
    simp [Lib.byteCells, List.map_take, List.map_drop]
  rw [e]
  exact wrote_setRow h

theorem clear_row (n : Nat) (w : World) (h : Arr n (List.replicate 38 0) w) (ty : TypeId) :
    (Builtin.clear_ #[87] ty #[.slice (some ⟨n, 0, none⟩) 38 38]).run Try.prog w = .ok (.tuple #[]) w := by
  have hz : (Go.Builtin.zeroCells (Value.int .u8 0).cells 38).toList = Lib.byteCells (List.replicate 38 0) := by kernel_rfl
  have hst := run_storeCells_at Try.prog n 0 86 (Lib.byteCells (List.replicate 38 0)) 0 _ w h (by simp [Lib.byteCells]) (Lib.byteCells_one _)
  have e : (((Lib.byteCells (List.replicate 38 0)).toArray.toList.take (0 + 0) ++ Lib.byteCells (List.replicate 38 0) ++ (Lib.byteCells (List.replicate 38 0)).toArray.toList.drop (0 + 0 + (Lib.byteCells (List.replicate 38 0)).length)).toArray) = (Lib.byteCells (List.replicate 38 0)).toArray := by kernel_rfl
  rw [e, setRow_self w n _ _ _ h] at hst
  have hzv : (zeroValue 5).run Try.prog w = .ok (Value.int .u8 0) w := Try.zeroValue5 w
  simp [Builtin.clear_, run_underlying Try.underlying87, hzv, Result.andThen]
  rw [hz, hst]

theorem addr_add' (n j : Nat) : (⟨n, 0, none⟩ : Addr).add j = ⟨n, j, none⟩ := by unfold Addr.add; split <;> simp_all

theorem text_row (n : Nat) (l : List UInt8) (w : World) (h : Arr n l w) (hl : l.length = 38) :
    (convert 87 9 (.slice (some ⟨n, 0, none⟩) 38 38)).run Try.prog w = .ok (.string ⟨l.toArray⟩) w := by
  have := run_convert_bytes_back (P := Try.prog) w 87 9 5 ⟨n, 0, none⟩ 38 l Try.underlying87 Try.underlying5 Try.underlying9 (by
    intro j hj
    rw [addr_add']
    unfold Arr at h
    simp [World.cell?, h, Lib.byteCells, hj])
  rw [hl] at this
  exact this
end Go.Proofs.Ytjfijllnmjajpaa
