/- ip4.Parse: what it answers, in plain words. -/
import Derived.Test.YtjfijllnmjajpaaI4
import Derived.Test.YtjfijllnmjajpaaB4
namespace Go.Proofs.Ytjfijllnmjajpaa
open Go.RowKit Go.BigFrame

theorem ip4Parse_calls (s : ByteArray) (hs : s.size ≤ 4294967296) (w : World) :
    Calls Try.prog 51 #[.string s] w fun e w' => e = .returned (.tuple #[.agg #[.string (p4S s), .string (p4D s), .int .i64 (p4P s)], .string (p4R s), .int .i64 (p4E s)]) ∧ Below w.heap.size w w' := by
  have h := i4_parse s hs (p4E s) (f4_eq s).symm w
  by_cases hE : p4E s = 0
  · obtain ⟨k1, k2, k3, k4⟩ := p4_some hE
    have h20 := ((p4E_iff s).1 hE).1
    have v0 : getV s 0 1 = (byteN s 0 : Int) := getV_byte s 0 (by omega)
    have v9 : getV s 9 1 = (byteN s 9 : Int) := getV_byte s 9 (by omega)
    have hz : (getV s 0 1 % 16 * 4).toNat = z4 s := by rw [v0]; unfold z4; omega
    rw [if_pos hE, if_pos hE, hz, v9] at h
    rw [k1, k2, k3, k4]
    exact h
  · obtain ⟨k1, k2, k3, k4⟩ := p4_none hE
    rw [if_neg hE, if_neg hE] at h
    rw [k1, k2, k3, k4]
    exact h
end Go.Proofs.Ytjfijllnmjajpaa
