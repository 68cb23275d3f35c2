/- ip6.cut: a text's parts. -/
import Derived.WalkKit
import Derived.OwnWalk
import Derived.Maps.AppendAt
import Derived.Lib.Hide
import Derived.Laws.IdiomStrings
import Derived.Test.YtjfijllnmjajpaaPt
import Derived.Test.YtjfijllnmjajpaaQr
namespace Go.Proofs.Ytjfijllnmjajpaa
open Go.RowKit Go.BigFrame

theorem bx_size (s : ByteArray) (a : Nat) : (s.extract a s.size).size = s.size - a := by simp
theorem bx_head (s : ByteArray) (a n : Nat) (h : a + n ≤ s.size) : (s.extract a s.size).extract 0 n = s.extract a (a + n) := by
  rw [ByteArray.extract_extract]
  congr 1 <;> omega
theorem bx_tail (s : ByteArray) (a n : Nat) : (s.extract a s.size).extract n (s.size - a) = s.extract (a + n) s.size := by
  rw [ByteArray.extract_extract]
  congr 1
  omega

set_option maxHeartbeats 1000000 in
set_option maxRecDepth 100000 in
theorem cut_calls (s : ByteArray) (b n cap : Nat) (N P : Nat → Nat) (w : World) (hN : ∀ k, k < n → w.cell? ⟨b, k, none⟩ = some (.int .i64 (N k)))
    (hP0 : P 0 = 0) (hPs : ∀ k, k < n → P (k + 1) = P k + N k) (hPn : ∀ k, k ≤ n → P k ≤ s.size) (hs : s.size ≤ 9223372036854775807) (hn : n ≤ 100) :
    Calls Try.prog 73 #[.string s, .slice (some ⟨b, 0, none⟩) n cap] w fun e w' => ∃ v, e = .returned v ∧
      w'.ownsRow w.heap.size 9 1 v (n + 1) ((List.range n).map (fun k => Value.string (s.extract (P k) (P (k + 1)))) ++ [.string (s.extract (P n) s.size)]) ∧ Below w.heap.size w w' := by
  have hinfo : (Try.prog.info? 9).map (fun i => (i.zero, i.size, i.bytes)) = some (some (.string ByteArray.empty), 1, 16) := by kernel_rfl
  obtain ⟨i0, hi, hz0, hz1, hz2⟩ := info_parts hinfo
  have HN := Lib.hid hN
  have HP := Lib.hid hPs
  have HL := Lib.hid hPn
  clear hN hPs hPn
  go_enter Try.func73, Try.ntmps73
  go_wp2
  go_loopw [0, 5, 10] (fun x l i wr => ∃ k : Nat, ∃ cur : ByteArray, k ≤ n ∧ i = .int .i64 k ∧ x = .string cur ∧ Hid (cur = s.extract (P k) s.size) ∧
    wr.ownsRow w.heap.size 9 1 l k ((List.range k).map (fun k => Value.string (s.extract (P k) (P (k + 1))))) ∧ Below w.heap.size w wr) (fun _ _ i _ => n - (intOf i).toNat)
  case atStart => exact ⟨0, s, Nat.zero_le _, rfl, rfl, Lib.hid (by rw [hP0]; simp), World.ownsRow_nil _ _ _ _, Below.refl _ _⟩
  case round =>
    obtain ⟨k, cur, hk, rfl, rfl, HC, hown, hB⟩ := hrel
    by_cases hlt : k < n
    · have hcell : wr.cell? ⟨b, k, none⟩ = some (.int .i64 (N k)) := (hB.cell (World.block_lt_of_cell? w _ (HN.out k hlt))).trans (HN.out k hlt)
      have hsz : cur.size = s.size - P k := by rw [HC.out]; exact bx_size _ _
      have h1 := HL.out (k + 1) (by omega)
      have h2 := HP.out k hlt
      have h3 : N k ≤ cur.size := by omega
      have h4 : cur.size ≤ 9223372036854775807 := by omega
      have HS := Lib.hid hsz
      have H1 := Lib.hid h1
      have H2 := Lib.hid h2
      clear hsz h1 h2
      obtain ⟨m, hm⟩ : ∃ m, m = N k := ⟨_, rfl⟩
      rw [← hm] at hcell h3
      have HM := Lib.hid hm
      clear hm
      have d3 : (m : Int) ≤ (cur.size : Int) := by omega
      go_wp2_with (at_builtin; go_loud (refine wpList_append_own _ rfl _ _ 112 rfl w.heap.size 9 i0 (.string ByteArray.empty) 1 16 Try.underlying112 hi hz0 hz1 hz2 rfl (by decide) _ _ _ rfl (hown.alloc _) ⟨wr.heap.size, 0, none⟩ 1 1 [.string (cur.extract 0 m)] rfl rfl (cell_one_new _ _ _) (by intro u hu; simp at hu; subst hu; rfl) (by unfold maxLen; omega) (by omega) (by have := hB.size; simp; omega) ?_; intro v1 w1 hown1 hgrow1 _))
      have hT := bx_tail s (P k) m
      go_roundw
      case rel =>
        refine ⟨k + 1, cur.extract m cur.size, by omega, by simp, rfl, Lib.hid ?_, ?_, (hB.alloc hB.size _).grown hgrow1 (by have := hB.size; simp; omega) (fun q hq => (hown.lt q hq).1)⟩
        · have h2 := H2.out
          rw [HC.out, bx_size, hT, h2, HM.out]
        · have h1 := H1.out
          have h2 := H2.out
          have hm := HM.out
          have hx : cur.extract 0 m = s.extract (P k) (P (k + 1)) := by rw [HC.out, bx_head _ _ _ (by omega), h2, hm]
          rw [hx] at hown1
          rw [List.range_succ, List.map_append]
          simpa using hown1
      case measure => simp [intOf]; omega
    · obtain rfl : k = n := by omega
      go_wp2_with (at_builtin; go_loud (refine wpList_append_own _ rfl _ _ 112 rfl w.heap.size 9 i0 (.string ByteArray.empty) 1 16 Try.underlying112 hi hz0 hz1 hz2 rfl (by decide) _ _ _ rfl (hown.alloc _) ⟨wr.heap.size, 0, none⟩ 1 1 [.string cur] rfl rfl (cell_one_new _ _ _) (by intro u hu; simp at hu; subst hu; rfl) (by unfold maxLen; omega) (by omega) (by have := hB.size; simp; omega) ?_; intro v1 w1 hown1 hgrow1 _))
      go_ret
      rw [HC.out] at hown1
      exact ⟨v1, rfl, hown1, (hB.alloc hB.size _).grown hgrow1 (by have := hB.size; simp; omega) (fun q hq => (hown.lt q hq).1)⟩
end Go.Proofs.Ytjfijllnmjajpaa
