/- port.protos: the map of both protocols. -/
import Derived.WalkKit
import Derived.WideMake
import Derived.Lib.Hide
import Derived.Test.YtjfijllnmjajpaaGt
namespace Go.Proofs.Ytjfijllnmjajpaa
open Go.RowKit Go.BigFrame

def protoEs : Array MapEntry := #[{ key := .int .i64 6, val := .iface 91 (.agg #[]), born := 0 }, { key := .int .i64 17, val := .iface 92 (.agg #[]), born := 1 }]

theorem set_new (W : World) (o o' : Obj) : ({ W.alloc o with heap := (W.alloc o).heap.setIfInBounds W.heap.size o' } : World) = W.alloc o' := by
  simp [World.alloc, -World.alloc_eq]
  apply Array.toList_inj.1
  simp

theorem ins_first (W : World) (v : Value) : (Instr.mapUpdate 59 (.map (some W.heap.size)) (.int .i64 6) v).run Try.prog (W.alloc (.map #[] 0)) = .ok () (W.alloc (.map #[{ key := .int .i64 6, val := v, born := 0 }] 1)) := by
  have hb : (W.alloc (.map #[] 0)).heap[W.heap.size]? = some (.map #[] 0) := heap_alloc_new W _
  have hc : (Instr.checkKey false 10000 3 (.int .i64 6)).run Try.prog (W.alloc (.map #[] 0)) = .ok () (W.alloc (.map #[] 0)) := MapKept.run_checkKey Try.underlying3 (by simp [MapKept.IsKey]) false 9999
  have hf : Instr.findNow (.int .i64) (.int .i64 6) ([] : List MapEntry) 0 = some none := rfl
  simp [Instr.mapUpdate, run_underlying Try.underlying59, MapKept.run_getObj_map hb, hc, MapKept.run_findKey Try.underlying3 hf, MapKept.run_setObj_map _ hb, Result.andThen]
  exact set_new _ _ _

theorem ins_next (W : World) (u v : Value) : (Instr.mapUpdate 59 (.map (some W.heap.size)) (.int .i64 17) v).run Try.prog (W.alloc (.map #[{ key := .int .i64 6, val := u, born := 0 }] 1)) = .ok () (W.alloc (.map #[{ key := .int .i64 6, val := u, born := 0 }, { key := .int .i64 17, val := v, born := 1 }] 2)) := by
  have hb : (W.alloc (.map #[{ key := .int .i64 6, val := u, born := 0 }] 1)).heap[W.heap.size]? = some (.map #[{ key := .int .i64 6, val := u, born := 0 }] 1) := heap_alloc_new W _
  have hc : (Instr.checkKey false 10000 3 (.int .i64 17)).run Try.prog (W.alloc (.map #[{ key := .int .i64 6, val := u, born := 0 }] 1)) = .ok () (W.alloc (.map #[{ key := .int .i64 6, val := u, born := 0 }] 1)) := MapKept.run_checkKey Try.underlying3 (by simp [MapKept.IsKey]) false 9999
  have hf : Instr.findNow (.int .i64) (.int .i64 17) ([{ key := .int .i64 6, val := u, born := 0 }] : List MapEntry) 0 = some none := rfl
  simp [Instr.mapUpdate, run_underlying Try.underlying59, MapKept.run_getObj_map hb, hc, MapKept.run_findKey Try.underlying3 hf, MapKept.run_setObj_map _ hb, Result.andThen]
  exact set_new _ _ _

/-- The protocol of a number. -/
def protoV (k : Int) : Value := if k = 6 then .iface 91 (.agg #[]) else if k = 17 then .iface 92 (.agg #[]) else .nilIface

theorem look_proto (k : Int) (n : Nat) (w : World) (h : w.heap[n]? = some (.map protoEs 2)) : (Instr.lookup 59 (.map (some n)) (.int .i64 k) false).run Try.prog w = .ok (protoV k) w := by
  have hc' : (Instr.checkKey false 10000 3 (.int .i64 k)).run Try.prog w = .ok () w := MapKept.run_checkKey Try.underlying3 (by simp [MapKept.IsKey]) false 9999
  have hf : Instr.findNow (.int .i64) (.int .i64 k) protoEs.toList 0 = some (if k = 6 then some (0, .iface 91 (.agg #[])) else if k = 17 then some (1, .iface 92 (.agg #[])) else none) := by
    simp only [protoEs, Instr.findNow, Instr.sameNow, if_true]
    by_cases h6 : k = 6
    · simp [h6]
    · by_cases h17 : k = 17
      · simp [h17]
      · have b6 : (k == 6) = false := by simpa using h6
        have b17 : (k == 17) = false := by simpa using h17
        rw [if_neg h6, if_neg h17, b6, b17]
  have he : protoEs.isEmpty = false := rfl
  simp [Instr.lookup, he, run_underlying Try.underlying59, MapKept.run_getObj_map h, hc', MapKept.run_findKey Try.underlying3 hf, Result.andThen, protoV]
  by_cases h6 : k = 6
  · simp [h6]
  · by_cases h17 : k = 17
    · simp [h17]
    · simp [h6, h17]

set_option maxHeartbeats 1000000 in
set_option maxRecDepth 100000 in
theorem protos_calls (w : World) :
    Calls Try.prog 32 #[] w fun e w' => e = .returned (.map (some w.heap.size)) ∧ w'.heap[w.heap.size]? = some (.map protoEs 2) ∧ Below w.heap.size w w' := by
  have hmk : ∀ w : World, (Instr.makeMap 59 none).run Try.prog w = .ok (.map (some w.heap.size)) (w.alloc (.map #[] 0)) := fun _ => rfl
  have h1 := ins_first w
  have h2 := ins_next w
  go_enter Try.func32, Try.ntmps32
  go_wp2_with fail
  go_ret
  exact ⟨rfl, heap_alloc_new w _, (Below.refl _ _).alloc (Nat.le_refl _) _⟩
end Go.Proofs.Ytjfijllnmjajpaa
