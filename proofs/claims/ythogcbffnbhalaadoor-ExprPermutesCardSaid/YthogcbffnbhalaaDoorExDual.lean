/- The program's dual. -/
import Derived.Test.YthogcbffnbhalaaDoorExConst
import Derived.Test.YthogcbffnbhalaaDoorExNeg
import Derived.LoopN
namespace Go.Proofs.YthogcbffnbhalaaDoor
set_option linter.unusedVariables false
open Go.RowKit

def dualC (op : Int) : Int := if op = 8 then 9 else if op = 9 then 8 else if op = 10 then 11 else if op = 11 then 10 else if op = 13 then 14 else if op = 14 then 13 else op
def dualOk (op : Int) : Bool := decide (op = 8 ∨ op = 9 ∨ op = 10 ∨ op = 11 ∨ op = 13 ∨ op = 14)

set_option maxRecDepth 100000 in
set_option maxHeartbeats 4000000 in
theorem dual_calls {w : World} (hT : Tab w) (op : Int) (hop : op = 4 ∨ op = 7 ∨ op = 8 ∨ op = 9 ∨ op = 10 ∨ op = 11 ∨ op = 13 ∨ op = 14) :
    Calls Tryd.prog 55 #[.int .i64 op] w (Post w fun _ r => r = .tuple #[.int .i64 (dualC op), .bool (dualOk op)]) := by
  have h0 := hT.duals 0 (by omega)
  have h1 := hT.duals 1 (by omega)
  have h2 := hT.duals 2 (by omega)
  have h3 := hT.duals 3 (by omega)
  have h4 := hT.duals 4 (by omega)
  have h5 := hT.duals 5 (by omega)
  have k0 : w.cell? ⟨1, 0, none⟩ = some (.int .i64 8) := h0
  have k1 : w.cell? ⟨1, 1, none⟩ = some (.int .i64 9) := h1
  have k2 : w.cell? ⟨1, 2, none⟩ = some (.int .i64 10) := h2
  have k3 : w.cell? ⟨1, 3, none⟩ = some (.int .i64 11) := h3
  have k4 : w.cell? ⟨1, 4, none⟩ = some (.int .i64 13) := h4
  have k5 : w.cell? ⟨1, 5, none⟩ = some (.int .i64 14) := h5
  clear h0 h1 h2 h3 h4 h5
  have i0 : ∀ w, (Instr.index 76 (.agg #[.int .i64 8, .int .i64 9, .int .i64 10, .int .i64 11, .int .i64 13, .int .i64 14]) (.int .i64 0)).run Tryd.prog w = .ok (.agg #[.int .i64 8, .int .i64 9]) w := fun _ => by kernel_rfl
  have i1 : ∀ w, (Instr.index 76 (.agg #[.int .i64 8, .int .i64 9, .int .i64 10, .int .i64 11, .int .i64 13, .int .i64 14]) (.int .i64 1)).run Tryd.prog w = .ok (.agg #[.int .i64 10, .int .i64 11]) w := fun _ => by kernel_rfl
  have i2 : ∀ w, (Instr.index 76 (.agg #[.int .i64 8, .int .i64 9, .int .i64 10, .int .i64 11, .int .i64 13, .int .i64 14]) (.int .i64 2)).run Tryd.prog w = .ok (.agg #[.int .i64 13, .int .i64 14]) w := fun _ => by kernel_rfl
  rcases hop with rfl | rfl | rfl | rfl | rfl | rfl | rfl | rfl
  · go_enter Tryd.func55, Tryd.ntmps55
    go_wp2
    refine wp_loop_rounds 4 ?_
    rw [rounds_succ]
    go_wp2
    rw [rounds_succ]
    go_wp2
    rw [rounds_succ]
    go_wp2
    rw [rounds_succ]
    go_wp2
    go_ret2
    exact .mk (ext_alloc' (ext_alloc' (ext_alloc' (Below.refl w.heap.size w) _) _) _) rfl
  · go_enter Tryd.func55, Tryd.ntmps55
    go_wp2
    refine wp_loop_rounds 4 ?_
    rw [rounds_succ]
    go_wp2
    rw [rounds_succ]
    go_wp2
    rw [rounds_succ]
    go_wp2
    rw [rounds_succ]
    go_wp2
    go_ret2
    exact .mk (ext_alloc' (ext_alloc' (ext_alloc' (Below.refl w.heap.size w) _) _) _) rfl
  · go_enter Tryd.func55, Tryd.ntmps55
    go_wp2
    refine wp_loop_rounds 4 ?_
    rw [rounds_succ]
    go_wp2
    go_ret2
    exact .mk (ext_alloc' (Below.refl w.heap.size w) _) rfl
  · go_enter Tryd.func55, Tryd.ntmps55
    go_wp2
    refine wp_loop_rounds 4 ?_
    rw [rounds_succ]
    go_wp2
    go_ret2
    exact .mk (ext_alloc' (Below.refl w.heap.size w) _) rfl
  · go_enter Tryd.func55, Tryd.ntmps55
    go_wp2
    refine wp_loop_rounds 4 ?_
    rw [rounds_succ]
    go_wp2
    rw [rounds_succ]
    go_wp2
    go_ret2
    exact .mk (ext_alloc' (ext_alloc' (Below.refl w.heap.size w) _) _) rfl
  · go_enter Tryd.func55, Tryd.ntmps55
    go_wp2
    refine wp_loop_rounds 4 ?_
    rw [rounds_succ]
    go_wp2
    rw [rounds_succ]
    go_wp2
    go_ret2
    exact .mk (ext_alloc' (ext_alloc' (Below.refl w.heap.size w) _) _) rfl
  · go_enter Tryd.func55, Tryd.ntmps55
    go_wp2
    refine wp_loop_rounds 4 ?_
    rw [rounds_succ]
    go_wp2
    rw [rounds_succ]
    go_wp2
    rw [rounds_succ]
    go_wp2
    go_ret2
    exact .mk (ext_alloc' (ext_alloc' (ext_alloc' (Below.refl w.heap.size w) _) _) _) rfl
  · go_enter Tryd.func55, Tryd.ntmps55
    go_wp2
    refine wp_loop_rounds 4 ?_
    rw [rounds_succ]
    go_wp2
    rw [rounds_succ]
    go_wp2
    rw [rounds_succ]
    go_wp2
    go_ret2
    exact .mk (ext_alloc' (ext_alloc' (ext_alloc' (Below.refl w.heap.size w) _) _) _) rfl
end Go.Proofs.YthogcbffnbhalaaDoor

