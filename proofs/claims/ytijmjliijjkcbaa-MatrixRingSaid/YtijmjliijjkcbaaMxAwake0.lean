/- The example of the chapter, made by the program. -/
import Derived.Test.YtijmjliijjkcbaaMxEx
import Derived.Test.YtijmjliijjkcbaaMxTrA
import Derived.Test.YtijmjliijjkcbaaMxTrans
namespace Go.Proofs.Ytijmjliijjkcbaa
set_option linter.unusedVariables false
open Go.RowKit
attribute [local go_sem ↓] Go.wp_at_zero Go.wp_at_succ

theorem lit_ints (w : World) (B : Nat) (hB : B = w.heap.size) (l : List Int) (e : TypeId) (hl : l.length ≤ 65536) (hf : ∀ x ∈ l, -1000000000 ≤ x ∧ x ≤ 1000000000) :
    Ints (fun b => b = B) (w.alloc (.cells (l.map (Value.int .i64)).toArray e)) (.slice (some ⟨B, 0, none⟩) l.length l.length) l := by
  subst hB
  exact Row.ints (e := e) (heap_alloc_new w _) (by unfold maxLen; omega) fun x hx => WF.small (hf x hx)
theorem ext_alloc_lit (w : World) (l : List Int) (e : TypeId) : Below w.heap.size w (w.alloc (.cells (l.map (Value.int .i64)).toArray e)) := ext_alloc w _

/-- Slices that read as the lists ll, in blocks of S. -/
def AllIn (S : Nat → Prop) (w : World) : List Value → List (List Int) → Prop
  | [], [] => True
  | v :: vs, l :: ll => Ints S w v l ∧ AllIn S w vs ll
  | _, _ => False
theorem AllIn.len {S : Nat → Prop} {w : World} : ∀ {vs : List Value} {ll : List (List Int)}, AllIn S w vs ll → vs.length = ll.length
  | [], [], _ => rfl
  | v :: vs, l :: ll, h => by simp [AllIn.len h.2]
  | [], _ :: _, h => h.elim
  | _ :: _, [], h => h.elim
theorem AllIn.get {S : Nat → Prop} {w : World} : ∀ {vs : List Value} {ll : List (List Int)}, AllIn S w vs ll → ∀ j, j < ll.length → Ints S w (nthV vs j) (nthL ll j)
  | [], [], _, j, hj => by simp at hj
  | v :: vs, l :: ll, h, 0, _ => h.1
  | v :: vs, l :: ll, h, j + 1, hj => AllIn.get h.2 j (by simpa using hj)
  | [], _ :: _, h, _, _ => h.elim
  | _ :: _, [], h, _, _ => h.elim
theorem lit_listsS {S : Nat → Prop} (w : World) (B : Nat) (hB : B = w.heap.size) (vs : List Value) (ll : List (List Int)) (e : TypeId) (hS : S B) (h : AllIn S w vs ll) (hl : ll.length ≤ 65536) :
    Lists S (w.alloc (.cells vs.toArray e)) (.slice (some ⟨B, 0, none⟩) ll.length ll.length) ll := by
  subst hB
  refine ⟨_, _, rfl, .inr ⟨_, 0, rfl, by simp, hS⟩, Nat.le_refl _, by unfold maxLen; omega, fun j hj => ⟨nthV vs j, ?_, ?_⟩⟩
  · have := h.len
    rw [adr_add, Nat.zero_add, World.cell?_alloc_new]
    simpa using nthV_get (l := vs) (k := j) (by omega)
  · exact (h.get j hj).ext ((Below.refl _ _).alloc (Nat.le_refl _) _)
theorem lit_intsS {S : Nat → Prop} (w : World) (B : Nat) (hB : B = w.heap.size) (hS : S B) (l : List Int) (e : TypeId) (hl : l.length ≤ 65536) (hf : ∀ x ∈ l, -1000000000 ≤ x ∧ x ≤ 1000000000) :
    Ints S (w.alloc (.cells (l.map (Value.int .i64)).toArray e)) (.slice (some ⟨B, 0, none⟩) l.length l.length) l := (lit_ints w B hB l e hl hf).mono fun b hb => hb ▸ hS

set_option maxRecDepth 100000 in
set_option maxHeartbeats 2000000 in
theorem example_calls (w : World) : Calls Try.prog 47 #[] w (Post w (RetX w.heap.size exM)) := by
  obtain ⟨W0, hW0⟩ : ∃ W0, W0 = w.alloc (.cells #[.int .i64 4, .slice (some ⟨w.heap.size + 1 + 1 + 1 + 1 + 1, 0, none⟩) 4 4] 24) := ⟨_, rfl⟩
  have z0 : W0.heap.size = w.heap.size + 1 := by rw [hW0]; simp
  have hb0 : Below w.heap.size w W0 := by rw [hW0]; exact ext_alloc w _
  have l1 := (lit_intsS (S := fun b => w.heap.size + 1 ≤ b) W0 (w.heap.size + 1) z0.symm (by omega) [0, 1] 3 (by decide) (by decide))
  have l2 := (lit_intsS (S := fun b => w.heap.size + 1 ≤ b) (W0.alloc (.cells #[.int .i64 0, .int .i64 1] 3)) (w.heap.size + 1 + 1) (by simp [z0]) (by omega) [1, 2] 3 (by decide) (by decide))
  have l3 := (lit_intsS (S := fun b => w.heap.size + 1 ≤ b) ((W0.alloc (.cells #[.int .i64 0, .int .i64 1] 3)).alloc (.cells #[.int .i64 1, .int .i64 2] 3)) (w.heap.size + 1 + 1 + 1) (by simp [z0]) (by omega) [0, 2] 3 (by decide) (by decide))
  have l4 := (lit_intsS (S := fun b => w.heap.size + 1 ≤ b) (((W0.alloc (.cells #[.int .i64 0, .int .i64 1] 3)).alloc (.cells #[.int .i64 1, .int .i64 2] 3)).alloc (.cells #[.int .i64 0, .int .i64 2] 3)) (w.heap.size + 1 + 1 + 1 + 1) (by simp [z0]) (by omega) [3] 3 (by decide) (by decide))
  have L := lit_listsS (S := fun b => w.heap.size + 1 ≤ b) ((((W0.alloc (.cells #[.int .i64 0, .int .i64 1] 3)).alloc (.cells #[.int .i64 1, .int .i64 2] 3)).alloc (.cells #[.int .i64 0, .int .i64 2] 3)).alloc (.cells #[.int .i64 3] 3)) (w.heap.size + 1 + 1 + 1 + 1 + 1) (by simp [z0])
    [.slice (some ⟨w.heap.size + 1, 0, none⟩) 2 2, .slice (some ⟨w.heap.size + 1 + 1, 0, none⟩) 2 2, .slice (some ⟨w.heap.size + 1 + 1 + 1, 0, none⟩) 2 2, .slice (some ⟨w.heap.size + 1 + 1 + 1 + 1, 0, none⟩) 1 1] exR 38 (by omega)
    ⟨(((l1.ext (ext_alloc _ _)).ext (ext_alloc _ _)).ext (ext_alloc _ _)), ((l2.ext (ext_alloc _ _)).ext (ext_alloc _ _)), (l3.ext (ext_alloc _ _)), l4, trivial⟩ (by decide)
  have hb1 := ext_alloc' (ext_alloc' (ext_alloc' (ext_alloc' (ext_alloc W0 (.cells #[.int .i64 0, .int .i64 1] 3)) (.cells #[.int .i64 1, .int .i64 2] 3)) (.cells #[.int .i64 0, .int .i64 2] 3)) (.cells #[.int .i64 3] 3)) (.cells #[.slice (some ⟨w.heap.size + 1, 0, none⟩) 2 2, .slice (some ⟨w.heap.size + 1 + 1, 0, none⟩) 2 2, .slice (some ⟨w.heap.size + 1 + 1 + 1, 0, none⟩) 2 2, .slice (some ⟨w.heap.size + 1 + 1 + 1 + 1, 0, none⟩) 1 1] 38)
  have LL := Lib.hid L
  have HB := Lib.hid (ext_trans hb0 (hb1.mono (by omega)))
  subst hW0
  clear l1 l2 l3 l4 L hb0 hb1 z0
  go_enter Try.func47, Try.ntmps47
  go_wp2
  refine bodyPost_ret (v := .agg #[.int .i64 4, .slice (some ⟨w.heap.size + 1 + 1 + 1 + 1 + 1, 0, none⟩) 4 4]) (by simp [results, Try.results47, go_sem]) rfl ?_
  exact .mk HB.out ⟨_, rfl, LL.out.mono fun b hb => by omega⟩
end Go.Proofs.Ytijmjliijjkcbaa
