/- Expressions that lie in memory. -/
import Derived.Test.YthogcbffnbhalaaDoorExMath
namespace Go.Proofs.YthogcbffnbhalaaDoor
set_option linter.unusedVariables false
open Go.RowKit

/-- The three cells of element j. -/
def Cells3 (w : World) (a : Option Addr) (j : Nat) (u : Value) : Prop :=
  ∃ x y z, u = .agg #[x, y, z] ∧ w.cell? (adr a (j * 3)) = some x ∧ w.cell? ⟨(adr a (j * 3)).block, (adr a (j * 3)).off + 1, none⟩ = some y ∧ w.cell? ⟨(adr a (j * 3)).block, (adr a (j * 3)).off + 2, none⟩ = some z
theorem adr_off (a : Option Addr) (j i : Nat) : (⟨(adr a j).block, (adr a j).off + i, none⟩ : Addr) = adr a (j + i) := by
  cases a with
  | none => rfl
  | some x => simp [adr, Nat.add_assoc]

/-- The value reads as the expression, in blocks of S. -/
inductive ExprV (S : Nat → Prop) (w : World) : Ex → Value → Prop where
  | mk {op num : Int} {xs : List Ex} {a : Option Addr} {cap : Nat} {us : Nat → Value} (wo : WF op) (wn : WF num) (ha : Ad S w a xs.length cap) (hl : xs.length ≤ cap) (hm : cap ≤ maxLen)
      (hc : ∀ j, j < xs.length → Cells3 w a j (us j)) (hx : ∀ j, j < xs.length → ExprV S w (nthE xs j) (us j)) : ExprV S w (.node op num xs) (.agg #[.int .i64 op, .int .i64 num, .slice a xs.length cap])

theorem Ad.cell' {S : Nat → Prop} {w w' : World} {a : Option Addr} {n cap j : Nat} (h : Ad S w a n cap) (hw : Agree S w w') (hj : 0 < n) : w'.cell? (adr a j) = w.cell? (adr a j) := by
  rcases h with ⟨rfl, _⟩ | ⟨b, off, rfl, hb, hs⟩
  · omega
  · exact World.cell?_of_block (hw.block b hs hb)
theorem Cells3.agree {S : Nat → Prop} {w w' : World} {a : Option Addr} {n cap j : Nat} {u : Value} (h : Cells3 w a j u) (ha : Ad S w a n cap) (hw : Agree S w w') (hj : j < n) : Cells3 w' a j u := by
  obtain ⟨x, y, z, rfl, h0, h1, h2⟩ := h
  rw [adr_off] at h1 h2
  exact ⟨x, y, z, rfl, (ha.cell' hw (by omega)).trans h0, by rw [adr_off]; exact (ha.cell' hw (by omega)).trans h1, by rw [adr_off]; exact (ha.cell' hw (by omega)).trans h2⟩
theorem ExprV.agree {S : Nat → Prop} {w w' : World} {e : Ex} {v : Value} (h : ExprV S w e v) (hw : Agree S w w') : ExprV S w' e v := by
  induction h with
  | mk wo wn ha hl hm hc hx ih => exact .mk wo wn (ha.agree hw) hl hm (fun j hj => (hc j hj).agree ha hw hj) ih
theorem ExprV.mono {S S' : Nat → Prop} {w : World} {e : Ex} {v : Value} (h : ExprV S w e v) (hS : ∀ b, S b → S' b) : ExprV S' w e v := by
  induction h with
  | mk wo wn ha hl hm hc hx ih => exact .mk wo wn (ha.mono hS) hl hm hc ih
theorem ExprV.ext {S : Nat → Prop} {w w' : World} {e : Ex} {v : Value} (h : ExprV S w e v) (hw : Below w.heap.size w w') : ExprV S w' e v := h.agree (.of_ext hw)
theorem ExprV.all {S : Nat → Prop} {w : World} {e : Ex} {v : Value} (h : ExprV S w e v) : ExprV (fun _ => True) w e v := h.mono fun _ _ => trivial
theorem ExprV.drewN {S : Nat → Prop} {w : World} {e : Ex} {v : Value} (h : ExprV S w e v) (n : Nat) : ExprV S (w.drewN n) e v := h.agree (drewN_agree S w n)

theorem ExprV.parts {S : Nat → Prop} {w : World} {e : Ex} {v : Value} (h : ExprV S w e v) :
    ∃ a cap, v = .agg #[.int .i64 e.op, .int .i64 e.num, .slice a e.args.length cap] ∧ WF e.op ∧ WF e.num ∧ Ad S w a e.args.length cap ∧ e.args.length ≤ cap ∧ cap ≤ maxLen := by
  cases h with
  | mk wo wn ha hl hm hc hx => exact ⟨_, _, rfl, wo, wn, ha, hl, hm⟩
/-- What an element's cells hold, in a later world. -/
theorem elem_parts {S : Nat → Prop} {w wr : World} {xs : List Ex} {a : Option Addr} {cap k : Nat} {us : Nat → Value} (ha : Ad S w a xs.length cap) (hc : ∀ j, j < xs.length → Cells3 w a j (us j)) (hx : ∀ j, j < xs.length → ExprV S w (nthE xs j) (us j))
    (hk : k < xs.length) (hw : Below w.heap.size w wr) :
    ∃ a' cap', us k = .agg #[.int .i64 (nthE xs k).op, .int .i64 (nthE xs k).num, .slice a' (nthE xs k).args.length cap'] ∧ wr.cell? (adr a (k * 3)) = some (.int .i64 (nthE xs k).op) ∧
      wr.cell? ⟨(adr a (k * 3)).block, (adr a (k * 3)).off + 1, none⟩ = some (.int .i64 (nthE xs k).num) ∧ wr.cell? ⟨(adr a (k * 3)).block, (adr a (k * 3)).off + 2, none⟩ = some (.slice a' (nthE xs k).args.length cap') := by
  obtain ⟨x, y, z, e, c0, c1, c2⟩ := (hc k hk).agree ha (.of_ext hw) hk
  obtain ⟨a', cap', e', _⟩ := (hx k hk).parts
  rw [e'] at e
  simp only [Value.agg.injEq, Array.mk.injEq, List.cons.injEq, and_true] at e
  obtain ⟨rfl, rfl, rfl⟩ := e
  exact ⟨a', cap', e', c0, c1, c2⟩

/-- The place of an element that is three cells wide. -/
theorem idx_three {P : Program} {S : Nat → Prop} {w : World} {T E : TypeId} {i : TypeInfo} (hT : P.underlying T = some (.slice E)) (hi : P.info? E = some i) (h1 : i.size = 3) {a : Option Addr} {n cap : Nat} (h : Ad S w a n cap) :
    ∀ k : Nat, k < n → ∀ W : World, (Instr.indexAt T (.slice a n cap) (.int .i64 k)).run P W = .ok (.pointer (some (adr a (k * 3)))) W := by
  intro k hk W
  rcases h with ⟨rfl, _⟩ | ⟨b, off, rfl, _, _⟩
  · omega
  · have hE : P.elem T = E := by simp [Program.elem, hT]
    rw [run_indexAt_slice W T _ n cap .i64 k (by rw [hE]; exact hT), if_pos (by omega), hE]
    simp [sizeOf, typeInfo, hi, h1, Result.andThen, adr, Addr.add]
theorem info_expr : (Tryd.prog.info? 24).map (fun i => (i.size)) = some 3 := by kernel_rfl
theorem info_e : ∃ i, Tryd.prog.info? 24 = some i ∧ i.size = 3 := by
  have h := info_expr
  cases h0 : Tryd.prog.info? 24 with
  | none => rw [h0] at h; cases h
  | some i => rw [h0] at h; exact ⟨i, rfl, by simpa using h⟩

theorem ext_alloc (w : World) (o : Obj) : Below w.heap.size w (w.alloc o) := (Below.refl _ _).alloc (Nat.le_refl _) _
theorem ext_alloc' {a w : World} (h : Below a.heap.size a w) (o : Obj) : Below a.heap.size a (w.alloc o) := h.alloc h.size _
theorem row_new (w : World) (xs : List Value) (e : TypeId) : Row (w.alloc (.cells xs.toArray e)) w.heap.size e xs := by
  unfold Row
  rw [heap_alloc_new]

set_option maxRecDepth 100000 in
set_option maxHeartbeats 1000000 in
theorem size_calls {S : Nat → Prop} {w : World} {e : Ex} {v : Value} (h : ExprV S w e v) : ∀ W, Below w.heap.size w W → sizeE e ≤ 65536 →
    Calls Tryd.prog 39 #[v] W (Post W fun _ r => r = .tuple #[.int .i64 (sizeE e), .int .i64 (depthE e)]) := by
  induction h with
  | mk wo wn ha hl hm hc hx ih =>
    rename_i op num xs a cap us
    intro W hW hS
    obtain ⟨i0, hi, hz⟩ := info_e
    have hix := idx_three Tryd.underlying22 hi hz ha
    go_enter Tryd.func39, Tryd.ntmps39
    go_wp2
    go_loopw [4, 5, 13] (fun n d i wr => ∃ k : Nat, k ≤ xs.length ∧ i = .int .i64 k ∧ n = .int .i64 (1 + sizeL (xs.take k) : Nat) ∧ d = .int .i64 (depthL (xs.take k) : Nat) ∧ Below W.heap.size W wr) (fun _ _ i _ => xs.length - (intOf i).toNat)
    case atStart => exact ⟨0, by omega, rfl, rfl, rfl, ext_alloc W _⟩
    case round =>
      obtain ⟨k, hk, rfl, rfl, rfl, hb⟩ := hrel
      by_cases hlt : k < xs.length
      · have q := hix k hlt
        have hwb := ext_trans hW hb
        obtain ⟨a', cap', e, c0, c1, c2⟩ := elem_parts ha hc hx hlt hwb
        have ik := ih k hlt
        rw [e] at ik
        have hsz := sizeL_nth hlt
        simp only [sizeE] at hS
        go_wp2_with fail
        refine (ik _ (ext_alloc' hwb _) (by omega)).mono ?_
        rintro _ w2 ⟨_, rfl, hb2, rfl⟩
        have hdp := depthE_le_size (nthE xs k)
        have hlen := length_le_size xs
        have hdl := depthL_le (xs.take k)
        have hsk := sizeL_take_le xs k
        have HT := Lib.hid (take_nthE hlt)
        by_cases hmx : depthL (xs.take k) < depthE (nthE xs k)
        · have hmi : ((depthL (xs.take k) : Nat) : Int) < (depthE (nthE xs k) : Nat) := by omega
          go_wp2
          go_roundw
          case rel =>
            refine ⟨k + 1, by omega, by go_num, ?_, ?_, (ext_alloc' hb _).trans (hb2.mono (by simp; have := hb.size; omega))⟩
            · rw [HT.out, sizeL_snoc]; go_num
            · rw [HT.out, depthL_snoc, Nat.max_eq_right (by omega)]
          case measure => simp [intOf]; omega
        · have hmi : ¬ ((depthL (xs.take k) : Nat) : Int) < (depthE (nthE xs k) : Nat) := by omega
          go_wp2
          go_roundw
          case rel =>
            refine ⟨k + 1, by omega, by go_num, ?_, ?_, (ext_alloc' hb _).trans (hb2.mono (by simp; have := hb.size; omega))⟩
            · rw [HT.out, sizeL_snoc]; go_num
            · rw [HT.out, depthL_snoc, Nat.max_eq_left (by omega)]
          case measure => simp [intOf]; omega
      · have hk' : k = xs.length := by omega
        subst hk'
        rw [List.take_length]
        have hdl := depthL_le xs
        simp only [sizeE] at hS
        go_wp2
        go_ret2
        exact .mk hb (by simp [sizeE, depthE])
end Go.Proofs.YthogcbffnbhalaaDoor

