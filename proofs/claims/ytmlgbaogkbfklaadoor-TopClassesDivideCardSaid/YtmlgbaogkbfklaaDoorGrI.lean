/- The elements of a set, collected. -/
import Derived.Test.YtmlgbaogkbfklaaDoorGrH
namespace Go.Proofs.YtmlgbaogkbfklaaDoor
set_option linter.unusedVariables false
open Go.RowKit Go.Shelf
attribute [local go_sem ↓] Go.wp_at_zero Go.wp_at_succ
attribute [local go_sem] Oper.semAt_some

theorem Row.putObj {w : World} {g : Nat} {e : TypeId} {xs : List Value} (h : Row w g e xs) {r : Nat} {o : Obj} (o' : Obj) (hr : w.heap[r]? = some o) (ho : o.isCells = false) : Row (w.putObj r o') g e xs := by
  refine h.grown (grownBy_putObj' w r o') fun e => ?_
  cases e
  unfold Row at h
  rw [hr] at h
  cases h
  cases ho
def natV (l : List Nat) : List Value := l.map fun p : Nat => Value.int .i64 (p : Int)
theorem natV_int (l : List Nat) : natV l = (l.map (Nat.cast : Nat → Int)).map (Value.int .i64) := by simp [natV]
theorem natV_snoc (l : List Nat) (x : Nat) : natV (l ++ [x]) = natV l ++ [.int .i64 (x : Int)] := by simp [natV]
set_option maxRecDepth 100000 in
set_option maxHeartbeats 8000000 in
theorem collected_calls {w : World} {B s : Nat} (hs : s < 32) (TB : Tab w) (R : w.cell? ⟨B, 0, none⟩ = some (.int .i64 s)) (hB : B < w.heap.size) :
    Calls Tryd.prog 78 #[.func (.func 81) #[] #[.pointer (some ⟨B, 0, none⟩)], .func (.func 80) #[] #[]] w (Post w fun w' r => Ints (fun b => w.heap.size ≤ b) w' r (elemsI s)) := by
  have ex := ext_alloc' (ext_alloc w (.cells #[.func (.func 80) #[] #[]] 98)) (.cells #[.slice none 0 0] 33)
  have r1 := (row_new w [.func (.func 80) #[] #[]] 98).alloc (.cells #[.slice none 0 0] 33)
  have r2 := row_new (w.alloc (.cells #[.func (.func 80) #[] #[]] 98)) [.slice none 0 0] 33
  have hz3 : (((w.alloc (.cells #[.func (.func 80) #[] #[]] 98)).alloc (.cells #[.slice none 0 0] 33))).heap.size = w.heap.size + 1 + 1 := by simp
  simp only [World.size_alloc] at r2
  refine (callsIn_wide (n := 6)).1 ?_
  refine callsIn_of_wp_marks Tryd.func78 rfl trivial ?_ rfl
  simp only [Tryd.ntmps78, List.size_toArray, List.length_cons, List.length_nil, Nat.reduceAdd, Nat.reduceSub, Array.replicate_succ, Array.replicate_zero, List.push_toArray, List.append_toArray, List.nil_append, List.cons_append]
  gi_wp2_with fail
  obtain ⟨w3, hw3⟩ : ∃ w3, w3 = (w.alloc (.cells #[.func (.func 80) #[] #[]] 98)).alloc (.cells #[.slice none 0 0] 33) := ⟨_, rfl⟩
  rw [← hw3] at ex r1 r2 hz3 ⊢
  clear hw3
  have hpos := TB.pos
  have HGV := elements_gives (T := fun b => b < w.heap.size) (n := 5) (by decide) hs (TB.ext ex) (show _ < _ by omega) (cell_ext R ex)
  clear R TB
  have HEV := Lib.hid fun W p => ((every_quiet W p).mono fun _ _ h => h.take)
  have eg : ∀ args w, (callFunc 80 args).run Tryd.prog w = .ok (.enter 80 args) w := fun args w => by rfl
  refine rangeFunc_rd (n := 6) rfl (by decide) (gf := 81) (lb := #[.pointer (some ⟨B, 0, none⟩)]) rfl trivial (enters_of Tryd.func81 (by kernel_rfl) rfl)
    HGV (fun h k => h.trans k) (fun W l o o' hl h hc hw => ⟨by simp, fun b hb _ => World.putObj_heap_other (by omega)⟩) (fun _ => rfl)
    (fun pre b W => ∃ rv, Row W w.heap.size 98 [.func (.func 80) #[] #[]] ∧ Row W (w.heap.size + 1) 33 [rv] ∧ W.ownsRow (w.heap.size + 1 + 1) 3 1 rv pre.length (natV pre) ∧ Below w.heap.size w W)
    (fun s b A B h hb => by obtain ⟨rv, h1, h2, h3, h4⟩ := h; exact ⟨rv, h1.ext hb, h2.ext hb, owns_ext h3 hb, h4.trans (hb.mono h4.size)⟩)
    (fun s b A l o o' h hl ho hc => by
      obtain ⟨rv, h1, h2, h3, h4⟩ := h
      exact ⟨rv, h1.putObj o' ho hc, h2.putObj o' ho hc, ownsRow_putObj h3 o' ho hc, h4.grown (grownBy_putObj' A l o') h4.size (fun k hk => by cases hk; omega)⟩)
    (fun x b A l o o' h hl ho hc => trivial)
    (fun b hb => ⟨_, r1, r2, World.ownsRow_nil _ _ _ _, ex⟩)
    (fun x => { tmps := #[Value.func (Fn.func 81) #[] #[Value.pointer (some ⟨B, 0, none⟩)], Value.func (Fn.func 80) #[] #[], undef,
          Value.pointer (some ⟨w.heap.size, 0, none⟩), Value.slice none 0 0, Value.pointer (some ⟨w.heap.size + 1, 0, none⟩), Value.int IntKind.i64 x,
          Value.func (Fn.func 81) #[] #[Value.pointer (some ⟨B, 0, none⟩)], Value.int IntKind.i64 x, undef, undef, undef, undef, undef, undef, undef, undef], defers := [] }) ?assign ?body ?done
  case assign =>
    intro l x W K hK
    gi_wp2
    exact hK
  case body =>
    rintro l pre x b W ⟨rv, P1, P2, hO, hBw⟩ hlen hbW hx
    have c1 := P1.cell (j := 0) rfl
    gi_wp2_with fail
    refine ⟨trivial, (CallsIn.inRound l (callsIn_wide.2 (HEV.out W _))).mono ?_⟩
    rintro _ w5 ⟨_, rfl, hq5, rfl⟩
    obtain ⟨nq, rfl⟩ := hq5
    have hq5 : QW W (W.drewN nq) := ⟨nq, rfl⟩
    have hKO : KeepsOthers W (W.drewN nq) := ⟨Nat.le_refl _, fun _ _ h _ => h⟩
    have hAG : Agree (fun b => b < w.heap.size) W (W.drewN nq) := drewN_agree _ W nq
    replace P1 := P1.ext hq5.ext
    replace P2 := P2.ext hq5.ext
    replace hO := owns_ext hO hq5.ext
    replace hBw := hBw.trans (hq5.ext.mono hBw.size)
    clear c1 hq5
    obtain ⟨w5, hw5⟩ : ∃ w5, w5 = W.drewN nq := ⟨_, rfl⟩
    rw [← hw5] at P1 P2 hO hBw hKO hAG ⊢
    clear hw5
    have c2 := P2.cell (j := 0) rfl
    have ORW := Lib.hid hO
    have HNE : Hid (∀ k, rv.ownBlock = some k → w.heap.size + 1 + 1 ≤ k ∧ k < w5.heap.size) := Lib.hid (fun k hk => hO.lt k hk)
    have zP2 := P2.lt
    obtain ⟨pl, hpl⟩ : ∃ pl, pl = pre.length := ⟨_, rfl⟩
    rw [← hpl] at hlen ORW
    clear hO
    gi_wp2_with (gi_at_builtin; refine wpListIn_push rfl _ _ 33 rfl 3 _ 8 Tryd.underlying33 info_int rfl (w.heap.size + 1 + 1) _ _ _ rfl ORW.out (.int .i64 x) rfl rfl (by omega) (by omega) (by omega) ?_; intro g6 cp6 w6 hown6 hgr6 hat6; have R6 := (P2.alloc (.cells #[.int .i64 x] 3)).grown hgr6 (fun e => by have := (HNE.out _ e).1; omega); have f6 := R6.free 0; have c6 := R6.cell (j := 0) rfl)
    have hag : ∀ S : Nat → Prop, (∀ k, rv.ownBlock = some k → ¬ S k) → Agree S w5 w6 := fun S hS => (Agree.of_grown (World.grownBy_alloc w5 (.cells #[.int .i64 x] 3) none) (by simp)).trans (.of_grown hgr6 fun k hk e => hS k e hk)
    have hset := grownBy_setCell w6 (w.heap.size + 1) 0 (.slice (some ⟨g6, 0, none⟩) (pre.length + 1) cp6)
    have P6 := R6.set 0 (.slice (some ⟨g6, 0, none⟩) (pre.length + 1) cp6)
    have P16 := ((P1.alloc (.cells #[.int .i64 x] 3)).grown hgr6 (fun e => by have := (HNE.out _ e).1; omega)).grown hset (by simp)
    have hlt6 := (hown6.lt g6 rfl).1
    rw [hpl] at hown6
    have hs6 := hBw.size
    refine ⟨(((hKO.trans (KeepsOthers.alloc w5 _)).trans (.of_grownBy hgr6 fun j o hj ho => ?_)).trans (.setCell _ _ _)).from _, hAG.trans ((hag _ fun k hk h => ?_).trans (.of_grown hset fun k hk e => ?_)), _, P16, P6, ?_, ((hBw.alloc hBw.size _).grown hgr6 (by simp; omega) fun k hk => ?_).setCell (by simp) _⟩
    · rcases ORW.out.2 with ⟨rfl, _⟩ | ⟨g, cap, cur, rfl, _, hc, _⟩
      · cases hj
      · cases hj
        rw [(Below.heap_alloc w5 _ _ (Array.getElem?_eq_some_iff.1 hc).1).trans hc] at ho
        cases ho
        rfl
    · have := (HNE.out k hk).1; omega
    · cases e; omega
    · rw [natV_snoc, List.length_append]
      exact owns_agree (S := fun b => b ≠ w.heap.size + 1) hown6 (.of_grown hset fun k hk e => by cases e; exact hk rfl) (fun k hk => by have := (hown6.lt k hk).1; show k ≠ _; omega)
    · have := (HNE.out k hk).1; omega
  case done =>
    rintro D xs b W hD hS ⟨rv, P1, P2, hO, hBw⟩ hK
    have c2 := P2.cell (j := 0) rfl
    have HO := Lib.hid hO
    have HS := Lib.hid hS
    have HKD := Lib.hid hK
    clear hO hS P1
    gi_wp2
    refine ⟨by simp, .inl ⟨_, _, rfl, run_takeDeferred HKD.out, ?_⟩⟩
    have hO9 := ownsRow_putObj HO.out (.deferred none) HKD.out rfl
    have hB9 := hBw.grown (grownBy_putObj' W D (.deferred none)) hBw.size (fun k hk => by cases hk; omega)
    rw [HS.out, natV_int] at hO9
    have hI := (Ints.of_own hO9 (fun x hx => by obtain ⟨p, hp, rfl⟩ := List.mem_map.1 hx; exact WF.small (by have := (mem_elems.1 hp).1; omega))).mono (S' := fun b => w.heap.size ≤ b) fun b hb => by omega
    obtain ⟨w9, hw9⟩ : ∃ w9, w9 = W.putObj D (.deferred none) := ⟨_, rfl⟩
    rw [← hw9] at hB9 hI ⊢
    exact ⟨rv, by simp [results, Tryd.results78, go_sem], .mk hB9 hI⟩
end Go.Proofs.YtmlgbaogkbfklaaDoor
