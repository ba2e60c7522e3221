/- Words for values that lie in memory. -/
import Derived.Test.YtmlgbaogkbfklaaDoorLists
import Derived.Test.YtmlgbaogkbfklaaDoorSlices
import Derived.Test.YtmlgbaogkbfklaaDoorReg
import Derived.Deep.DrawnRows
namespace Go.Proofs.YtmlgbaogkbfklaaDoor
set_option linter.unusedVariables false
open Go.RowKit
attribute [local go_sem ↓] Go.wp_at_zero Go.wp_at_succ

/-- A matrix: its number of columns, its rows. -/
structure Mx where
  cols : Int
  rows : List (List Int)
def memB (b : List Int) (x : Int) : Bool := decide (x ∈ b)
theorem ext_alloc (w : World) (o : Obj) : Below w.heap.size w (w.alloc o) := (Below.refl _ _).alloc (Nat.le_refl _) _
theorem ext_alloc' {a w : World} (h : Below a.heap.size a w) (o : Obj) : Below a.heap.size a (w.alloc o) := h.alloc h.size _
theorem row_new (w : World) (xs : List Value) (e : TypeId) : Row (w.alloc (.cells xs.toArray e)) w.heap.size e xs := by
  unfold Row
  rw [heap_alloc_new]
theorem Row.two {w : World} {g : Nat} {e : TypeId} {x y : Value} (h : Row w g e [x, y]) : w.cell? ⟨g, 0, none⟩ = some x ∧ w.cell? ⟨g, 1, none⟩ = some y := ⟨h.cell rfl, h.cell rfl⟩
theorem info_ints : (Tryd.prog.info? 33).map (fun i => (i.zero, i.size, i.bytes)) = some (some (.slice none 0 0), 1, 24) := by kernel_rfl
/-- The cells of a slice of slices, in a later world. -/
theorem Lists.at {S : Nat → Prop} {w wr : World} {a : Option Addr} {cap : Nat} {ll : List (List Int)} (h : Lists S w (.slice a ll.length cap) ll) (hb : Below w.heap.size w wr) {k : Nat} (hk : k < ll.length) :
    ∃ u, wr.cell? (adr a k) = some u ∧ Ints S wr u (nthL ll k) := by
  obtain ⟨a', cap', e, ha, _, _, hc⟩ := h
  simp only [Value.slice.injEq, true_and] at e
  obtain ⟨rfl, rfl⟩ := e
  obtain ⟨u, hu, hi⟩ := hc k hk
  exact ⟨u, (ha.cell (.of_ext hb) hk).trans hu, hi.ext hb⟩
theorem Lists.form {S : Nat → Prop} {w : World} {v : Value} {ll : List (List Int)} (h : Lists S w v ll) : ∃ a cap, v = .slice a ll.length cap ∧ Ad S w a ll.length cap ∧ ll.length ≤ cap ∧ cap ≤ maxLen := by
  obtain ⟨a, cap, rfl, ha, h1, h2, _⟩ := h
  exact ⟨a, cap, rfl, ha, h1, h2⟩
theorem Ints.form {S : Nat → Prop} {w : World} {v : Value} {l : List Int} (h : Ints S w v l) : ∃ a cap, v = .slice a l.length cap ∧ Ad S w a l.length cap ∧ l.length ≤ cap ∧ cap ≤ maxLen := by
  obtain ⟨a, cap, rfl, ha, h1, h2, _⟩ := h
  exact ⟨a, cap, rfl, ha, h1, h2⟩
/-- The place of the element before. -/
theorem idx_prev {P : Program} {S : Nat → Prop} {w : World} {T E : TypeId} {i : TypeInfo} (hT : P.underlying T = some (.slice E)) (hi : P.info? E = some i) (h1 : i.size = 1) {a : Option Addr} {n cap : Nat} (h : Ad S w a n cap) (k : Nat) (h0 : 0 < k) (hk : k < n) :
    ∀ W : World, (Instr.indexAt T (.slice a n cap) (.int .i64 ((k : Int) - 1))).run P W = .ok (.pointer (some (adr a (k - 1)))) W := by
  intro W
  have := idx_one hT hi h1 h (k - 1) (by omega) W
  rw [show (((k - 1 : Nat)) : Int) = (k : Int) - 1 by omega] at this
  exact this
/-- The value reads as the matrix, in blocks of S. -/
def MatV (S : Nat → Prop) (w : World) (v : Value) (m : Mx) : Prop := ∃ rv, v = .agg #[.int .i64 m.cols, rv] ∧ Lists S w rv m.rows
theorem MatV.agree {S : Nat → Prop} {w w' : World} {v : Value} {m : Mx} (h : MatV S w v m) (hw : Agree S w w') : MatV S w' v m := by
  obtain ⟨rv, rfl, h⟩ := h; exact ⟨rv, rfl, h.agree hw⟩
theorem MatV.mono {S S' : Nat → Prop} {w : World} {v : Value} {m : Mx} (h : MatV S w v m) (hS : ∀ b, S b → S' b) : MatV S' w v m := by
  obtain ⟨rv, rfl, h⟩ := h; exact ⟨rv, rfl, h.mono hS⟩
theorem MatV.ext {S : Nat → Prop} {w w' : World} {v : Value} {m : Mx} (h : MatV S w v m) (hw : Below w.heap.size w w') : MatV S w' v m := h.agree (.of_ext hw)
theorem Post.imp {w w' : World} {R R' : World → Value → Prop} {e : Ending} (h : Post w R e w') (hi : ∀ w' r, R w' r → R' w' r) : Post w R' e w' := by
  obtain ⟨r, rfl, hb, hr⟩ := h; exact ⟨r, rfl, hb, hi _ _ hr⟩
abbrev TT : Nat → Prop := fun _ => True
theorem OwnList.agree {e : TypeId} {B : Nat} {w w' : World} {v : Value} {vs : List Value} {ll : List (List Int)} (h : OwnList e B w v vs ll) (hw : Agree (fun b => B ≤ b) w w') : OwnList e B w' v vs ll :=
  ⟨owns_agree h.row hw fun k hk => (h.row.lt k hk).1, fun j hj => (h.rows j hj).agree (hw.mono fun b hb => hb.1)⟩
theorem Row.get {w : World} {g : Nat} {e : TypeId} {xs ys : List Value} (h : Row w g e xs) (he : xs = ys) : Row w g e ys := he ▸ h
/-- One row more: the new slice is stored into the second cell of block OB. -/
theorem out_push0 {T e : TypeId} {B OB : Nat} {wr w5 w6 : World} {rv u c0 : Value} {vs : List Value} {ll : List (List Int)} {l : List Int} {g cp : Nat} (hOB : OB < B) (hB : B ≤ wr.heap.size) (hR : Row wr OB T [c0, rv]) (hO : OwnList e B wr rv vs ll)
    (hb : Below wr.heap.size wr w5) (hu : Ints (fun b => wr.heap.size ≤ b) w5 u l)
    (hown : w6.ownsRow B e 1 (.slice (some ⟨g, 0, none⟩) (ll.length + 1) cp) (ll.length + 1) (vs ++ [u])) (hag : ∀ S : Nat → Prop, (∀ k, rv.ownBlock = some k → ¬ S k) → Agree S w5 w6) (hbel : Below B w5 w6) (hat : rv.ownBlock = some g ∨ w5.heap.size ≤ g) :
    Row (w6.setCell ⟨OB, 1, none⟩ (.slice (some ⟨g, 0, none⟩) (ll.length + 1) cp)) OB T [c0, .slice (some ⟨g, 0, none⟩) (ll.length + 1) cp] ∧
    OwnList e B (w6.setCell ⟨OB, 1, none⟩ (.slice (some ⟨g, 0, none⟩) (ll.length + 1) cp)) (.slice (some ⟨g, 0, none⟩) (ll.length + 1) cp) (vs ++ [u]) (ll ++ [l]) ∧
    Agree (fun b => b < B ∧ b ≠ OB) wr (w6.setCell ⟨OB, 1, none⟩ (.slice (some ⟨g, 0, none⟩) (ll.length + 1) cp)) ∧
    (∀ B', B' ≤ OB → Below B' wr (w6.setCell ⟨OB, 1, none⟩ (.slice (some ⟨g, 0, none⟩) (ll.length + 1) cp))) := by
  have hlt := hO.row.lt
  have hne : rv.ownBlock ≠ some OB := fun h => by have := (hlt _ h).1; omega
  have hR2 := (hR.ext hb).agree (S := fun b => b = OB) (hag _ fun k hk e => hne (by rw [hk, e])) rfl
  have hset := grownBy_setCell w6 OB 1 (.slice (some ⟨g, 0, none⟩) (ll.length + 1) cp)
  have hO5 := hO.ext hb
  have hpush : OwnList e B w6 (.slice (some ⟨g, 0, none⟩) (ll.length + 1) cp) (vs ++ [u]) (ll ++ [l]) := by
    refine hO5.push hown hag (fun k hk => ?_) (hu.mono fun b hb' => ⟨by omega, fun e => ?_⟩)
    · simp [Value.ownBlock] at hk
      subst hk
      exact hat
    · have := (hlt _ e).2; omega
  refine ⟨by simpa using hR2.set 1 (.slice (some ⟨g, 0, none⟩) (ll.length + 1) cp), hpush.agree (.of_grown hset fun b hb' e => by cases e; omega), ?_, fun B' hB' => ?_⟩
  · refine ((Agree.of_ext hb).trans (hag _ fun k hk hk2 => ?_)).trans (.of_grown hset fun b hb' e => by cases e; exact hb'.2 rfl)
    exact absurd hk2.1 (by have := (hlt _ hk).1; omega)
  · have h5 := hb.size
    refine ((hb.mono (by have := hR.lt; omega)).trans (hbel.mono (by omega))).trans ?_
    exact (Below.refl _ _).grown hset (by have := (hR2).lt; omega) fun k hk => by cases hk; omega
theorem out_push {T e : TypeId} {B OB : Nat} {wr w5 W2 w6 : World} {rv u c0 : Value} {vs : List Value} {ll : List (List Int)} {l : List Int} {g cp : Nat} (hOB : OB < B) (hB : B ≤ wr.heap.size) (hR : Row wr OB T [c0, rv]) (hO : OwnList e B wr rv vs ll)
    (hb : Below wr.heap.size wr w5) (hu : Ints (fun b => wr.heap.size ≤ b) w5 u l) (h2 : Below w5.heap.size w5 W2)
    (hown : w6.ownsRow B e 1 (.slice (some ⟨g, 0, none⟩) (ll.length + 1) cp) (ll.length + 1) (vs ++ [u])) (hgrow : W2.grownBy w6 rv.ownBlock) (hat : rv.ownBlock = some g ∨ w5.heap.size ≤ g) :
    Row (w6.setCell ⟨OB, 1, none⟩ (.slice (some ⟨g, 0, none⟩) (ll.length + 1) cp)) OB T [c0, .slice (some ⟨g, 0, none⟩) (ll.length + 1) cp] ∧
    OwnList e B (w6.setCell ⟨OB, 1, none⟩ (.slice (some ⟨g, 0, none⟩) (ll.length + 1) cp)) (.slice (some ⟨g, 0, none⟩) (ll.length + 1) cp) (vs ++ [u]) (ll ++ [l]) ∧
    Agree (fun b => b < B ∧ b ≠ OB) wr (w6.setCell ⟨OB, 1, none⟩ (.slice (some ⟨g, 0, none⟩) (ll.length + 1) cp)) ∧
    (∀ B', B' ≤ OB → Below B' wr (w6.setCell ⟨OB, 1, none⟩ (.slice (some ⟨g, 0, none⟩) (ll.length + 1) cp))) :=
  out_push0 hOB hB hR hO hb hu hown (fun S hS => (Agree.of_ext h2).trans (.of_grown hgrow fun b hb e => hS b e hb))
    (((h2.mono (by have := hb.size; omega)).grown hgrow (by have := hb.size; have := h2.size; omega) fun k hk => (hO.row.lt _ hk).1)) hat
/-- What a call returns: a matrix in new blocks, and an error's number. -/
def RetM (base : Nat) (x : Mx × Int) (w' : World) (r : Value) : Prop := ∃ mv, r = .tuple #[mv, .int .i64 x.2] ∧ MatV (fun b => base ≤ b) w' mv x.1
theorem RetM.mk {base : Nat} {x : Mx × Int} {w' : World} {rv : Value} {c e : Int} {ll : List (List Int)} (hx : x = (⟨c, ll⟩, e)) (h : Lists (fun b => base ≤ b) w' rv ll) : RetM base x w' (.tuple #[.agg #[.int .i64 c, rv], .int .i64 e]) := by
  subst hx; exact ⟨_, rfl, rv, rfl, h⟩
theorem RetM.none {base : Nat} {x : Mx × Int} {w' : World} {e : Int} (hx : x = (⟨0, []⟩, e)) : RetM base x w' (.tuple #[.agg #[.int .i64 0, .slice none 0 0], .int .i64 e]) := .mk hx (.nil _ _)
theorem Row.agreeN {w w' : World} {g : Nat} {e : TypeId} {xs : List Value} {B OB : Nat} (h : Row w g e xs) (ha : Agree (fun b => b < B ∧ b ≠ OB) w w') (h1 : g < B) (h2 : g ≠ OB) : Row w' g e xs := h.agree ha ⟨h1, h2⟩
theorem cell_agree {S : Nat → Prop} {w w' : World} {p : Addr} {u : Value} (h : w.cell? p = some u) (hw : Agree S w w') (hS : S p.block) : w'.cell? p = some u :=
  (World.cell?_of_block (hw.block p.block hS (World.block_lt_of_cell? w p h))).trans h
theorem adr_block {S : Nat → Prop} {w : World} {a : Option Addr} {n cap k : Nat} (h : Ad S w a n cap) (hk : k < n) : (adr a k).block < w.heap.size := by
  rcases h with ⟨rfl, _⟩ | ⟨b, off, rfl, hb, _⟩
  · omega
  · exact hb
theorem Agree.alloc {S : Nat → Prop} {w w' : World} (h : Agree S w w') (o : Obj) : Agree S w (w'.alloc o) := h.trans ⟨by simp, fun k _ hk => heap_alloc_old w' o hk⟩
theorem Agree.drew {S : Nat → Prop} {w w' : World} (h : Agree S w w') : Agree S w w'.drew := h.trans ⟨Nat.le_refl _, fun _ _ _ => rfl⟩
theorem set2_below {w wr : World} {g : Nat} (u0 u1 : Value) (h : Below w.heap.size w wr) (hg : w.heap.size ≤ g) : Below w.heap.size w ((wr.setCell ⟨g, 0, none⟩ u0).setCell ⟨g, 1, none⟩ u1) := (h.setCell (by simpa using hg) _).setCell (by simpa using hg) _
theorem set2_agree {B : Nat} {wr : World} {g : Nat} (u0 u1 : Value) (hg : g < B) : Agree (fun b => B ≤ b) wr ((wr.setCell ⟨g, 0, none⟩ u0).setCell ⟨g, 1, none⟩ u1) :=
  (Agree.of_grown (grownBy_setCell wr g 0 u0) fun b hb e => by cases e; omega).trans (.of_grown (grownBy_setCell _ g 1 u1) fun b hb e => by cases e; omega)
theorem ints_head {S : Nat → Prop} {w : World} {a : Option Addr} {n cap : Nat} {x : Int} {l : List Int} (h : Ints S w (.slice a n cap) (x :: l)) {wr : World} (hb : Below w.heap.size w wr) : wr.cell? (adr a 0) = some (.int .i64 x) := by
  obtain ⟨a0, cap0, e, had, hl, hm, hc, hf⟩ := h
  simp only [List.length_cons, Value.slice.injEq] at e
  obtain ⟨rfl, rfl, rfl⟩ := e
  exact (had.cell (.of_ext hb) (by simp)).trans (hc 0 (by simp))
theorem ints_ad {S : Nat → Prop} {w : World} {a : Option Addr} {n cap : Nat} {l : List Int} (h : Ints S w (.slice a n cap) l) : Ad S w a l.length cap := by
  obtain ⟨a0, cap0, e, had, hl, hm, hc, hf⟩ := h
  simp only [Value.slice.injEq] at e
  obtain ⟨rfl, rfl, rfl⟩ := e
  exact had
theorem cell_ext {w w' : World} {p : Addr} {u : Value} (h : w.cell? p = some u) (hb : Below w.heap.size w w') : w'.cell? p = some u := (hb.cell (World.block_lt_of_cell? w _ h)).trans h
theorem ints_cells {S : Nat → Prop} {w W : World} {a : Option Addr} {n cap : Nat} {l : List Int} (h : Ints S w (.slice a n cap) l) (hb : Below w.heap.size w W) : ∀ j, j < l.length → W.cell? (adr a j) = some ((l.map (Value.int .i64)).getD j undef) := by
  obtain ⟨a0, cap0, e, had, hl, hm, hc, hf⟩ := h
  simp only [Value.slice.injEq] at e
  obtain ⟨rfl, rfl, rfl⟩ := e
  intro j hj
  rw [(had.cell (.of_ext hb) hj).trans (hc j hj)]
  simp [nth_eq hj, hj]
theorem oneCell_ints (l : List Int) : ∀ u ∈ l.map (Value.int .i64), u.oneCell' = true := by
  intro u hu
  obtain ⟨x, _, rfl⟩ := List.mem_map.1 hu
  rfl
/-- Values that read as lists. -/
def RefsV (S : Nat → Prop) (w : World) (vs : List Value) (ll : List (List Int)) : Prop := vs.length = ll.length ∧ ∀ j, j < ll.length → Ints S w (nthV vs j) (nthL ll j)
theorem RefsV.nil (S : Nat → Prop) (w : World) : RefsV S w [] [] := ⟨rfl, fun j hj => by simp at hj⟩
theorem RefsV.snoc {S : Nat → Prop} {w : World} {vs : List Value} {ll : List (List Int)} {u : Value} {l : List Int} (h : RefsV S w vs ll) (hu : Ints S w u l) : RefsV S w (vs ++ [u]) (ll ++ [l]) := by
  refine ⟨by simp [h.1], fun j hj => ?_⟩
  by_cases hlt : j < ll.length
  · rw [show nthV (vs ++ [u]) j = nthV vs j from by simp [nthV, List.getElem?_append_left (show j < vs.length by rw [h.1]; exact hlt)], show nthL (ll ++ [l]) j = nthL ll j from by simp [nthL, List.getElem?_append_left hlt]]
    exact h.2 j hlt
  · have : j = ll.length := by simp at hj; omega
    subst this
    rw [show nthV (vs ++ [u]) ll.length = u from by simp [nthV, ← h.1], show nthL (ll ++ [l]) ll.length = l from by simp [nthL]]
    exact hu
theorem RefsV.agree {S : Nat → Prop} {w w' : World} {vs : List Value} {ll : List (List Int)} (h : RefsV S w vs ll) (hw : Agree S w w') : RefsV S w' vs ll := ⟨h.1, fun j hj => (h.2 j hj).agree hw⟩
theorem Lists.of_own {S : Nat → Prop} {base : Nat} {e : TypeId} {w : World} {v : Value} {vs : List Value} {ll : List (List Int)} (ho : w.ownsRow base e 1 v ll.length vs) (hr : RefsV S w vs ll) (hS : ∀ b, base ≤ b → S b) : Lists S w v ll := by
  rcases ho.2 with ⟨rfl, h0⟩ | ⟨g, cap, cur, rfl, hb, hg, hnc, hcm, _⟩
  · have : ll = [] := List.length_eq_zero_iff.1 h0
    subst this
    exact .nil _ _
  · refine ⟨_, cap, rfl, .inr ⟨g, 0, rfl, (Array.getElem?_eq_some_iff.1 hg).1, hS _ hb⟩, hnc, hcm, fun j hj => ⟨nthV vs j, ?_, hr.2 j hj⟩⟩
    rw [adr_add, Nat.zero_add, ho.cellAt j (by omega), nthV_get (by rw [hr.1]; exact hj)]
theorem Row.owns {w : World} {g base : Nat} {e : TypeId} {xs : List Value} (h : Row w g e xs) (hb : base ≤ g) (hl : xs.length ≤ maxLen) : w.ownsRow base e 1 (.slice (some ⟨g, 0, none⟩) xs.length xs.length) xs.length xs :=
  ⟨by simp, .inr ⟨g, xs.length, xs.toArray, rfl, hb, h, Nat.le_refl _, hl, by simp, by simp⟩⟩
theorem Lists.block {S : Nat → Prop} {w : World} {v : Value} {ll : List (List Int)} (h : Lists S w v ll) : Lists (fun b => S b ∧ b < w.heap.size) w v ll := by
  obtain ⟨a, cap, rfl, ha, h1, h2, hc⟩ := h
  refine ⟨a, cap, rfl, ?_, h1, h2, fun j hj => ?_⟩
  · rcases ha with h | ⟨b, off, rfl, hb, hs⟩
    · exact .inl h
    · exact .inr ⟨b, off, rfl, hb, hs, hb⟩
  · obtain ⟨u, hu, hi⟩ := hc j hj
    exact ⟨u, hu, hi.block 0⟩
theorem memB_iff {l : List Int} {z : Int} : memB l z = true ↔ z ∈ l := by simp [memB]
theorem Lists.vals {S : Nat → Prop} {w : World} {a : Option Addr} {cap : Nat} {ll : List (List Int)} (h : Lists S w (.slice a ll.length cap) ll) :
    ∃ vs : List Value, vs.length = ll.length ∧ (∀ j, j < ll.length → w.cell? (adr a j) = some (vs.getD j undef)) ∧ RefsV S w vs ll ∧ (∀ u ∈ vs, u.oneCell' = true) := by
  obtain ⟨a', cap', e, _, _, _, hc⟩ := h
  simp only [Value.slice.injEq, true_and] at e
  obtain ⟨rfl, rfl⟩ := e
  obtain ⟨vs, hvs⟩ : ∃ vs : List Value, vs = (List.range ll.length).map fun j => (w.cell? (adr a j)).getD undef := ⟨_, rfl⟩
  have hat : ∀ j, j < ll.length → vs.getD j undef = (w.cell? (adr a j)).getD undef := fun j hj => by rw [hvs]; simp [hj]
  refine ⟨vs, by rw [hvs]; simp, fun j hj => ?_, ⟨by rw [hvs]; simp, fun j hj => ?_⟩, fun u hu => ?_⟩
  · obtain ⟨u, hu, _⟩ := hc j hj
    rw [hat j hj, hu]; rfl
  · obtain ⟨u, hu, hi⟩ := hc j hj
    have : nthV vs j = u := by unfold nthV; rw [hat j hj, hu]; rfl
    rw [this]; exact hi
  · rw [hvs] at hu
    obtain ⟨j, hj, rfl⟩ := List.mem_map.1 hu
    obtain ⟨u, hu, hi⟩ := hc j (List.mem_range.1 hj)
    obtain ⟨a1, c1, rfl, _⟩ := hi.form
    rw [hu]; rfl
theorem lit_ints (w : World) (B : Nat) (hB : B = w.heap.size) (l : List Int) (e : TypeId) (hl : l.length ≤ 65536) (hf : ∀ x ∈ l, -1000000000 ≤ x ∧ x ≤ 1000000000) :
    Ints (fun b => b = B) (w.alloc (.cells (l.map (Value.int .i64)).toArray e)) (.slice (some ⟨B, 0, none⟩) l.length l.length) l := by
  subst hB
  exact Row.ints (e := e) (heap_alloc_new w _) (by unfold maxLen; omega) fun x hx => WF.small (hf x hx)
/-- Slices that read as the lists ll, in blocks of S. -/
def AllIn (S : Nat → Prop) (w : World) : List Value → List (List Int) → Prop
  | [], [] => True
  | v :: vs, l :: ll => Ints S w v l ∧ AllIn S w vs ll
  | _, _ => False
theorem AllIn.len {S : Nat → Prop} {w : World} : ∀ {vs : List Value} {ll : List (List Int)}, AllIn S w vs ll → vs.length = ll.length
  | [], [], _ => rfl
  | v :: vs, l :: ll, h => by simp [AllIn.len h.2]
  | [], _ :: _, h => h.elim
  | _ :: _, [], h => h.elim
theorem AllIn.get {S : Nat → Prop} {w : World} : ∀ {vs : List Value} {ll : List (List Int)}, AllIn S w vs ll → ∀ j, j < ll.length → Ints S w (nthV vs j) (nthL ll j)
  | [], [], _, j, hj => by simp at hj
  | v :: vs, l :: ll, h, 0, _ => h.1
  | v :: vs, l :: ll, h, j + 1, hj => AllIn.get h.2 j (by simpa using hj)
  | [], _ :: _, h, _, _ => h.elim
  | _ :: _, [], h, _, _ => h.elim
theorem lit_listsS {S : Nat → Prop} (w : World) (B : Nat) (hB : B = w.heap.size) (vs : List Value) (ll : List (List Int)) (e : TypeId) (hS : S B) (h : AllIn S w vs ll) (hl : ll.length ≤ 65536) :
    Lists S (w.alloc (.cells vs.toArray e)) (.slice (some ⟨B, 0, none⟩) ll.length ll.length) ll := by
  subst hB
  refine ⟨_, _, rfl, .inr ⟨_, 0, rfl, by simp, hS⟩, Nat.le_refl _, by unfold maxLen; omega, fun j hj => ⟨nthV vs j, ?_, ?_⟩⟩
  · have := h.len
    rw [adr_add, Nat.zero_add, World.cell?_alloc_new]
    simpa using nthV_get (l := vs) (k := j) (by omega)
  · exact (h.get j hj).ext ((Below.refl _ _).alloc (Nat.le_refl _) _)
theorem lit_intsS {S : Nat → Prop} (w : World) (B : Nat) (hB : B = w.heap.size) (hS : S B) (l : List Int) (e : TypeId) (hl : l.length ≤ 65536) (hf : ∀ x ∈ l, -1000000000 ≤ x ∧ x ≤ 1000000000) :
    Ints S (w.alloc (.cells (l.map (Value.int .i64)).toArray e)) (.slice (some ⟨B, 0, none⟩) l.length l.length) l := (lit_ints w B hB l e hl hf).mono fun b hb => hb ▸ hS
theorem idx_rows {g cp n : Nat} (k : Nat) (hk : k < n) (W : World) : (Instr.indexAt 60 (.slice (some ⟨g, 0, none⟩) n cp) (.int .i64 k)).run Tryd.prog W = .ok (.pointer (some ⟨g, k, none⟩)) W := by
  obtain ⟨i, hi, _, h1, _⟩ := info_parts info_ints
  have hE : Tryd.prog.elem 60 = 33 := by simp [Program.elem, Tryd.underlying60]
  rw [run_indexAt_slice W 60 _ n cp .i64 k (by rw [hE]; exact Tryd.underlying60), if_pos (by omega), hE]
  simp [sizeOf, typeInfo, hi, h1, Result.andThen, Addr.add]
  exact fun h => h.symm
theorem step_appendAll {P : Program} {ops : Array Oper} {o : Oper} {a : Act} {w : World} {K : Act → World → Prop} {Q : Exit → Act → World → Prop} {E : Prop} (hgd : o.guard = none) (s x : Operand) (t : TypeId)
    (ho : o.op = .call { callee := .builtin .append, args := #[s, x], argTypes := #[t, t] }) (e : TypeId) (z : Value) (bytes : Nat) (ht : P.underlying t = some (.slice e))
    (hinfo : (P.info? e).map (fun i => (i.zero, i.size, i.bytes)) = some (some z, 1, bytes)) (hz1 : z.cells.size = 1) (base : Nat) (v : Value) (n : Nat) (xs : List Value) (hs : a.eval s = v) (hown : w.ownsRow base e 1 v n xs)
    (S : Nat → Prop) (ad : Option Addr) (m c : Nat) (news : List Value) (hx : a.eval x = .slice ad m c) (had : Ad S w ad m c) (hl : news.length = m) (hcell : ∀ j, j < m → w.cell? (adr ad j) = some (news.getD j undef)) (h1 : ∀ u ∈ news, u.oneCell' = true)
    (hbytes : (n + m) * bytes ≤ 140737488355328) (hn : n + m ≤ 9223372036854775807) (hbase : base ≤ w.heap.size)
    (h : ∀ v' w', w'.ownsRow base e 1 v' (n + m) (xs ++ news) → Below base w w' → (∀ S : Nat → Prop, (∀ k, v.ownBlock = some k → ¬ S k) → Agree S w w') → (∀ k, v'.ownBlock = some k → v.ownBlock = some k ∨ w.heap.size ≤ k) → K (a.put o.dst v') w') :
    if Region.wanted o (yielded ops a.tmps) = true then Oper.wp P o a w K Q else E := by
  have hw : Region.wanted o (yielded ops a.tmps) = true := by simp [Region.wanted, hgd]
  rw [if_pos hw]
  obtain ⟨i, hi, hz, hz2, hz3⟩ := info_parts hinfo
  have hlt := hown.lt
  have fin : ∀ x : Addr, ad = some x → (∀ j u, news[j]? = some u → w.cell? (x.add j) = some u) → o.wp P a w K Q := by
    intro x he hx2
    obtain ⟨v', w', hr, h2, h3, h4⟩ := run_append_own' (P := P) w base t o.type e i z 1 bytes ht hi hz hz2 hz3 hz1 (by decide) v n xs hown x m c news (by omega) hx2 h1 (by unfold maxLen; omega) hbytes hbase
    rw [he] at hx
    unfold Oper.wp
    simp [execOp, ho, resolve, invoke, builtin, hs, hx, hr, Result.andThen]
    exact h v' w' h2 ((Below.refl _ _).grown h3 hbase (fun k hk => (hlt k hk).1)) (fun S hS => .of_grown h3 (fun k hk e1 => hS k e1 hk)) h4
  rcases had with ⟨rfl, rfl⟩ | ⟨b, off, rfl, hb, hS⟩
  · have hn0 : news = [] := List.eq_nil_of_length_eq_zero hl
    cases ad with
    | some x => exact fin x rfl (fun j u hj => by rw [hn0] at hj; simp at hj)
    | none =>
      have hrun := run_append_owned_none (P := P) w base t o.type e i 1 ht hi v n xs hown
      unfold Oper.wp
      simp [execOp, ho, resolve, invoke, builtin, hs, hx, hrun, Result.andThen]
      exact h v w (by rw [hn0]; simpa using hown) (.refl _ _) (fun S _ => .refl _ _) (fun k hk => .inl hk)
  · refine fin _ rfl (fun j u hj => ?_)
    have hjm : j < m := by rw [← hl]; exact (List.getElem?_eq_some_iff.1 hj).1
    have := hcell j hjm
    rw [adr_add] at this
    rw [Addr.add_lit, this, List.getD_eq_getElem?_getD, hj]
    rfl
theorem RefsV.ext {S : Nat → Prop} {w w' : World} {vs : List Value} {ll : List (List Int)} (h : RefsV S w vs ll) (hw : Below w.heap.size w w') : RefsV S w' vs ll := h.agree (.of_ext hw)
theorem row_set2 {w : World} {g : Nat} {e : TypeId} {a b : Value} (h : Row w g e [a, b]) (x y : Value) : Row ((w.setCell ⟨g, 0, none⟩ x).setCell ⟨g, 1, none⟩ y) g e [x, y] := (h.set 0 x).set 1 y
theorem wf_snoc {acc : List Int} {x : Int} (h : ∀ y ∈ acc, WF y) (hx : WF x) : ∀ y ∈ acc ++ [x], WF y := by
  intro y hy
  rcases List.mem_append.1 hy with h1 | h1
  · exact h y h1
  · rw [List.mem_singleton.1 h1]; exact hx
end Go.Proofs.YtmlgbaogkbfklaaDoor
