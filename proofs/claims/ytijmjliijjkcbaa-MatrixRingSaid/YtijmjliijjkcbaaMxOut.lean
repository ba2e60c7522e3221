/- A matrix that a call fills row by row. -/
import Derived.Test.YtijmjliijjkcbaaMxHas
import Derived.Test.YtijmjliijjkcbaaReg
namespace Go.Proofs.Ytijmjliijjkcbaa
set_option linter.unusedVariables false
open Go.RowKit

theorem OwnList.agree {e : TypeId} {B : Nat} {w w' : World} {v : Value} {vs : List Value} {ll : List (List Int)} (h : OwnList e B w v vs ll) (hw : Agree (fun b => B ≤ b) w w') : OwnList e B w' v vs ll :=
  ⟨owns_agree h.row hw fun k hk => (h.row.lt k hk).1, fun j hj => (h.rows j hj).agree (hw.mono fun b hb => hb.1)⟩
theorem Row.get {w : World} {g : Nat} {e : TypeId} {xs ys : List Value} (h : Row w g e xs) (he : xs = ys) : Row w g e ys := he ▸ h

/-- One row more: the new slice is stored into the second cell of block OB. -/
theorem out_push0 {T e : TypeId} {B OB : Nat} {wr w5 w6 : World} {rv u c0 : Value} {vs : List Value} {ll : List (List Int)} {l : List Int} {g cp : Nat} (hOB : OB < B) (hB : B ≤ wr.heap.size) (hR : Row wr OB T [c0, rv]) (hO : OwnList e B wr rv vs ll)
    (hb : Below wr.heap.size wr w5) (hu : Ints (fun b => wr.heap.size ≤ b) w5 u l)
    (hown : w6.ownsRow B e 1 (.slice (some ⟨g, 0, none⟩) (ll.length + 1) cp) (ll.length + 1) (vs ++ [u])) (hag : ∀ S : Nat → Prop, (∀ k, rv.ownBlock = some k → ¬ S k) → Agree S w5 w6) (hbel : Below B w5 w6) (hat : rv.ownBlock = some g ∨ w5.heap.size ≤ g) :
    Row (w6.setCell ⟨OB, 1, none⟩ (.slice (some ⟨g, 0, none⟩) (ll.length + 1) cp)) OB T [c0, .slice (some ⟨g, 0, none⟩) (ll.length + 1) cp] ∧
    OwnList e B (w6.setCell ⟨OB, 1, none⟩ (.slice (some ⟨g, 0, none⟩) (ll.length + 1) cp)) (.slice (some ⟨g, 0, none⟩) (ll.length + 1) cp) (vs ++ [u]) (ll ++ [l]) ∧
    Agree (fun b => b < B ∧ b ≠ OB) wr (w6.setCell ⟨OB, 1, none⟩ (.slice (some ⟨g, 0, none⟩) (ll.length + 1) cp)) ∧
    (∀ B', B' ≤ OB → Below B' wr (w6.setCell ⟨OB, 1, none⟩ (.slice (some ⟨g, 0, none⟩) (ll.length + 1) cp))) := by
  have hlt := hO.row.lt
  have hne : rv.ownBlock ≠ some OB := fun h => by have := (hlt _ h).1; omega
  have hR2 := (hR.ext hb).agree (S := fun b => b = OB) (hag _ fun k hk e => hne (by rw [hk, e])) rfl
  have hset := grownBy_setCell w6 OB 1 (.slice (some ⟨g, 0, none⟩) (ll.length + 1) cp)
  have hO5 := hO.ext hb
  have hpush : OwnList e B w6 (.slice (some ⟨g, 0, none⟩) (ll.length + 1) cp) (vs ++ [u]) (ll ++ [l]) := by
    refine hO5.push hown hag (fun k hk => ?_) (hu.mono fun b hb' => ⟨by omega, fun e => ?_⟩)
    · simp [Value.ownBlock] at hk
      subst hk
      exact hat
    · have := (hlt _ e).2; omega
  refine ⟨by simpa using hR2.set 1 (.slice (some ⟨g, 0, none⟩) (ll.length + 1) cp), hpush.agree (.of_grown hset fun b hb' e => by cases e; omega), ?_, fun B' hB' => ?_⟩
  · refine ((Agree.of_ext hb).trans (hag _ fun k hk hk2 => ?_)).trans (.of_grown hset fun b hb' e => by cases e; exact hb'.2 rfl)
    exact absurd hk2.1 (by have := (hlt _ hk).1; omega)
  · have h5 := hb.size
    refine ((hb.mono (by have := hR.lt; omega)).trans (hbel.mono (by omega))).trans ?_
    exact (Below.refl _ _).grown hset (by have := (hR2).lt; omega) fun k hk => by cases hk; omega
theorem out_push {T e : TypeId} {B OB : Nat} {wr w5 W2 w6 : World} {rv u c0 : Value} {vs : List Value} {ll : List (List Int)} {l : List Int} {g cp : Nat} (hOB : OB < B) (hB : B ≤ wr.heap.size) (hR : Row wr OB T [c0, rv]) (hO : OwnList e B wr rv vs ll)
    (hb : Below wr.heap.size wr w5) (hu : Ints (fun b => wr.heap.size ≤ b) w5 u l) (h2 : Below w5.heap.size w5 W2)
    (hown : w6.ownsRow B e 1 (.slice (some ⟨g, 0, none⟩) (ll.length + 1) cp) (ll.length + 1) (vs ++ [u])) (hgrow : W2.grownBy w6 rv.ownBlock) (hat : rv.ownBlock = some g ∨ w5.heap.size ≤ g) :
    Row (w6.setCell ⟨OB, 1, none⟩ (.slice (some ⟨g, 0, none⟩) (ll.length + 1) cp)) OB T [c0, .slice (some ⟨g, 0, none⟩) (ll.length + 1) cp] ∧
    OwnList e B (w6.setCell ⟨OB, 1, none⟩ (.slice (some ⟨g, 0, none⟩) (ll.length + 1) cp)) (.slice (some ⟨g, 0, none⟩) (ll.length + 1) cp) (vs ++ [u]) (ll ++ [l]) ∧
    Agree (fun b => b < B ∧ b ≠ OB) wr (w6.setCell ⟨OB, 1, none⟩ (.slice (some ⟨g, 0, none⟩) (ll.length + 1) cp)) ∧
    (∀ B', B' ≤ OB → Below B' wr (w6.setCell ⟨OB, 1, none⟩ (.slice (some ⟨g, 0, none⟩) (ll.length + 1) cp))) :=
  out_push0 hOB hB hR hO hb hu hown (fun S hS => (Agree.of_ext h2).trans (.of_grown hgrow fun b hb e => hS b e hb))
    (((h2.mono (by have := hb.size; omega)).grown hgrow (by have := hb.size; have := h2.size; omega) fun k hk => (hO.row.lt _ hk).1)) hat

/-- What a call returns: a matrix in new blocks, and an error's number. -/
def RetM (base : Nat) (x : Mx × Int) (w' : World) (r : Value) : Prop := ∃ mv, r = .tuple #[mv, .int .i64 x.2] ∧ MatV (fun b => base ≤ b) w' mv x.1
theorem RetM.mk {base : Nat} {x : Mx × Int} {w' : World} {rv : Value} {c e : Int} {ll : List (List Int)} (hx : x = (⟨c, ll⟩, e)) (h : Lists (fun b => base ≤ b) w' rv ll) : RetM base x w' (.tuple #[.agg #[.int .i64 c, rv], .int .i64 e]) := by
  subst hx; exact ⟨_, rfl, rv, rfl, h⟩
theorem RetM.none {base : Nat} {x : Mx × Int} {w' : World} {e : Int} (hx : x = (⟨0, []⟩, e)) : RetM base x w' (.tuple #[.agg #[.int .i64 0, .slice none 0 0], .int .i64 e]) := .mk hx (.nil _ _)
theorem Row.agreeN {w w' : World} {g : Nat} {e : TypeId} {xs : List Value} {B OB : Nat} (h : Row w g e xs) (ha : Agree (fun b => b < B ∧ b ≠ OB) w w') (h1 : g < B) (h2 : g ≠ OB) : Row w' g e xs := h.agree ha ⟨h1, h2⟩
theorem cell_agree {S : Nat → Prop} {w w' : World} {p : Addr} {u : Value} (h : w.cell? p = some u) (hw : Agree S w w') (hS : S p.block) : w'.cell? p = some u :=
  (World.cell?_of_block (hw.block p.block hS (World.block_lt_of_cell? w p h))).trans h
theorem adr_block {S : Nat → Prop} {w : World} {a : Option Addr} {n cap k : Nat} (h : Ad S w a n cap) (hk : k < n) : (adr a k).block < w.heap.size := by
  rcases h with ⟨rfl, _⟩ | ⟨b, off, rfl, hb, _⟩
  · omega
  · exact hb
theorem Agree.alloc {S : Nat → Prop} {w w' : World} (h : Agree S w w') (o : Obj) : Agree S w (w'.alloc o) := h.trans ⟨by simp, fun k _ hk => heap_alloc_old w' o hk⟩
theorem Agree.drew {S : Nat → Prop} {w w' : World} (h : Agree S w w') : Agree S w w'.drew := h.trans ⟨Nat.le_refl _, fun _ _ _ => rfl⟩
theorem set2_below {w wr : World} {g : Nat} (u0 u1 : Value) (h : Below w.heap.size w wr) (hg : w.heap.size ≤ g) : Below w.heap.size w ((wr.setCell ⟨g, 0, none⟩ u0).setCell ⟨g, 1, none⟩ u1) := (h.setCell (by simpa using hg) _).setCell (by simpa using hg) _
theorem set2_agree {B : Nat} {wr : World} {g : Nat} (u0 u1 : Value) (hg : g < B) : Agree (fun b => B ≤ b) wr ((wr.setCell ⟨g, 0, none⟩ u0).setCell ⟨g, 1, none⟩ u1) :=
  (Agree.of_grown (grownBy_setCell wr g 0 u0) fun b hb e => by cases e; omega).trans (.of_grown (grownBy_setCell _ g 1 u1) fun b hb e => by cases e; omega)
end Go.Proofs.Ytijmjliijjkcbaa
