/- A range over a function whose rounds hand over values that read as something in the round's world: the body never leaves the loop. -/
import Derived.Test.YtmlgbaogkbfklaaDoorBase
import Derived.RangeFuncNested
import Derived.RangeFuncBound
import Derived.RangeFuncCalls
import Derived.RangeFuncLeaves
import Derived.Shelf.Abstract
import Derived.Shelf.RegionOpen
import Derived.OwnWalkIn
import Derived.TacticsInMore
import Derived.LoopNIn
import Derived.LoopIn
namespace Go.Proofs.YtmlgbaogkbfklaaDoor
set_option linter.unusedVariables false
open Go.RowKit Go.Shelf

/-- What an iterator does at one yield, for a caller that keeps J between rounds: it is asked only at values of which Rd holds. -/
def Gives {α : Type} (F : Fence) (n : Nat) (P : Program) (gf : Nat) (lb : Array Value) (encs : α → Array Value) (Rd : α → Nat → World → Prop) (Kp : World → World → Prop) (S : List α → Prop) (N : Nat) (w : World) : Prop :=
  ∀ (l : Nat) (J : List α → Nat → World → Prop) (W : World), Below w.heap.size w W → (∀ s b A B, J s b A → Below A.heap.size A B → J s b B) →
    (∀ pre x b W1, J pre b W1 → pre.length < N → b ≤ W1.heap.size → Rd x b W1 → YieldAt F (n - 1) P l (encs x) W1 fun e W' => e = .returned (.bool true) ∧ J (pre ++ [x]) W'.heap.size W' ∧ Kp W1 W') →
    J [] W.heap.size W →
    CallsIn F n P gf (#[.func (.yield l) #[] #[]] ++ lb) W fun e W' => (∃ v, e = .returned v) ∧ ∃ xs b, S xs ∧ J xs b W'

/-- How a body that goes on ends. -/
def goesOn {α : Type} (B : Nat) (Kp : World → World → Prop) (I : List α → Nat → World → Prop) (xs : List α) (W : World) : Exit → Act → World → Prop
  | .normal, _, W' => KeepsFrom B W W' ∧ Kp W W' ∧ I xs W'.heap.size W'
  | _, _, _ => False

theorem rangeFunc_rd {F : Fence} {n : Nat} {P : Program} {α : Type} {g : Operand} {ps : Array Tmp} {assign body : Code} {Q : Exit → Act → World → Prop} {a : Act} {w : World}
    (hro : F.round = none) (h1 : 1 ≤ n) {gf : Nat} {lb : Array Value} (hg : a.eval g = .func (.func gf) #[] lb) (hFg : F.fn gf) (eg : ∀ args w, (callFunc gf args).run P w = .ok (.enter gf args) w)
    {encs : α → Array Value} {Rd : α → Nat → World → Prop} {Kp : World → World → Prop} {S : List α → Prop} {N : Nat}
    (hseq : Gives F (n - 1) P gf lb encs Rd Kp S N w)
    (hKt : ∀ {A B C : World}, Kp A B → Kp B C → Kp A C) (hKb : ∀ (W : World) (l : Nat) (o o' : Obj), w.heap.size ≤ l → W.heap[l]? = some o → o.isCells = false → o.isWalk = false → Kp W (W.putObj l o')) (hps : ∀ x, (encs x).size = ps.size)
    (I : List α → Nat → World → Prop) (hI : ∀ s b A B, I s b A → Below A.heap.size A B → I s b B) (hIp : ∀ s b A l o o', I s b A → w.heap.size ≤ l → A.heap[l]? = some o → o.isCells = false → I s b (A.putObj l o'))
    (hRp : ∀ x b A l o o', Rd x b A → w.heap.size ≤ l → A.heap[l]? = some o → o.isCells = false → Rd x b (A.putObj l o')) (h0 : ∀ b, w.heap.size ≤ b → I [] b w) (a₁ : α → Act)
    (hassign : ∀ (l : Nat) (x : α) (W : World) (K : Act → World → Prop), K (a₁ x) W →
      assign.wpIn (F.inRound l) (n - 1 - 1) P (Exit.then K (fun _ _ _ => False)) { tmps := (ps.zip (encs x)).foldl (fun t (p, v) => t.setIfInBounds p v) a.tmps, defers := [] } W)
    (hbody : ∀ (l : Nat) (pre : List α) (x : α) (b : Nat) (W : World), I pre b W → pre.length < N → b ≤ W.heap.size → Rd x b W → body.wpIn (F.inRound l) (n - 1 - 1) P (goesOn w.heap.size Kp I (pre ++ [x]) W) (a₁ x) W)
    (hdone : ∀ (D : Nat) (xs : List α) (b : Nat) (W : World), w.heap.size ≤ D → S xs → I xs b W → W.heap[D]? = some (.deferred (some [])) → Q .normal { a with defers := { target := .collected D, args := #[] } :: a.defers } W) :
    (Code.rangeFunc g ps assign body).wpIn F n P Q a w := by
  refine wpIn_rangeFunc fun fn hfn => ?_
  rw [hro]
  -- the record and the block of deferred calls lie at the heap's end
  obtain ⟨D, hD⟩ : ∃ D, D = w.heap.size := ⟨_, rfl⟩
  obtain ⟨mk, hmk⟩ : ∃ mk : LoopState → Loop, mk = fun st => { state := st, pending := none, fn := fn, tmps := a.tmps, params := ps, assign := assign, body := body, defers := D } := ⟨_, rfl⟩
  obtain ⟨U, hU⟩ : ∃ U, U = (w.alloc (.deferred (some []))).alloc (.loop (mk .ready)) := ⟨_, rfl⟩
  have bU : Below w.heap.size w U := by rw [hU]; exact ((Below.refl _ w).alloc (Nat.le_refl _) _).alloc (by simp) _
  have lU : U.heap[D + 1]? = some (.loop (mk .ready)) := by
    rw [hU, hD]
    have := World.alloc_heap_new (w.alloc (.deferred (some []))) (.loop (mk .ready))
    rwa [World.size_alloc] at this
  have dU : U.heap[D]? = some (.deferred (some [])) := by
    rw [hU, hD]
    exact (Below.heap_alloc _ _ _ (by simp)).trans (World.alloc_heap_new w _)
  have sU : D + 1 < U.heap.size := (Array.getElem?_eq_some_iff.1 lU).1
  have hen := run_enterLoop_outer (P := P) (w := w) fn a.tmps ps assign body
  rw [← hD, show ({ state := .ready, pending := none, fn, tmps := a.tmps, params := ps, assign, body, defers := D } : Loop) = mk .ready from by rw [hmk], ← hU] at hen
  refine ⟨D + 1, _, U, { target := .fn (.func gf) lb, args := #[.func (.yield (D + 1)) #[] #[]] }, U, gf, #[.func (.yield (D + 1)) #[] #[]] ++ lb, U, hen, ?_, ?_, ?_, fun _ => h1, ?_⟩
  · simp only [resolve, hg]
    simp [go_sem]
  · intro f hf
    simp [Target.leads] at hf
    exact hf ▸ hFg
  · simp [invoke, go_sem, eg]
  -- what is kept between rounds, with the record ready
  have KEEPJ : ∀ s b A B, (I s b A ∧ A.heap[D + 1]? = some (.loop (mk .ready)) ∧ A.heap[D]? = some (.deferred (some []))) → Below A.heap.size A B → (I s b B ∧ B.heap[D + 1]? = some (.loop (mk .ready)) ∧ B.heap[D]? = some (.deferred (some []))) := by
    intro s b A B h hb
    exact ⟨hI s b A B h.1 hb, (hb.block _ (Array.getElem?_eq_some_iff.1 h.2.1).1).trans h.2.1, (hb.block _ (Array.getElem?_eq_some_iff.1 h.2.2).1).trans h.2.2⟩
  refine (hseq (D + 1) (fun pre b W => I pre b W ∧ W.heap[D + 1]? = some (.loop (mk .ready)) ∧ W.heap[D]? = some (.deferred (some []))) U bU KEEPJ ?_ ⟨hI _ _ _ _ (h0 _ bU.size) bU, lU, dU⟩).mono ?_
  · rintro pre x b W ⟨hi, hl, hd⟩ hlen hb hx
    have hlt := (Array.getElem?_eq_some_iff.1 hl).1
    have hy := run_yield (P := P) (args := encs x) hl (by rw [hmk]; exact hps x)
    have hbeg := run_beginRound (P := P) hl (by rw [hmk])
    refine ⟨fn, (ps.zip (encs x)).foldl (fun t (p, v) => t.setIfInBounds p v) a.tmps, assign, body, by rw [hmk] at hy; rw [hy], roundIn_of_wpIn hfn (hassign _ x W _ ⟨_, hbeg, ?_⟩)⟩
    obtain ⟨bz, hbz⟩ : ∃ bz, bz = Obj.loop { mk .ready with state := .busy } := ⟨_, rfl⟩
    rw [← hbz]
    have l2 : (W.putObj (D + 1) bz).heap[D + 1]? = some bz := World.putObj_heap_same hlt
    have d2 : (W.putObj (D + 1) bz).heap[D]? = some (.deferred (some [])) := (World.putObj_heap_other (by omega)).trans hd
    have k2 : Kp W (W.putObj (D + 1) bz) := hKb _ _ _ _ (by omega) hl rfl rfl
    refine wpIn_mono (hbody _ pre x b _ (hIp _ _ _ _ _ _ hi (by omega) hl rfl) hlen (by rw [World.putObj_size]; exact hb) (hRp _ _ _ _ _ _ hx (by omega) hl rfl)) ?_
    rintro e a3 W3 hp
    cases e with
    | normal =>
      obtain ⟨hk3, hkp, hi3⟩ := hp
      have l3 := hk3.same _ _ (by omega) l2 (by rw [hbz]; rfl)
      have d3 := hk3.same _ _ (by omega) d2 rfl
      rw [hbz] at l3
      have hr := run_endRound (P := P) none l3
      have hlt3 := (Array.getElem?_eq_some_iff.1 l3).1
      refine ⟨_, _, hr, rfl, ⟨by rw [World.putObj_size]; exact hIp _ _ _ _ _ _ hi3 (by omega) l3 rfl, ?_, (World.putObj_heap_other (by omega)).trans d3⟩, hKt (hKt k2 hkp) (hKb _ _ _ _ (by omega) l3 rfl rfl)⟩
      rw [World.putObj_heap_same hlt3, hmk]
      rfl
    | _ => exact hp.elim
  · rintro e W2 ⟨⟨v, rfl⟩, xs, b, hS, hi, hl, hd⟩
    have hr := run_endLoop (P := P) hl (by rw [hmk]; simp)
    refine ⟨none, _, by rw [hr, hmk], ?_⟩
    have := hdone D xs b (W2.putObj (D + 1) (.loop { mk .ready with state := .exhausted })) (by omega) hS (hIp _ _ _ _ _ _ hi (by omega) hl rfl) ((World.putObj_heap_other (by omega)).trans hd)
    rw [hmk] at this
    exact this

/-- 'out = append(out, u)' in a fenced walk, u one cell wide, out a slice of the call's own. -/
theorem wpListIn_push {F : Fence} {nf : Nat} {P : Program} {w : World} {ops : Array Oper} {rest : List Oper} {o : Oper} {a : Act} {Q : Exit → Act → World → Prop} (hgd : o.guard = none) (s x : Operand) (t : TypeId)
    (ho : o.op = .call { callee := .builtin .append, args := #[s, x], argTypes := #[t, t] }) (e : TypeId) (z : Value) (bytes : Nat) (ht : P.underlying t = some (.slice e))
    (hinfo : (P.info? e).map (fun i => (i.zero, i.size, i.bytes)) = some (some z, 1, bytes)) (hz1 : z.cells.size = 1) (base : Nat) (v : Value) (n : Nat) (xs : List Value) (hs : a.eval s = v) (hown : w.ownsRow base e 1 v n xs)
    (u : Value) (hx : a.eval x = .slice (some ⟨w.heap.size, 0, none⟩) 1 1) (h1 : u.oneCell' = true) (hbytes : (n + 1) * bytes ≤ 140737488355328) (hn : n < 9223372036854775807) (hbase : base ≤ w.heap.size)
    (h : ∀ g' c' w', w'.ownsRow base e 1 (.slice (some ⟨g', 0, none⟩) (n + 1) c') (n + 1) (xs ++ [u]) → (w.alloc (.cells #[u] e)).grownBy w' v.ownBlock → (v.ownBlock = some g' ∨ w.heap.size ≤ g') → wpListIn F nf P ops Q rest (a.put o.dst (.slice (some ⟨g', 0, none⟩) (n + 1) c')) w') :
    wpListIn F nf P ops Q (o :: rest) a (w.alloc (.cells #[u] e)) := by
  obtain ⟨i, hi, hz, hz2, hz3⟩ := info_parts hinfo
  refine wpListIn_plain hgd fun K hK' => ?_
  obtain ⟨v', w', hrun, r1, r2, r3⟩ := run_append_own' (P := P) (w.alloc (.cells #[u] e)) base t o.type e i z 1 bytes ht hi hz hz2 hz3 hz1 (by decide) v n xs (hown.alloc _) ⟨w.heap.size, 0, none⟩ 1 1 [u] rfl
    (fun j q hj => by
      cases j with
      | zero => simp at hj; subst hj; rw [Addr.add_lit, World.cell?_alloc_new]; rfl
      | succ j => simp at hj)
    (fun q hq => by rw [List.mem_singleton.1 hq]; exact h1) (by unfold maxLen; omega) hbytes (by simp; omega)
  obtain ⟨g', c', rfl⟩ := owns_pos r1 (by omega)
  unfold Oper.wpIn
  refine ⟨?_, ?_⟩
  · simp [Oper.about, ho, resolve, Target.leads, Sem.run_pure]
  · rw [Oper.semAt_plain F _ _ (by rw [ho]; intro c hc'; cases hc')]
    simp [execOp, ho, resolve, invoke, builtin, hs, hx, hrun, Result.andThen]
    exact hK' _ _ (h g' c' w' r1 r2 ((r3 g' rfl).imp id fun h => by simp at h; omega))
end Go.Proofs.YtmlgbaogkbfklaaDoor
