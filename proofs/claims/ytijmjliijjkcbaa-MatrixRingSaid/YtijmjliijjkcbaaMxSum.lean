/- The sum of two vectors, in the program and in the reference. -/
import Derived.Test.YtijmjliijjkcbaaMxC
import Derived.Deep.AppendLies
import Derived.Deep.RegionLaw
namespace Go.Proofs.Ytijmjliijjkcbaa
set_option linter.unusedVariables false
open Go.RowKit
attribute [local go_sem ↓] Go.wp_at_zero Go.wp_at_succ

/-- What lies behind the first element. -/
theorem ints_tail {P : Program} {T E : TypeId} {i : TypeInfo} (hT : P.underlying T = some (.slice E)) (hi : P.info? E = some i) (h1 : i.size = 1) {S : Nat → Prop} {w : World} {a : Option Addr} {cap : Nat} {x : Int} {l : List Int} (h : Ints S w (.slice a (l.length + 1) cap) (x :: l)) :
    ∃ a' cap', (∀ W : World, (Instr.slice T (.slice a (l.length + 1) cap) (some (.int .i64 1)) none none).run P W = .ok (.slice a' l.length cap') W) ∧ Ints S w (.slice a' l.length cap') l := by
  obtain ⟨a0, cap0, e, had, hl, hm, hc, hf⟩ := h
  simp only [List.length_cons, Value.slice.injEq, true_and] at e
  obtain ⟨rfl, rfl⟩ := e
  simp only [List.length_cons] at hl had hc
  have hE : P.elem T = E := by simp [Program.elem, hT]
  rcases had with ⟨h0, _⟩ | ⟨b, off, rfl, hb, hs⟩
  · omega
  refine ⟨if cap = 1 then some ⟨b, off, none⟩ else some ⟨b, off + 1, none⟩, cap - 1, fun W => ?_, ?_⟩
  · rw [run_slice_l (w := W) T _ _ _ (by rw [hE]; exact hT) .i64 1 (by omega) (by omega), hE]
    simp [sizeOf, typeInfo, hi, h1, Result.andThen, sliced, Addr.add]
  · refine ⟨_, _, rfl, ?_, by omega, by omega, fun j hj => ?_, fun y hy => hf y (by simp [hy])⟩
    · split
      · exact .inr ⟨b, off, rfl, hb, hs⟩
      · exact .inr ⟨b, off + 1, rfl, hb, hs⟩
    · rw [if_neg (by omega)]
      have := hc (j + 1) (by omega)
      rw [adr_add] at this
      rw [adr_add, show off + 1 + j = off + (j + 1) by omega, this]
      rfl
theorem ints_head {S : Nat → Prop} {w : World} {a : Option Addr} {n cap : Nat} {x : Int} {l : List Int} (h : Ints S w (.slice a n cap) (x :: l)) {wr : World} (hb : Below w.heap.size w wr) : wr.cell? (adr a 0) = some (.int .i64 x) := by
  obtain ⟨a0, cap0, e, had, hl, hm, hc, hf⟩ := h
  simp only [List.length_cons, Value.slice.injEq] at e
  obtain ⟨rfl, rfl, rfl⟩ := e
  exact (had.cell (.of_ext hb) (by simp)).trans (hc 0 (by simp))
theorem ints_ad {S : Nat → Prop} {w : World} {a : Option Addr} {n cap : Nat} {l : List Int} (h : Ints S w (.slice a n cap) l) : Ad S w a l.length cap := by
  obtain ⟨a0, cap0, e, had, hl, hm, hc, hf⟩ := h
  simp only [Value.slice.injEq] at e
  obtain ⟨rfl, rfl, rfl⟩ := e
  exact had
def lenOf : Value → Nat | .slice _ n _ => n | _ => 0

/-- What the sum's loop keeps. -/
structure SumRel (w : World) (a b : List Int) (l m acc : List Int) (va vb vo : Value) (wr : World) : Prop where
  bel : Below w.heap.size w wr
  ia : Ints (fun _ => True) w va l
  ib : Ints (fun _ => True) w vb m
  own : wr.ownsRow w.heap.size 3 1 vo acc.length (acc.map (Value.int .i64))
  eq : acc ++ xorL l m = xorL a b
  len : acc.length + l.length + m.length ≤ a.length + b.length
  wf : ∀ x ∈ acc, WF x
theorem Row.idx0 {P : Program} {S : Nat → Prop} {w : World} {T E : TypeId} {i : TypeInfo} (hT : P.underlying T = some (.slice E)) (hi : P.info? E = some i) (h1 : i.size = 1) {a : Option Addr} {n cap : Nat} (h : Ad S w a (n + 1) cap) :
    ∀ W : World, (Instr.indexAt T (.slice a (n + 1) cap) (.int .i64 0)).run P W = .ok (.pointer (some (adr a 0))) W := by
  have := idx_one hT hi h1 h 0 (by omega)
  simpa using this
theorem cell_ext {w w' : World} {p : Addr} {u : Value} (h : w.cell? p = some u) (hb : Below w.heap.size w w') : w'.cell? p = some u := (hb.cell (World.block_lt_of_cell? w _ h)).trans h
theorem SumRel.skip0 {w wr w6 : World} {a b l m acc : List Int} {va vb vo : Value} (h : SumRel w a b l m acc va vb vo wr) (hb : Below wr.heap.size wr w6) : SumRel w a b l m acc va vb vo w6 :=
  ⟨ext_trans h.bel hb, h.ia, h.ib, owns_ext h.own hb, h.eq, h.len, h.wf⟩
theorem SumRel.first {w wr : World} {a b l m acc : List Int} {va vb vo vo' va' : Value} {x y : Int} {w6 W2 : World} (h : SumRel w a b (x :: l) (y :: m) acc va vb vo wr) (h2 : Below wr.heap.size wr W2) (hlt : x < y) (ht : Ints (fun _ => True) w va' l) (wx : WF x)
    (hown : w6.ownsRow w.heap.size 3 1 vo' (acc.length + 1) (acc.map (Value.int .i64) ++ [.int .i64 x])) (hg : W2.grownBy w6 vo.ownBlock) : SumRel w a b l (y :: m) (acc ++ [x]) va' vb vo' w6 := by
  refine ⟨((ext_trans h.bel h2).grown hg (by have := h.bel.size; have := h2.size; omega) (fun k hk => (h.own.lt k hk).1)), ht, h.ib, by simpa using hown, ?_, ?_, ?_⟩
  · rw [← h.eq, xorL_cons, if_pos hlt]; simp
  · have := h.len; simp at this ⊢; omega
  · intro z hz
    rcases List.mem_append.1 hz with h1 | h1
    · exact h.wf z h1
    · rw [List.mem_singleton.1 h1]; exact wx
theorem SumRel.second {w wr : World} {a b l m acc : List Int} {va vb vo vo' vb' : Value} {x y : Int} {w6 W2 : World} (h : SumRel w a b (x :: l) (y :: m) acc va vb vo wr) (h2 : Below wr.heap.size wr W2) (hlt : y < x) (ht : Ints (fun _ => True) w vb' m) (wy : WF y)
    (hown : w6.ownsRow w.heap.size 3 1 vo' (acc.length + 1) (acc.map (Value.int .i64) ++ [.int .i64 y])) (hg : W2.grownBy w6 vo.ownBlock) : SumRel w a b (x :: l) m (acc ++ [y]) va vb' vo' w6 := by
  refine ⟨((ext_trans h.bel h2).grown hg (by have := h.bel.size; have := h2.size; omega) (fun k hk => (h.own.lt k hk).1)), h.ia, ht, by simpa using hown, ?_, ?_, ?_⟩
  · rw [← h.eq, xorL_cons, if_neg (by omega), if_pos hlt]; simp
  · have := h.len; simp at this ⊢; omega
  · intro z hz
    rcases List.mem_append.1 hz with h1 | h1
    · exact h.wf z h1
    · rw [List.mem_singleton.1 h1]; exact wy
theorem SumRel.skip {w wr w6 : World} {a b l m acc : List Int} {va vb vo va' vb' : Value} {x y : Int} (h : SumRel w a b (x :: l) (y :: m) acc va vb vo wr) (heq : x = y) (ht : Ints (fun _ => True) w va' l) (ht2 : Ints (fun _ => True) w vb' m) (hb : Below wr.heap.size wr w6) : SumRel w a b l m acc va' vb' vo w6 := by
  refine ⟨ext_trans h.bel hb, ht, ht2, owns_ext h.own hb, ?_, ?_, h.wf⟩
  · rw [← h.eq, xorL_cons, if_neg (by omega), if_neg (by omega)]
  · have := h.len; simp at this ⊢; omega

theorem xorL_nil_of {l m : List Int} (h : l = [] ∨ m = []) : xorL l m = l ++ m := by
  rcases h with rfl | rfl
  · rw [xorL_nil_left]; rfl
  · rw [xorL_nil_right]; simp
theorem SumRel.fin {w wr W : World} {a b l m acc : List Int} {va vb vo v : Value} (h : SumRel w a b l m acc va vb vo wr) (hn : xorL l m = l ++ m)
    (ho : W.ownsRow w.heap.size 3 1 v (acc.length + l.length + m.length) ((acc.map (Value.int .i64) ++ l.map (Value.int .i64)) ++ m.map (Value.int .i64))) : Ints (fun b => w.heap.size ≤ b) W v (xorL a b) := by
  rw [← h.eq, hn]
  refine Ints.of_own (e := 3) (n := acc.length + l.length + m.length) (by simpa using ho) fun x hx => ?_
  rcases List.mem_append.1 hx with hx | hx
  · exact h.wf x hx
  · rcases List.mem_append.1 hx with hx | hx
    · exact h.ia.wf x hx
    · exact h.ib.wf x hx
theorem ints_cells {S : Nat → Prop} {w W : World} {a : Option Addr} {n cap : Nat} {l : List Int} (h : Ints S w (.slice a n cap) l) (hb : Below w.heap.size w W) : ∀ j, j < l.length → W.cell? (adr a j) = some ((l.map (Value.int .i64)).getD j undef) := by
  obtain ⟨a0, cap0, e, had, hl, hm, hc, hf⟩ := h
  simp only [Value.slice.injEq] at e
  obtain ⟨rfl, rfl, rfl⟩ := e
  intro j hj
  rw [(had.cell (.of_ext hb) hj).trans (hc j hj)]
  simp [nth_eq hj, hj]
theorem oneCell_ints (l : List Int) : ∀ u ∈ l.map (Value.int .i64), u.oneCell' = true := by
  intro u hu
  obtain ⟨x, _, rfl⟩ := List.mem_map.1 hu
  rfl

set_option maxRecDepth 100000 in
set_option maxHeartbeats 4000000 in
theorem sum_calls {S S' : Nat → Prop} {w : World} {va vb : Value} {a b : List Int} (ha : Ints S w va a) (hb : Ints S' w vb b) (hn : a.length + b.length ≤ 1000000) :
    Calls Try.prog 58 #[va, vb] w (Post w fun w' r => Ints (fun b => w.heap.size ≤ b) w' r (xorL a b)) := by
  have hwa := ha.wf
  have hwb := hb.wf
  have ha0 := ha.all
  have hb0 := hb.all
  obtain ⟨aa, ca, rfl, _, _, _⟩ := ha.form
  obtain ⟨ab, cb, rfl, _, _, _⟩ := hb.form
  obtain ⟨i0, hi, hz0, hz1, hz2⟩ := info_parts info_int
  have HT := Lib.hid (fun a cap x l => @ints_tail Try.prog 38 3 i0 Try.underlying38 hi hz1 (fun _ => True) w a cap x l)
  have HI := Lib.hid (fun a n cap => @Row.idx0 Try.prog (fun _ => True) w 38 3 i0 Try.underlying38 hi hz1 a n cap)
  have HZ := Lib.hid (show i0.bytes * (a.length + b.length) ≤ 281474976710656 by rw [hz2]; omega)
  go_enter Try.func58, Try.ntmps58
  go_wp2_with (at_make; refine wpList_make_own _ rfl _ _ 38 rfl w.heap.size 3 i0 (.int .i64 0) 1 Try.underlying38 hi hz0 hz1 .i64 .i64 _ (a.length + b.length) rfl rfl (by simp) HZ.out (by unfold maxLen; omega) (Nat.le_refl _) ?_; intro w1 hown1 hgrow1)
  have hs : SumRel w a b a b [] (.slice aa a.length ca) (.slice ab b.length cb) (.slice (some ⟨w.heap.size, 0, none⟩) 0 (a.length + b.length)) w1 :=
    ⟨(Below.refl _ _).grown hgrow1 (Nat.le_refl _) (fun k hk => by cases hk), ha0, hb0, hown1, rfl, by simp, by simp⟩
  have HX : Hid (xorL a b = xorL a b) := Lib.hid rfl
  go_loopw [0, 1, 5] (fun va vb vo wr => ∃ l m acc, SumRel w a b l m acc va vb vo wr) (fun va vb _ _ => lenOf va + lenOf vb)
  case atStart => exact ⟨_, _, _, hs⟩
  case round =>
    obtain ⟨l, m, acc, hR⟩ := hrel
    have hia := hR.ia
    have hib := hR.ib
    have hbel := hR.bel
    have hlen := hR.len
    obtain ⟨a1, c1, rfl, ad1, lc1, lm1⟩ := hia.form
    obtain ⟨a2, c2, rfl, ad2, lc2, lm2⟩ := hib.form
    by_cases hl0 : 0 < l.length
    · by_cases hm0 : 0 < m.length
      · obtain ⟨x, l, rfl⟩ : ∃ x l', l = x :: l' := by cases l with | nil => simp at hl0 | cons x l => exact ⟨x, l, rfl⟩
        obtain ⟨y, m, rfl⟩ : ∃ x l', m = x :: l' := by cases m with | nil => simp at hm0 | cons x l => exact ⟨x, l, rfl⟩
        obtain ⟨a1', c1', ht1, hi1⟩ := HT.out _ _ _ _ hia
        obtain ⟨a2', c2', ht2, hi2⟩ := HT.out _ _ _ _ hib
        have q1 := HI.out _ _ _ ad1
        have q2 := HI.out _ _ _ ad2
        have p1 := ints_head hia hbel
        have p2 := ints_head hib hbel
        have wx := hia.wf x (by simp)
        have wy := hib.wf y (by simp)
        simp only [List.length_cons] at hR hlen lc1 lc2 q1 q2 ⊢
        have hR := Lib.hid hR
        unfold maxLen at lm1 lm2
        have n1 : (0 : Int) < (l.length : Int) + 1 := by omega
        have n2 : (0 : Int) < (m.length : Int) + 1 := by omega
        clear hia hib ad1 ad2 lc1 lc2 hl0 hm0
        by_cases h1 : x < y
        · go_wp2
          go_quiet (fail)
          obtain ⟨w2, hw2⟩ : ∃ wz, wz = wr.drewN nq := ⟨_, rfl⟩
          rw [← hw2]
          have hb2 : Below wr.heap.size wr w2 := by rw [hw2]; exact drewN_below _ _ _
          have hR := Lib.hid (hR.out.skip0 hb2)
          have p1 := cell_ext p1 hb2
          have p2 := cell_ext p2 hb2
          clear hw2 hb2
          go_wp2
          have hR2 := hR
          have OWN := Lib.hid hR2.out.own
          have hbs := hR2.out.bel.size
          have B1 := Lib.hid (show acc.length + 1 ≤ maxLen by unfold maxLen; omega)
          have B2 := Lib.hid (show (acc.length + 1) * 8 ≤ 140737488355328 by omega)
          go_region_law
            (refine step_append_lies _ (by rfl) _ _ _ (by rfl) w.heap.size 3 i0 _ 1 8 Try.underlying38 hi hz0 hz1 hz2 rfl (by decide) u5 acc.length (acc.map (Value.int .i64)) (by rfl) (by first | exact OWN.out.alloc _ | exact (OWN.out.alloc _).drew) ⟨w2.heap.size, 0, none⟩ 1 1 [.int .i64 x] (by rfl) (by rfl)
              (World.news_of_block (cs := #[.int .i64 x]) (t := 3) (fr := (0, 0)) (heap_alloc_new w2 _)) (by simp [Value.oneCell']) (by decide) B1.out B2.out (by simp; omega) (w2.heap.size + 1) (by simp) ?_; intro g6 cp6 w6 hown6 hgrow6 hat6 hlt6)
          all_goals
            have hR3 := Lib.hid (hR2.out.first (by first | exact ext_alloc _ _ | exact (ext_alloc _ _).drew) h1 hi1 wx hown6 hgrow6)
            simp only [Act.put, List.getElem_toArray, List.getElem_cons_succ, List.getElem_cons_zero, List.setIfInBounds_toArray, List.set_cons_succ, List.set_cons_zero]
            go_wp2
            go_roundw
            case rel => exact ⟨_, _, _, hR3.out⟩
            case measure => simp [lenOf]

        by_cases h2 : y < x
        · go_wp2
          go_quiet (fail)
          obtain ⟨w1, hw1⟩ : ∃ wz, wz = wr.drewN nq := ⟨_, rfl⟩
          rw [← hw1]
          have hb1 : Below wr.heap.size wr w1 := by rw [hw1]; exact drewN_below _ _ _
          have hR := Lib.hid (hR.out.skip0 hb1)
          have p1 := cell_ext p1 hb1
          have p2 := cell_ext p2 hb1
          clear hw1 hb1
          go_wp2
          go_quiet (fail)
          obtain ⟨w2, hw2⟩ : ∃ wz, wz = w1.drewN nq := ⟨_, rfl⟩
          rw [← hw2]
          have hb2 : Below w1.heap.size w1 w2 := by rw [hw2]; exact drewN_below _ _ _
          have hR := Lib.hid (hR.out.skip0 hb2)
          have p1 := cell_ext p1 hb2
          have p2 := cell_ext p2 hb2
          clear hw2 hb2
          go_wp2
          have hR2 := hR
          have OWN := Lib.hid hR2.out.own
          have hbs := hR2.out.bel.size
          have B1 := Lib.hid (show acc.length + 1 ≤ maxLen by unfold maxLen; omega)
          have B2 := Lib.hid (show (acc.length + 1) * 8 ≤ 140737488355328 by omega)
          go_region_law
            (refine step_append_lies _ (by rfl) _ _ _ (by rfl) w.heap.size 3 i0 _ 1 8 Try.underlying38 hi hz0 hz1 hz2 rfl (by decide) u5 acc.length (acc.map (Value.int .i64)) (by rfl) (by first | exact OWN.out.alloc _ | exact (OWN.out.alloc _).drew) ⟨w2.heap.size, 0, none⟩ 1 1 [.int .i64 y] (by rfl) (by rfl)
              (World.news_of_block (cs := #[.int .i64 y]) (t := 3) (fr := (0, 0)) (heap_alloc_new w2 _)) (by simp [Value.oneCell']) (by decide) B1.out B2.out (by simp; omega) (w2.heap.size + 1) (by simp) ?_; intro g6 cp6 w6 hown6 hgrow6 hat6 hlt6)
          all_goals
            have hR3 := Lib.hid (hR2.out.second (by first | exact ext_alloc _ _ | exact (ext_alloc _ _).drew) h2 hi2 wy hown6 hgrow6)
            simp only [Act.put, List.getElem_toArray, List.getElem_cons_succ, List.getElem_cons_zero, List.setIfInBounds_toArray, List.set_cons_succ, List.set_cons_zero]
            go_wp2
            go_roundw
            case rel => exact ⟨_, _, _, hR3.out⟩
            case measure => simp [lenOf]

        · have HXY : Hid (x = y) := Lib.hid (by omega)
          go_wp2
          go_quiet (fail)
          obtain ⟨w1, hw1⟩ : ∃ wz, wz = wr.drewN nq := ⟨_, rfl⟩
          rw [← hw1]
          have hb1 : Below wr.heap.size wr w1 := by rw [hw1]; exact drewN_below _ _ _
          have hR := Lib.hid (hR.out.skip0 hb1)
          have p1 := cell_ext p1 hb1
          have p2 := cell_ext p2 hb1
          clear hw1 hb1
          go_wp2
          go_quiet (fail)
          obtain ⟨w2, hw2⟩ : ∃ wz, wz = w1.drewN nq := ⟨_, rfl⟩
          rw [← hw2]
          have hb2 : Below w1.heap.size w1 w2 := by rw [hw2]; exact drewN_below _ _ _
          have hR := Lib.hid (hR.out.skip0 hb2)
          have p1 := cell_ext p1 hb2
          have p2 := cell_ext p2 hb2
          clear hw2 hb2
          go_wp2
          go_quiet (fail)
          obtain ⟨w3, hw3⟩ : ∃ wz, wz = w2.drewN nq := ⟨_, rfl⟩
          rw [← hw3]
          have hb3 : Below w2.heap.size w2 w3 := by rw [hw3]; exact drewN_below _ _ _
          have hR := Lib.hid (hR.out.skip0 hb3)
          have p1 := cell_ext p1 hb3
          have p2 := cell_ext p2 hb3
          clear hw3 hb3
          go_wp2
          go_roundw
          case rel => exact ⟨_, _, _, hR.out.skip HXY.out hi1 hi2 (.refl _ _)⟩
          case measure => simp [lenOf]; omega
      have HE : Hid (l = [] ∨ m = []) := Lib.hid (.inr (List.length_eq_zero_iff.1 (by omega)))
      have HN := Lib.hid (xorL_nil_of HE.out)
      have hfin := fun (W : World) (v : Value) (h1 : W.ownsRow w.heap.size 3 1 v (acc.length + l.length + m.length) ((acc.map (Value.int .i64) ++ l.map (Value.int .i64)) ++ m.map (Value.int .i64))) => hR.fin HN.out h1
      have hfin := Lib.hid hfin
      have OWN := Lib.hid hR.own
      have hws := hbel.size
      have B1 := Lib.hid (show (acc.length + l.length) * 8 ≤ 140737488355328 by omega)
      have B2 := Lib.hid (show (acc.length + l.length + m.length) * 8 ≤ 140737488355328 by omega)
      have HA := Lib.hid hia
      have HB := Lib.hid hib
      have HBEL := Lib.hid hbel
      clear hia hib hbel hR ad1 ad2
      go_wp2_with (first
        | (at_builtin; refine wpList_appendAll rfl (.tmp 56) (.tmp 57) 38 rfl 3 _ 8 Try.underlying38 info_int rfl w.heap.size _ _ _ rfl OWN.out (fun _ => True) _ _ _ (l.map (Value.int .i64)) rfl ((ints_ad HA.out).agree (.of_ext HBEL.out)) (by simp) (ints_cells HA.out HBEL.out) (oneCell_ints l) B1.out (by omega) hws ?_; intro v3 w3 hown3 hb3 hag3 hv3; have HB3 := Lib.hid (HBEL.out.trans hb3); have OWN3 := Lib.hid hown3; have hws3 := HB3.out.size; clear hown3 hb3 hag3 hv3)
        | (at_builtin; refine wpList_appendAll rfl (.tmp 58) (.tmp 59) 38 rfl 3 _ 8 Try.underlying38 info_int rfl w.heap.size _ _ _ rfl OWN3.out (fun _ => True) _ _ _ (m.map (Value.int .i64)) rfl ((ints_ad HB.out).agree (.of_ext HB3.out)) (by simp) (ints_cells HB.out HB3.out) (oneCell_ints m) B2.out (by omega) hws3 ?_; intro v4 w4 hown4 hb4 hag4 hv4; have HB4 := Lib.hid (HB3.out.trans hb4); have OWN4 := Lib.hid hown4; clear hown4 hb4 hag4 hv4))
      go_ret
      exact .mk HB4.out (hfin.out _ _ OWN4.out)

    have HE : Hid (l = [] ∨ m = []) := Lib.hid (.inl (List.length_eq_zero_iff.1 (by omega)))
    have HN := Lib.hid (xorL_nil_of HE.out)
    have hfin := fun (W : World) (v : Value) (h1 : W.ownsRow w.heap.size 3 1 v (acc.length + l.length + m.length) ((acc.map (Value.int .i64) ++ l.map (Value.int .i64)) ++ m.map (Value.int .i64))) => hR.fin HN.out h1
    have hfin := Lib.hid hfin
    have OWN := Lib.hid hR.own
    have hws := hbel.size
    have B1 := Lib.hid (show (acc.length + l.length) * 8 ≤ 140737488355328 by omega)
    have B2 := Lib.hid (show (acc.length + l.length + m.length) * 8 ≤ 140737488355328 by omega)
    have HA := Lib.hid hia
    have HB := Lib.hid hib
    have HBEL := Lib.hid hbel
    clear hia hib hbel hR ad1 ad2
    go_wp2_with (first
      | (at_builtin; refine wpList_appendAll rfl (.tmp 56) (.tmp 57) 38 rfl 3 _ 8 Try.underlying38 info_int rfl w.heap.size _ _ _ rfl OWN.out (fun _ => True) _ _ _ (l.map (Value.int .i64)) rfl ((ints_ad HA.out).agree (.of_ext HBEL.out)) (by simp) (ints_cells HA.out HBEL.out) (oneCell_ints l) B1.out (by omega) hws ?_; intro v3 w3 hown3 hb3 hag3 hv3; have HB3 := Lib.hid (HBEL.out.trans hb3); have OWN3 := Lib.hid hown3; have hws3 := HB3.out.size; clear hown3 hb3 hag3 hv3)
      | (at_builtin; refine wpList_appendAll rfl (.tmp 58) (.tmp 59) 38 rfl 3 _ 8 Try.underlying38 info_int rfl w.heap.size _ _ _ rfl OWN3.out (fun _ => True) _ _ _ (m.map (Value.int .i64)) rfl ((ints_ad HB.out).agree (.of_ext HB3.out)) (by simp) (ints_cells HB.out HB3.out) (oneCell_ints m) B2.out (by omega) hws3 ?_; intro v4 w4 hown4 hb4 hag4 hv4; have HB4 := Lib.hid (HB3.out.trans hb4); have OWN4 := Lib.hid hown4; clear hown4 hb4 hag4 hv4))
    go_ret
    exact .mk HB4.out (hfin.out _ _ OWN4.out)

end Go.Proofs.Ytijmjliijjkcbaa
