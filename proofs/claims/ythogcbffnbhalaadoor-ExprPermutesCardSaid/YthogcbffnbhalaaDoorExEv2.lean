/- Values by the program's evaluator. -/
import Derived.Test.YthogcbffnbhalaaDoorExEv1
import Derived.Deep.DrawnRows
namespace Go.Proofs.YthogcbffnbhalaaDoor
set_option linter.unusedVariables false
open Go.RowKit
attribute [local go_sem ↓] Go.wp_at_zero Go.wp_at_succ

/-- The evaluator gives the value. -/
def EvVal (s : Sc) (n h0 h1 h2 h3 h4 : Int) (vars : Int) (e : Ex) : Prop :=
  ∀ (S S1 S2 S3 : Nat → Prop) (W : World) (B : Nat) (v iv ov vv0 vv : Value) (vs : List Int), Env W B n iv ov h0 h1 h2 h3 h4 vv0 → ExprV S W e v → Ints S1 W iv s.inl → Ints S2 W ov s.outl → Ints S3 W vv vs → (vs.length : Int) = vars → (∀ x ∈ vs, small x = true) →
    sizeE e ≤ 1000 → vars + depthE e ≤ 900 → Calls Tryd.prog 45 #[v, vv, .pointer (some ⟨B + 4, 0, none⟩), .pointer (some ⟨B, 0, none⟩), .pointer (some ⟨B + 3, 0, none⟩), .pointer (some ⟨B + 2, 0, none⟩), .pointer (some ⟨B + 1, 0, none⟩)] W (Post W fun _ r => r = .int .i64 (valE s e vs))

theorem Env.cells {W : World} {B : Nat} {n : Int} {iv ov : Value} {h0 h1 h2 h3 h4 : Int} {vv : Value} (h : Env W B n iv ov h0 h1 h2 h3 h4 vv) :
    W.cell? ⟨B + 1, 0, none⟩ = some (.func (.func 42) #[] #[.pointer (some ⟨B, 0, none⟩)]) ∧ W.cell? ⟨B + 2, 0, none⟩ = some (.func (.func 43) #[] #[.pointer (some ⟨B + 1, 0, none⟩)]) ∧ W.cell? ⟨B + 3, 0, none⟩ = some (.func (.func 45) #[] #[.pointer (some ⟨B + 4, 0, none⟩), .pointer (some ⟨B, 0, none⟩), .pointer (some ⟨B + 3, 0, none⟩), .pointer (some ⟨B + 2, 0, none⟩), .pointer (some ⟨B + 1, 0, none⟩)]) ∧ W.cell? ⟨B + 4, 0, none⟩ = some (.func (.func 44) #[] #[.pointer (some ⟨B, 0, none⟩), .pointer (some ⟨B + 3, 0, none⟩)]) :=
  ⟨h.p.cell (j := 0) rfl, h.el.cell (j := 0) rfl, h.ev.cell (j := 0) rfl, h.ct.cell (j := 0) rfl⟩

theorem evVal_num (s : Sc) (n h0 h1 h2 h3 h4 vars m : Int) : EvVal s n h0 h1 h2 h3 h4 vars (numE m) := by
  intro S S1 S2 S3 W B v iv ov vv0 vv vs henv hv hi ho hvv hvl hsm hsz hd
  have HI := hi
  have HO := ho
  have HV := hvv
  obtain ⟨ia, icap, rfl, ai, i1, i2, ci, wi⟩ := hi
  obtain ⟨oa, ocap, rfl, ao, o1, o2, co, wo⟩ := ho
  obtain ⟨va, vcap, rfl, av, v1, v2, cv, wv⟩ := hvv
  unfold maxLen at i2 o2 v2
  clear ci co cv
  obtain ⟨a, cap, rfl⟩ := hv.leaf
  rw [valE_num]
  have ex1 := ext_alloc W (.cells #[.int .i64 0, .int .i64 m, .slice a 0 cap] 24)
  have r1 := row_new W [.int .i64 0, .int .i64 m, .slice a 0 cap] 24
  go_enter Tryd.func45, Tryd.ntmps45
  go_wp2
  go_ret
  exact .mk ex1 (int_eq rfl)

theorem evVal_var (s : Sc) (n h0 h1 h2 h3 h4 vars m : Int) (hm0 : 0 ≤ m) (hm1 : m < vars) : EvVal s n h0 h1 h2 h3 h4 vars (varE m) := by
  intro S S1 S2 S3 W B v iv ov vv0 vv vs henv hv hi ho hvv hvl hsm hsz hd
  have HI := hi
  have HO := ho
  have HV := hvv
  obtain ⟨ia, icap, rfl, ai, i1, i2, ci, wi⟩ := hi
  obtain ⟨oa, ocap, rfl, ao, o1, o2, co, wo⟩ := ho
  obtain ⟨va, vcap, rfl, av, v1, v2, cv, wv⟩ := hvv
  unfold maxLen at i2 o2 v2
  clear ci co
  obtain ⟨a, cap, rfl⟩ := hv.leaf
  rw [valE_var]
  obtain ⟨k, rfl⟩ : ∃ k : Nat, m = k := ⟨m.toNat, by omega⟩
  rw [Int.toNat_natCast]
  have hlt : k < vs.length := by omega
  obtain ⟨i0, hi, hz0, hz1, hz2⟩ := info_parts info_int
  have q := idx_one Tryd.underlying25 hi hz1 av k hlt
  have ex1 := ext_alloc W (.cells #[.int .i64 1, .int .i64 (k : Int), .slice a 0 cap] 24)
  have r1 := row_new W [.int .i64 1, .int .i64 (k : Int), .slice a 0 cap] 24
  have c0 := cells_at av ex1 cv k hlt
  clear cv hvl hi hz0 hz1 hz2
  go_enter Tryd.func45, Tryd.ntmps45
  go_wp2
  go_ret
  exact .mk ex1 (int_eq rfl)

set_option maxRecDepth 100000 in
set_option maxHeartbeats 2000000 in
theorem evVal_quant (s : Sc) (hs : ScOk s) (n h0 h1 h2 h3 h4 vars op : Int) (x : Ex) (hn : s.n = n) (hop : op = 13 ∨ op = 14 ∨ op = 15) (hk : kindOf x.op = argKind op) (hx : Wf (vars + 1) x) (ih : EvVal s n h0 h1 h2 h3 h4 (vars + 1) x) : EvVal s n h0 h1 h2 h3 h4 vars (oneE op x) := by
  intro S S1 S2 S3 W B v iv ov vv0 vv vs henv hv hi ho hvv hvl hsm hsz hd
  have HI := hi
  have HO := ho
  have HV := hvv
  obtain ⟨ia, icap, rfl, ai, i1, i2, ci, wi⟩ := hi
  obtain ⟨oa, ocap, rfl, ao, o1, o2, co, wo⟩ := ho
  obtain ⟨va, vcap, rfl, av, v1, v2, cv, wv⟩ := hvv
  unfold maxLen at i2 o2 v2
  have hn0 := hs.n0
  have hn1 := hs.n1
  rw [hn] at hn0 hn1
  rw [size_one] at hsz
  rw [depth_one] at hd
  have hka : kindOf x.op = 1 := hk.trans (by rcases hop with rfl | rfl | rfl <;> rfl)
  have hf : ∀ p : Nat, (p : Int) < s.n → valE s x (vs ++ [(p : Int)]) = 0 ∨ valE s x (vs ++ [(p : Int)]) = 1 := fun p hp => (val_range hs hx _ (by simp; omega) (snoc_ok hs hp hsm)).2.2 hka
  have hor := ones_range s (by omega) (valE s x) vs hf
  obtain ⟨a, cap, b, off, a', c', rfl, hel⟩ := hv.one
  have HCNT := Lib.hid (fun W' (hW' : Below W.heap.size W W') => evCount_calls (B := B) (n := n) (hel.ex.ext hW') s hs hn ((henv.ext hW').s.cell (j := 0) rfl) (henv.ext hW').cells.2.2.1 (HV.ext hW') (by omega) hf
    (fun W2 vv' p hW2 hp hvp => ih _ _ _ _ W2 B _ _ _ _ vv' (vs ++ [(p : Int)]) ((henv.ext hW').ext hW2) ((hel.ex.ext hW').ext hW2) ((HI.ext hW').ext hW2) ((HO.ext hW').ext hW2) hvp (by simp; omega) (snoc_ok hs (by omega) hsm) (by omega) (by omega)))
  have HN := Lib.hid hn
  clear ci co cv hf hn hvl
  obtain ⟨R, hR⟩ : ∃ R, R = valE s (oneE op x) vs := ⟨_, rfl⟩
  rw [← hR]
  obtain ⟨z, hz⟩ : ∃ z, z = ones s (valE s x) vs := ⟨_, rfl⟩
  rw [← hz] at hor HCNT
  have HZ := Lib.hid hz
  have HR := Lib.hid hR
  clear hz hR
  have q := hel.idx
  have ex1 := ext_alloc W (.cells #[.int .i64 op, .int .i64 0, .slice a 1 cap] 24)
  have r1 := row_new W [.int .i64 op, .int .i64 0, .slice a 1 cap] 24
  rcases hop with rfl | rfl | rfl
  · go_enter Tryd.func45, Tryd.ntmps45
    go_wp2_with fail
    obtain ⟨w1, hw1⟩ : ∃ w1, w1 = W.alloc (.cells #[.int .i64 13, .int .i64 0, .slice a 1 cap] 24) := ⟨_, rfl⟩
    rw [← hw1]
    rw [← hw1] at ex1 r1
    have HW := Lib.hid hw1
    clear hw1
    obtain ⟨e0, e1, e2⟩ := r1.three
    obtain ⟨s0, s1, s2, s3, s4, s5, s6, s7, s8⟩ := (henv.ext ex1).s.nine
    obtain ⟨g1, g2, g3, g4⟩ := (henv.ext ex1).cells
    have d0 := (hel.ext ex1).c0
    have d1 := (hel.ext ex1).c1
    have d2 := (hel.ext ex1).c2
    have hrefl := Below.refl w1.heap.size w1
    have KEEP : ∀ W', Below w1.heap.size w1 W' → (fun w' : World => w'.cell? ⟨W.heap.size, 0, none⟩ = some (.int .i64 13) ∧ w'.cell? ⟨W.heap.size, 1, none⟩ = some (.int .i64 0) ∧ w'.cell? ⟨W.heap.size, 2, none⟩ = some (.slice a 1 cap) ∧ w'.cell? ⟨B, 0, none⟩ = some (.int .i64 n) ∧ w'.cell? ⟨B, 1, none⟩ = some (.slice ia s.inl.length icap) ∧ w'.cell? ⟨B, 2, none⟩ = some (.slice oa s.outl.length ocap) ∧ w'.cell? ⟨B, 3, none⟩ = some (.int .i64 h0) ∧ w'.cell? ⟨B, 4, none⟩ = some (.int .i64 h1) ∧ w'.cell? ⟨B, 5, none⟩ = some (.int .i64 h2) ∧ w'.cell? ⟨B, 6, none⟩ = some (.int .i64 h3) ∧ w'.cell? ⟨B, 7, none⟩ = some (.int .i64 h4) ∧ w'.cell? ⟨B, 8, none⟩ = some (vv0) ∧ w'.cell? ⟨B + 3, 0, none⟩ = some (.func (.func 45) #[] #[.pointer (some ⟨B + 4, 0, none⟩), .pointer (some ⟨B, 0, none⟩), .pointer (some ⟨B + 3, 0, none⟩), .pointer (some ⟨B + 2, 0, none⟩), .pointer (some ⟨B + 1, 0, none⟩)]) ∧ w'.cell? ⟨B + 4, 0, none⟩ = some (.func (.func 44) #[] #[.pointer (some ⟨B, 0, none⟩), .pointer (some ⟨B + 3, 0, none⟩)]) ∧ w'.cell? ⟨b, off, none⟩ = some (.int .i64 x.op) ∧ w'.cell? ⟨b, off + 1, none⟩ = some (.int .i64 x.num) ∧ w'.cell? ⟨b, off + 2, none⟩ = some (.slice a' x.args.length c') ∧ Below w1.heap.size w1 w') W' := fun W' hW' => ⟨cell_ext e0 hW', cell_ext e1 hW', cell_ext e2 hW', cell_ext s0 hW', cell_ext s1 hW', cell_ext s2 hW', cell_ext s3 hW', cell_ext s4 hW', cell_ext s5 hW', cell_ext s6 hW', cell_ext s7 hW', cell_ext s8 hW', cell_ext g3 hW', cell_ext g4 hW', cell_ext d0 hW', cell_ext d1 hW', cell_ext d2 hW', hW'⟩
    have KEEP := Lib.hid KEEP
    go_region_held3 (fun w' : World => w'.cell? ⟨W.heap.size, 0, none⟩ = some (.int .i64 13) ∧ w'.cell? ⟨W.heap.size, 1, none⟩ = some (.int .i64 0) ∧ w'.cell? ⟨W.heap.size, 2, none⟩ = some (.slice a 1 cap) ∧ w'.cell? ⟨B, 0, none⟩ = some (.int .i64 n) ∧ w'.cell? ⟨B, 1, none⟩ = some (.slice ia s.inl.length icap) ∧ w'.cell? ⟨B, 2, none⟩ = some (.slice oa s.outl.length ocap) ∧ w'.cell? ⟨B, 3, none⟩ = some (.int .i64 h0) ∧ w'.cell? ⟨B, 4, none⟩ = some (.int .i64 h1) ∧ w'.cell? ⟨B, 5, none⟩ = some (.int .i64 h2) ∧ w'.cell? ⟨B, 6, none⟩ = some (.int .i64 h3) ∧ w'.cell? ⟨B, 7, none⟩ = some (.int .i64 h4) ∧ w'.cell? ⟨B, 8, none⟩ = some (vv0) ∧ w'.cell? ⟨B + 3, 0, none⟩ = some (.func (.func 45) #[] #[.pointer (some ⟨B + 4, 0, none⟩), .pointer (some ⟨B, 0, none⟩), .pointer (some ⟨B + 3, 0, none⟩), .pointer (some ⟨B + 2, 0, none⟩), .pointer (some ⟨B + 1, 0, none⟩)]) ∧ w'.cell? ⟨B + 4, 0, none⟩ = some (.func (.func 44) #[] #[.pointer (some ⟨B, 0, none⟩), .pointer (some ⟨B + 3, 0, none⟩)]) ∧ w'.cell? ⟨b, off, none⟩ = some (.int .i64 x.op) ∧ w'.cell? ⟨b, off + 1, none⟩ = some (.int .i64 x.num) ∧ w'.cell? ⟨b, off + 2, none⟩ = some (.slice a' x.args.length c') ∧ Below w1.heap.size w1 w')
      (first | (apply KEEP.out; first | assumption | (apply Below.drew; assumption)))
      (first | (go_at_call 44; refine (HCNT.out _ (ext_trans ex1 (by (first | assumption | (apply Below.drew; assumption))))).mono ?_; rintro _ w2 ⟨_, rfl, hb2, rfl⟩; have hbb : Below w1.heap.size w1 w2 := ext_trans (by (first | assumption | (apply Below.drew; assumption))) hb2) | (go_at_call 46; refine ((truth_quiet _ _).mono fun _ _ h => h.post).mono ?_; rintro _ w3 ⟨_, rfl, hb3, rfl⟩; have hbb : Below w1.heap.size w1 w3 := ext_trans (by (first | assumption | (apply Below.drew; assumption))) hb3))
    go_wp2
    go_ret
    refine .mk (ext_trans ex1 hbb) (int_eq ?_)
    rw [HR.out, valE_all, ← HZ.out, HN.out]
    rfl
  · go_enter Tryd.func45, Tryd.ntmps45
    go_wp2_with fail
    obtain ⟨w1, hw1⟩ : ∃ w1, w1 = W.alloc (.cells #[.int .i64 14, .int .i64 0, .slice a 1 cap] 24) := ⟨_, rfl⟩
    rw [← hw1]
    rw [← hw1] at ex1 r1
    have HW := Lib.hid hw1
    clear hw1
    obtain ⟨e0, e1, e2⟩ := r1.three
    obtain ⟨s0, s1, s2, s3, s4, s5, s6, s7, s8⟩ := (henv.ext ex1).s.nine
    obtain ⟨g1, g2, g3, g4⟩ := (henv.ext ex1).cells
    have d0 := (hel.ext ex1).c0
    have d1 := (hel.ext ex1).c1
    have d2 := (hel.ext ex1).c2
    have hrefl := Below.refl w1.heap.size w1
    have KEEP : ∀ W', Below w1.heap.size w1 W' → (fun w' : World => w'.cell? ⟨W.heap.size, 0, none⟩ = some (.int .i64 14) ∧ w'.cell? ⟨W.heap.size, 1, none⟩ = some (.int .i64 0) ∧ w'.cell? ⟨W.heap.size, 2, none⟩ = some (.slice a 1 cap) ∧ w'.cell? ⟨B, 0, none⟩ = some (.int .i64 n) ∧ w'.cell? ⟨B, 1, none⟩ = some (.slice ia s.inl.length icap) ∧ w'.cell? ⟨B, 2, none⟩ = some (.slice oa s.outl.length ocap) ∧ w'.cell? ⟨B, 3, none⟩ = some (.int .i64 h0) ∧ w'.cell? ⟨B, 4, none⟩ = some (.int .i64 h1) ∧ w'.cell? ⟨B, 5, none⟩ = some (.int .i64 h2) ∧ w'.cell? ⟨B, 6, none⟩ = some (.int .i64 h3) ∧ w'.cell? ⟨B, 7, none⟩ = some (.int .i64 h4) ∧ w'.cell? ⟨B, 8, none⟩ = some (vv0) ∧ w'.cell? ⟨B + 3, 0, none⟩ = some (.func (.func 45) #[] #[.pointer (some ⟨B + 4, 0, none⟩), .pointer (some ⟨B, 0, none⟩), .pointer (some ⟨B + 3, 0, none⟩), .pointer (some ⟨B + 2, 0, none⟩), .pointer (some ⟨B + 1, 0, none⟩)]) ∧ w'.cell? ⟨B + 4, 0, none⟩ = some (.func (.func 44) #[] #[.pointer (some ⟨B, 0, none⟩), .pointer (some ⟨B + 3, 0, none⟩)]) ∧ w'.cell? ⟨b, off, none⟩ = some (.int .i64 x.op) ∧ w'.cell? ⟨b, off + 1, none⟩ = some (.int .i64 x.num) ∧ w'.cell? ⟨b, off + 2, none⟩ = some (.slice a' x.args.length c') ∧ Below w1.heap.size w1 w') W' := fun W' hW' => ⟨cell_ext e0 hW', cell_ext e1 hW', cell_ext e2 hW', cell_ext s0 hW', cell_ext s1 hW', cell_ext s2 hW', cell_ext s3 hW', cell_ext s4 hW', cell_ext s5 hW', cell_ext s6 hW', cell_ext s7 hW', cell_ext s8 hW', cell_ext g3 hW', cell_ext g4 hW', cell_ext d0 hW', cell_ext d1 hW', cell_ext d2 hW', hW'⟩
    have KEEP := Lib.hid KEEP
    go_region_held3 (fun w' : World => w'.cell? ⟨W.heap.size, 0, none⟩ = some (.int .i64 14) ∧ w'.cell? ⟨W.heap.size, 1, none⟩ = some (.int .i64 0) ∧ w'.cell? ⟨W.heap.size, 2, none⟩ = some (.slice a 1 cap) ∧ w'.cell? ⟨B, 0, none⟩ = some (.int .i64 n) ∧ w'.cell? ⟨B, 1, none⟩ = some (.slice ia s.inl.length icap) ∧ w'.cell? ⟨B, 2, none⟩ = some (.slice oa s.outl.length ocap) ∧ w'.cell? ⟨B, 3, none⟩ = some (.int .i64 h0) ∧ w'.cell? ⟨B, 4, none⟩ = some (.int .i64 h1) ∧ w'.cell? ⟨B, 5, none⟩ = some (.int .i64 h2) ∧ w'.cell? ⟨B, 6, none⟩ = some (.int .i64 h3) ∧ w'.cell? ⟨B, 7, none⟩ = some (.int .i64 h4) ∧ w'.cell? ⟨B, 8, none⟩ = some (vv0) ∧ w'.cell? ⟨B + 3, 0, none⟩ = some (.func (.func 45) #[] #[.pointer (some ⟨B + 4, 0, none⟩), .pointer (some ⟨B, 0, none⟩), .pointer (some ⟨B + 3, 0, none⟩), .pointer (some ⟨B + 2, 0, none⟩), .pointer (some ⟨B + 1, 0, none⟩)]) ∧ w'.cell? ⟨B + 4, 0, none⟩ = some (.func (.func 44) #[] #[.pointer (some ⟨B, 0, none⟩), .pointer (some ⟨B + 3, 0, none⟩)]) ∧ w'.cell? ⟨b, off, none⟩ = some (.int .i64 x.op) ∧ w'.cell? ⟨b, off + 1, none⟩ = some (.int .i64 x.num) ∧ w'.cell? ⟨b, off + 2, none⟩ = some (.slice a' x.args.length c') ∧ Below w1.heap.size w1 w')
      (first | (apply KEEP.out; first | assumption | (apply Below.drew; assumption)))
      (first | (go_at_call 44; refine (HCNT.out _ (ext_trans ex1 (by (first | assumption | (apply Below.drew; assumption))))).mono ?_; rintro _ w2 ⟨_, rfl, hb2, rfl⟩; have hbb : Below w1.heap.size w1 w2 := ext_trans (by (first | assumption | (apply Below.drew; assumption))) hb2) | (go_at_call 46; refine ((truth_quiet _ _).mono fun _ _ h => h.post).mono ?_; rintro _ w3 ⟨_, rfl, hb3, rfl⟩; have hbb : Below w1.heap.size w1 w3 := ext_trans (by (first | assumption | (apply Below.drew; assumption))) hb3))
    go_wp2
    go_ret
    refine .mk (ext_trans ex1 hbb) (int_eq ?_)
    rw [HR.out, valE_some, ← HZ.out]
  · go_enter Tryd.func45, Tryd.ntmps45
    go_wp2_with fail
    obtain ⟨w1, hw1⟩ : ∃ w1, w1 = W.alloc (.cells #[.int .i64 15, .int .i64 0, .slice a 1 cap] 24) := ⟨_, rfl⟩
    rw [← hw1]
    rw [← hw1] at ex1 r1
    have HW := Lib.hid hw1
    clear hw1
    obtain ⟨e0, e1, e2⟩ := r1.three
    obtain ⟨s0, s1, s2, s3, s4, s5, s6, s7, s8⟩ := (henv.ext ex1).s.nine
    obtain ⟨g1, g2, g3, g4⟩ := (henv.ext ex1).cells
    have d0 := (hel.ext ex1).c0
    have d1 := (hel.ext ex1).c1
    have d2 := (hel.ext ex1).c2
    have hrefl := Below.refl w1.heap.size w1
    have KEEP : ∀ W', Below w1.heap.size w1 W' → (fun w' : World => w'.cell? ⟨W.heap.size, 0, none⟩ = some (.int .i64 15) ∧ w'.cell? ⟨W.heap.size, 1, none⟩ = some (.int .i64 0) ∧ w'.cell? ⟨W.heap.size, 2, none⟩ = some (.slice a 1 cap) ∧ w'.cell? ⟨B, 0, none⟩ = some (.int .i64 n) ∧ w'.cell? ⟨B, 1, none⟩ = some (.slice ia s.inl.length icap) ∧ w'.cell? ⟨B, 2, none⟩ = some (.slice oa s.outl.length ocap) ∧ w'.cell? ⟨B, 3, none⟩ = some (.int .i64 h0) ∧ w'.cell? ⟨B, 4, none⟩ = some (.int .i64 h1) ∧ w'.cell? ⟨B, 5, none⟩ = some (.int .i64 h2) ∧ w'.cell? ⟨B, 6, none⟩ = some (.int .i64 h3) ∧ w'.cell? ⟨B, 7, none⟩ = some (.int .i64 h4) ∧ w'.cell? ⟨B, 8, none⟩ = some (vv0) ∧ w'.cell? ⟨B + 3, 0, none⟩ = some (.func (.func 45) #[] #[.pointer (some ⟨B + 4, 0, none⟩), .pointer (some ⟨B, 0, none⟩), .pointer (some ⟨B + 3, 0, none⟩), .pointer (some ⟨B + 2, 0, none⟩), .pointer (some ⟨B + 1, 0, none⟩)]) ∧ w'.cell? ⟨B + 4, 0, none⟩ = some (.func (.func 44) #[] #[.pointer (some ⟨B, 0, none⟩), .pointer (some ⟨B + 3, 0, none⟩)]) ∧ w'.cell? ⟨b, off, none⟩ = some (.int .i64 x.op) ∧ w'.cell? ⟨b, off + 1, none⟩ = some (.int .i64 x.num) ∧ w'.cell? ⟨b, off + 2, none⟩ = some (.slice a' x.args.length c') ∧ Below w1.heap.size w1 w') W' := fun W' hW' => ⟨cell_ext e0 hW', cell_ext e1 hW', cell_ext e2 hW', cell_ext s0 hW', cell_ext s1 hW', cell_ext s2 hW', cell_ext s3 hW', cell_ext s4 hW', cell_ext s5 hW', cell_ext s6 hW', cell_ext s7 hW', cell_ext s8 hW', cell_ext g3 hW', cell_ext g4 hW', cell_ext d0 hW', cell_ext d1 hW', cell_ext d2 hW', hW'⟩
    have KEEP := Lib.hid KEEP
    go_region_held3 (fun w' : World => w'.cell? ⟨W.heap.size, 0, none⟩ = some (.int .i64 15) ∧ w'.cell? ⟨W.heap.size, 1, none⟩ = some (.int .i64 0) ∧ w'.cell? ⟨W.heap.size, 2, none⟩ = some (.slice a 1 cap) ∧ w'.cell? ⟨B, 0, none⟩ = some (.int .i64 n) ∧ w'.cell? ⟨B, 1, none⟩ = some (.slice ia s.inl.length icap) ∧ w'.cell? ⟨B, 2, none⟩ = some (.slice oa s.outl.length ocap) ∧ w'.cell? ⟨B, 3, none⟩ = some (.int .i64 h0) ∧ w'.cell? ⟨B, 4, none⟩ = some (.int .i64 h1) ∧ w'.cell? ⟨B, 5, none⟩ = some (.int .i64 h2) ∧ w'.cell? ⟨B, 6, none⟩ = some (.int .i64 h3) ∧ w'.cell? ⟨B, 7, none⟩ = some (.int .i64 h4) ∧ w'.cell? ⟨B, 8, none⟩ = some (vv0) ∧ w'.cell? ⟨B + 3, 0, none⟩ = some (.func (.func 45) #[] #[.pointer (some ⟨B + 4, 0, none⟩), .pointer (some ⟨B, 0, none⟩), .pointer (some ⟨B + 3, 0, none⟩), .pointer (some ⟨B + 2, 0, none⟩), .pointer (some ⟨B + 1, 0, none⟩)]) ∧ w'.cell? ⟨B + 4, 0, none⟩ = some (.func (.func 44) #[] #[.pointer (some ⟨B, 0, none⟩), .pointer (some ⟨B + 3, 0, none⟩)]) ∧ w'.cell? ⟨b, off, none⟩ = some (.int .i64 x.op) ∧ w'.cell? ⟨b, off + 1, none⟩ = some (.int .i64 x.num) ∧ w'.cell? ⟨b, off + 2, none⟩ = some (.slice a' x.args.length c') ∧ Below w1.heap.size w1 w')
      (first | (apply KEEP.out; first | assumption | (apply Below.drew; assumption)))
      (first | (go_at_call 44; refine (HCNT.out _ (ext_trans ex1 (by (first | assumption | (apply Below.drew; assumption))))).mono ?_; rintro _ w2 ⟨_, rfl, hb2, rfl⟩; have hbb : Below w1.heap.size w1 w2 := ext_trans (by (first | assumption | (apply Below.drew; assumption))) hb2))
    go_wp2
    go_ret
    refine .mk (ext_trans ex1 hbb) (int_eq ?_)
    rw [HR.out, valE_count, ← HZ.out]

set_option maxRecDepth 100000 in
set_option maxHeartbeats 2000000 in
theorem evVal_one (s : Sc) (hs : ScOk s) (n h0 h1 h2 h3 h4 vars op : Int) (x : Ex) (hn : s.n = n) (hop : op = 2 ∨ op = 3 ∨ op = 12) (hk : kindOf x.op = argKind op) (hx : Wf vars x) (ih : EvVal s n h0 h1 h2 h3 h4 vars x) : EvVal s n h0 h1 h2 h3 h4 vars (oneE op x) := by
  intro S S1 S2 S3 W B v iv ov vv0 vv vs henv hv hi ho hvv hvl hsm hsz hd
  have HI := hi
  have HO := ho
  have HV := hvv
  obtain ⟨ia, icap, rfl, ai, i1, i2, ci, wi⟩ := hi
  obtain ⟨oa, ocap, rfl, ao, o1, o2, co, wo⟩ := ho
  obtain ⟨va, vcap, rfl, av, v1, v2, cv, wv⟩ := hvv
  unfold maxLen at i2 o2 v2
  have hn0 := hs.n0
  have hn1 := hs.n1
  rw [hn] at hn0 hn1
  rw [size_one] at hsz
  rw [depth_one] at hd
  have hvr := val_range hs hx vs hvl hsm
  obtain ⟨a, cap, b, off, a', c', rfl, hel⟩ := hv.one
  have HVAL := Lib.hid (fun W' (hW' : Below W.heap.size W W') => ih _ _ _ _ W' B _ _ _ _ _ vs (henv.ext hW') (hel.ex.ext hW') (HI.ext hW') (HO.ext hW') (HV.ext hW') hvl hsm (by omega) (by omega))
  have HN := Lib.hid hn
  clear ci co cv hn hvl
  obtain ⟨R, hR⟩ : ∃ R, R = valE s (oneE op x) vs := ⟨_, rfl⟩
  rw [← hR]
  obtain ⟨z, hz⟩ : ∃ z, z = valE s x vs := ⟨_, rfl⟩
  rw [← hz] at hvr HVAL
  have HZ := Lib.hid hz
  have HR := Lib.hid hR
  clear hz hR
  obtain ⟨hz0, hz1, hz2⟩ := hvr
  have q := hel.idx
  have ex1 := ext_alloc W (.cells #[.int .i64 op, .int .i64 0, .slice a 1 cap] 24)
  have r1 := row_new W [.int .i64 op, .int .i64 0, .slice a 1 cap] 24
  rcases hop with rfl | rfl | rfl
  · go_enter Tryd.func45, Tryd.ntmps45
    go_wp2_with fail
    obtain ⟨w1, hw1⟩ : ∃ w1, w1 = W.alloc (.cells #[.int .i64 2, .int .i64 0, .slice a 1 cap] 24) := ⟨_, rfl⟩
    rw [← hw1]
    rw [← hw1] at ex1 r1
    have HW := Lib.hid hw1
    clear hw1
    obtain ⟨e0, e1, e2⟩ := r1.three
    obtain ⟨s0, s1, s2, s3, s4, s5, s6, s7, s8⟩ := (henv.ext ex1).s.nine
    obtain ⟨g1, g2, g3, g4⟩ := (henv.ext ex1).cells
    have d0 := (hel.ext ex1).c0
    have d1 := (hel.ext ex1).c1
    have d2 := (hel.ext ex1).c2
    have hrefl := Below.refl w1.heap.size w1
    have KEEP : ∀ W', Below w1.heap.size w1 W' → (fun w' : World => w'.cell? ⟨W.heap.size, 0, none⟩ = some (.int .i64 2) ∧ w'.cell? ⟨W.heap.size, 1, none⟩ = some (.int .i64 0) ∧ w'.cell? ⟨W.heap.size, 2, none⟩ = some (.slice a 1 cap) ∧ w'.cell? ⟨B, 0, none⟩ = some (.int .i64 n) ∧ w'.cell? ⟨B, 1, none⟩ = some (.slice ia s.inl.length icap) ∧ w'.cell? ⟨B, 2, none⟩ = some (.slice oa s.outl.length ocap) ∧ w'.cell? ⟨B, 3, none⟩ = some (.int .i64 h0) ∧ w'.cell? ⟨B, 4, none⟩ = some (.int .i64 h1) ∧ w'.cell? ⟨B, 5, none⟩ = some (.int .i64 h2) ∧ w'.cell? ⟨B, 6, none⟩ = some (.int .i64 h3) ∧ w'.cell? ⟨B, 7, none⟩ = some (.int .i64 h4) ∧ w'.cell? ⟨B, 8, none⟩ = some (vv0) ∧ w'.cell? ⟨B + 3, 0, none⟩ = some (.func (.func 45) #[] #[.pointer (some ⟨B + 4, 0, none⟩), .pointer (some ⟨B, 0, none⟩), .pointer (some ⟨B + 3, 0, none⟩), .pointer (some ⟨B + 2, 0, none⟩), .pointer (some ⟨B + 1, 0, none⟩)]) ∧ w'.cell? ⟨B + 4, 0, none⟩ = some (.func (.func 44) #[] #[.pointer (some ⟨B, 0, none⟩), .pointer (some ⟨B + 3, 0, none⟩)]) ∧ w'.cell? ⟨b, off, none⟩ = some (.int .i64 x.op) ∧ w'.cell? ⟨b, off + 1, none⟩ = some (.int .i64 x.num) ∧ w'.cell? ⟨b, off + 2, none⟩ = some (.slice a' x.args.length c') ∧ Below w1.heap.size w1 w') W' := fun W' hW' => ⟨cell_ext e0 hW', cell_ext e1 hW', cell_ext e2 hW', cell_ext s0 hW', cell_ext s1 hW', cell_ext s2 hW', cell_ext s3 hW', cell_ext s4 hW', cell_ext s5 hW', cell_ext s6 hW', cell_ext s7 hW', cell_ext s8 hW', cell_ext g3 hW', cell_ext g4 hW', cell_ext d0 hW', cell_ext d1 hW', cell_ext d2 hW', hW'⟩
    have KEEP := Lib.hid KEEP
    go_region_held3 (fun w' : World => w'.cell? ⟨W.heap.size, 0, none⟩ = some (.int .i64 2) ∧ w'.cell? ⟨W.heap.size, 1, none⟩ = some (.int .i64 0) ∧ w'.cell? ⟨W.heap.size, 2, none⟩ = some (.slice a 1 cap) ∧ w'.cell? ⟨B, 0, none⟩ = some (.int .i64 n) ∧ w'.cell? ⟨B, 1, none⟩ = some (.slice ia s.inl.length icap) ∧ w'.cell? ⟨B, 2, none⟩ = some (.slice oa s.outl.length ocap) ∧ w'.cell? ⟨B, 3, none⟩ = some (.int .i64 h0) ∧ w'.cell? ⟨B, 4, none⟩ = some (.int .i64 h1) ∧ w'.cell? ⟨B, 5, none⟩ = some (.int .i64 h2) ∧ w'.cell? ⟨B, 6, none⟩ = some (.int .i64 h3) ∧ w'.cell? ⟨B, 7, none⟩ = some (.int .i64 h4) ∧ w'.cell? ⟨B, 8, none⟩ = some (vv0) ∧ w'.cell? ⟨B + 3, 0, none⟩ = some (.func (.func 45) #[] #[.pointer (some ⟨B + 4, 0, none⟩), .pointer (some ⟨B, 0, none⟩), .pointer (some ⟨B + 3, 0, none⟩), .pointer (some ⟨B + 2, 0, none⟩), .pointer (some ⟨B + 1, 0, none⟩)]) ∧ w'.cell? ⟨B + 4, 0, none⟩ = some (.func (.func 44) #[] #[.pointer (some ⟨B, 0, none⟩), .pointer (some ⟨B + 3, 0, none⟩)]) ∧ w'.cell? ⟨b, off, none⟩ = some (.int .i64 x.op) ∧ w'.cell? ⟨b, off + 1, none⟩ = some (.int .i64 x.num) ∧ w'.cell? ⟨b, off + 2, none⟩ = some (.slice a' x.args.length c') ∧ Below w1.heap.size w1 w')
      (first | (apply KEEP.out; first | assumption | (apply Below.drew; assumption)))
      (first | (go_at_call 45; refine (HVAL.out _ (ext_trans ex1 (by (first | assumption | (apply Below.drew; assumption))))).mono ?_; rintro _ w2 ⟨_, rfl, hb2, rfl⟩; have hbb : Below w1.heap.size w1 w2 := ext_trans (by (first | assumption | (apply Below.drew; assumption))) hb2))
    have ex2 := ext_trans ex1 hbb
    have r1' := r1.ext hbb
    clear e0 e1 e2 s0 s1 s2 s3 s4 s5 s6 s7 s8 g1 g2 g3 g4 d0 d1 d2
    obtain ⟨e0, e1, e2⟩ := r1'.three
    obtain ⟨s0, s1, s2, s3, s4, s5, s6, s7, s8⟩ := (henv.ext ex2).s.nine
    obtain ⟨g1, g2, g3, g4⟩ := (henv.ext ex2).cells
    have AT := Lib.hid (element_quiet (HI.ext ex2) z s0 g1)
    go_wp2_with fail
    refine (AT.out.mono fun _ _ h => h.post).mono ?_
    rintro _ w3 ⟨_, rfl, hb3, rfl⟩
    go_wp2
    go_ret
    exact .mk (ext_trans ex2 hb3) (int_eq (by rw [HR.out, valE_in, ← HZ.out, HN.out]))
  · go_enter Tryd.func45, Tryd.ntmps45
    go_wp2_with fail
    obtain ⟨w1, hw1⟩ : ∃ w1, w1 = W.alloc (.cells #[.int .i64 3, .int .i64 0, .slice a 1 cap] 24) := ⟨_, rfl⟩
    rw [← hw1]
    rw [← hw1] at ex1 r1
    have HW := Lib.hid hw1
    clear hw1
    obtain ⟨e0, e1, e2⟩ := r1.three
    obtain ⟨s0, s1, s2, s3, s4, s5, s6, s7, s8⟩ := (henv.ext ex1).s.nine
    obtain ⟨g1, g2, g3, g4⟩ := (henv.ext ex1).cells
    have d0 := (hel.ext ex1).c0
    have d1 := (hel.ext ex1).c1
    have d2 := (hel.ext ex1).c2
    have hrefl := Below.refl w1.heap.size w1
    have KEEP : ∀ W', Below w1.heap.size w1 W' → (fun w' : World => w'.cell? ⟨W.heap.size, 0, none⟩ = some (.int .i64 3) ∧ w'.cell? ⟨W.heap.size, 1, none⟩ = some (.int .i64 0) ∧ w'.cell? ⟨W.heap.size, 2, none⟩ = some (.slice a 1 cap) ∧ w'.cell? ⟨B, 0, none⟩ = some (.int .i64 n) ∧ w'.cell? ⟨B, 1, none⟩ = some (.slice ia s.inl.length icap) ∧ w'.cell? ⟨B, 2, none⟩ = some (.slice oa s.outl.length ocap) ∧ w'.cell? ⟨B, 3, none⟩ = some (.int .i64 h0) ∧ w'.cell? ⟨B, 4, none⟩ = some (.int .i64 h1) ∧ w'.cell? ⟨B, 5, none⟩ = some (.int .i64 h2) ∧ w'.cell? ⟨B, 6, none⟩ = some (.int .i64 h3) ∧ w'.cell? ⟨B, 7, none⟩ = some (.int .i64 h4) ∧ w'.cell? ⟨B, 8, none⟩ = some (vv0) ∧ w'.cell? ⟨B + 3, 0, none⟩ = some (.func (.func 45) #[] #[.pointer (some ⟨B + 4, 0, none⟩), .pointer (some ⟨B, 0, none⟩), .pointer (some ⟨B + 3, 0, none⟩), .pointer (some ⟨B + 2, 0, none⟩), .pointer (some ⟨B + 1, 0, none⟩)]) ∧ w'.cell? ⟨B + 4, 0, none⟩ = some (.func (.func 44) #[] #[.pointer (some ⟨B, 0, none⟩), .pointer (some ⟨B + 3, 0, none⟩)]) ∧ w'.cell? ⟨b, off, none⟩ = some (.int .i64 x.op) ∧ w'.cell? ⟨b, off + 1, none⟩ = some (.int .i64 x.num) ∧ w'.cell? ⟨b, off + 2, none⟩ = some (.slice a' x.args.length c') ∧ Below w1.heap.size w1 w') W' := fun W' hW' => ⟨cell_ext e0 hW', cell_ext e1 hW', cell_ext e2 hW', cell_ext s0 hW', cell_ext s1 hW', cell_ext s2 hW', cell_ext s3 hW', cell_ext s4 hW', cell_ext s5 hW', cell_ext s6 hW', cell_ext s7 hW', cell_ext s8 hW', cell_ext g3 hW', cell_ext g4 hW', cell_ext d0 hW', cell_ext d1 hW', cell_ext d2 hW', hW'⟩
    have KEEP := Lib.hid KEEP
    go_region_held3 (fun w' : World => w'.cell? ⟨W.heap.size, 0, none⟩ = some (.int .i64 3) ∧ w'.cell? ⟨W.heap.size, 1, none⟩ = some (.int .i64 0) ∧ w'.cell? ⟨W.heap.size, 2, none⟩ = some (.slice a 1 cap) ∧ w'.cell? ⟨B, 0, none⟩ = some (.int .i64 n) ∧ w'.cell? ⟨B, 1, none⟩ = some (.slice ia s.inl.length icap) ∧ w'.cell? ⟨B, 2, none⟩ = some (.slice oa s.outl.length ocap) ∧ w'.cell? ⟨B, 3, none⟩ = some (.int .i64 h0) ∧ w'.cell? ⟨B, 4, none⟩ = some (.int .i64 h1) ∧ w'.cell? ⟨B, 5, none⟩ = some (.int .i64 h2) ∧ w'.cell? ⟨B, 6, none⟩ = some (.int .i64 h3) ∧ w'.cell? ⟨B, 7, none⟩ = some (.int .i64 h4) ∧ w'.cell? ⟨B, 8, none⟩ = some (vv0) ∧ w'.cell? ⟨B + 3, 0, none⟩ = some (.func (.func 45) #[] #[.pointer (some ⟨B + 4, 0, none⟩), .pointer (some ⟨B, 0, none⟩), .pointer (some ⟨B + 3, 0, none⟩), .pointer (some ⟨B + 2, 0, none⟩), .pointer (some ⟨B + 1, 0, none⟩)]) ∧ w'.cell? ⟨B + 4, 0, none⟩ = some (.func (.func 44) #[] #[.pointer (some ⟨B, 0, none⟩), .pointer (some ⟨B + 3, 0, none⟩)]) ∧ w'.cell? ⟨b, off, none⟩ = some (.int .i64 x.op) ∧ w'.cell? ⟨b, off + 1, none⟩ = some (.int .i64 x.num) ∧ w'.cell? ⟨b, off + 2, none⟩ = some (.slice a' x.args.length c') ∧ Below w1.heap.size w1 w')
      (first | (apply KEEP.out; first | assumption | (apply Below.drew; assumption)))
      (first | (go_at_call 45; refine (HVAL.out _ (ext_trans ex1 (by (first | assumption | (apply Below.drew; assumption))))).mono ?_; rintro _ w2 ⟨_, rfl, hb2, rfl⟩; have hbb : Below w1.heap.size w1 w2 := ext_trans (by (first | assumption | (apply Below.drew; assumption))) hb2))
    have ex2 := ext_trans ex1 hbb
    have r1' := r1.ext hbb
    clear e0 e1 e2 s0 s1 s2 s3 s4 s5 s6 s7 s8 g1 g2 g3 g4 d0 d1 d2
    obtain ⟨e0, e1, e2⟩ := r1'.three
    obtain ⟨s0, s1, s2, s3, s4, s5, s6, s7, s8⟩ := (henv.ext ex2).s.nine
    obtain ⟨g1, g2, g3, g4⟩ := (henv.ext ex2).cells
    have AT := Lib.hid (element_quiet (HO.ext ex2) z s0 g1)
    go_wp2_with fail
    refine (AT.out.mono fun _ _ h => h.post).mono ?_
    rintro _ w3 ⟨_, rfl, hb3, rfl⟩
    go_wp2
    go_ret
    exact .mk (ext_trans ex2 hb3) (int_eq (by rw [HR.out, valE_out, ← HZ.out, HN.out]))
  · go_enter Tryd.func45, Tryd.ntmps45
    go_wp2_with fail
    obtain ⟨w1, hw1⟩ : ∃ w1, w1 = W.alloc (.cells #[.int .i64 12, .int .i64 0, .slice a 1 cap] 24) := ⟨_, rfl⟩
    rw [← hw1]
    rw [← hw1] at ex1 r1
    have HW := Lib.hid hw1
    clear hw1
    obtain ⟨e0, e1, e2⟩ := r1.three
    obtain ⟨s0, s1, s2, s3, s4, s5, s6, s7, s8⟩ := (henv.ext ex1).s.nine
    obtain ⟨g1, g2, g3, g4⟩ := (henv.ext ex1).cells
    have d0 := (hel.ext ex1).c0
    have d1 := (hel.ext ex1).c1
    have d2 := (hel.ext ex1).c2
    have hrefl := Below.refl w1.heap.size w1
    have KEEP : ∀ W', Below w1.heap.size w1 W' → (fun w' : World => w'.cell? ⟨W.heap.size, 0, none⟩ = some (.int .i64 12) ∧ w'.cell? ⟨W.heap.size, 1, none⟩ = some (.int .i64 0) ∧ w'.cell? ⟨W.heap.size, 2, none⟩ = some (.slice a 1 cap) ∧ w'.cell? ⟨B, 0, none⟩ = some (.int .i64 n) ∧ w'.cell? ⟨B, 1, none⟩ = some (.slice ia s.inl.length icap) ∧ w'.cell? ⟨B, 2, none⟩ = some (.slice oa s.outl.length ocap) ∧ w'.cell? ⟨B, 3, none⟩ = some (.int .i64 h0) ∧ w'.cell? ⟨B, 4, none⟩ = some (.int .i64 h1) ∧ w'.cell? ⟨B, 5, none⟩ = some (.int .i64 h2) ∧ w'.cell? ⟨B, 6, none⟩ = some (.int .i64 h3) ∧ w'.cell? ⟨B, 7, none⟩ = some (.int .i64 h4) ∧ w'.cell? ⟨B, 8, none⟩ = some (vv0) ∧ w'.cell? ⟨B + 3, 0, none⟩ = some (.func (.func 45) #[] #[.pointer (some ⟨B + 4, 0, none⟩), .pointer (some ⟨B, 0, none⟩), .pointer (some ⟨B + 3, 0, none⟩), .pointer (some ⟨B + 2, 0, none⟩), .pointer (some ⟨B + 1, 0, none⟩)]) ∧ w'.cell? ⟨B + 4, 0, none⟩ = some (.func (.func 44) #[] #[.pointer (some ⟨B, 0, none⟩), .pointer (some ⟨B + 3, 0, none⟩)]) ∧ w'.cell? ⟨b, off, none⟩ = some (.int .i64 x.op) ∧ w'.cell? ⟨b, off + 1, none⟩ = some (.int .i64 x.num) ∧ w'.cell? ⟨b, off + 2, none⟩ = some (.slice a' x.args.length c') ∧ Below w1.heap.size w1 w') W' := fun W' hW' => ⟨cell_ext e0 hW', cell_ext e1 hW', cell_ext e2 hW', cell_ext s0 hW', cell_ext s1 hW', cell_ext s2 hW', cell_ext s3 hW', cell_ext s4 hW', cell_ext s5 hW', cell_ext s6 hW', cell_ext s7 hW', cell_ext s8 hW', cell_ext g3 hW', cell_ext g4 hW', cell_ext d0 hW', cell_ext d1 hW', cell_ext d2 hW', hW'⟩
    have KEEP := Lib.hid KEEP
    go_region_held3 (fun w' : World => w'.cell? ⟨W.heap.size, 0, none⟩ = some (.int .i64 12) ∧ w'.cell? ⟨W.heap.size, 1, none⟩ = some (.int .i64 0) ∧ w'.cell? ⟨W.heap.size, 2, none⟩ = some (.slice a 1 cap) ∧ w'.cell? ⟨B, 0, none⟩ = some (.int .i64 n) ∧ w'.cell? ⟨B, 1, none⟩ = some (.slice ia s.inl.length icap) ∧ w'.cell? ⟨B, 2, none⟩ = some (.slice oa s.outl.length ocap) ∧ w'.cell? ⟨B, 3, none⟩ = some (.int .i64 h0) ∧ w'.cell? ⟨B, 4, none⟩ = some (.int .i64 h1) ∧ w'.cell? ⟨B, 5, none⟩ = some (.int .i64 h2) ∧ w'.cell? ⟨B, 6, none⟩ = some (.int .i64 h3) ∧ w'.cell? ⟨B, 7, none⟩ = some (.int .i64 h4) ∧ w'.cell? ⟨B, 8, none⟩ = some (vv0) ∧ w'.cell? ⟨B + 3, 0, none⟩ = some (.func (.func 45) #[] #[.pointer (some ⟨B + 4, 0, none⟩), .pointer (some ⟨B, 0, none⟩), .pointer (some ⟨B + 3, 0, none⟩), .pointer (some ⟨B + 2, 0, none⟩), .pointer (some ⟨B + 1, 0, none⟩)]) ∧ w'.cell? ⟨B + 4, 0, none⟩ = some (.func (.func 44) #[] #[.pointer (some ⟨B, 0, none⟩), .pointer (some ⟨B + 3, 0, none⟩)]) ∧ w'.cell? ⟨b, off, none⟩ = some (.int .i64 x.op) ∧ w'.cell? ⟨b, off + 1, none⟩ = some (.int .i64 x.num) ∧ w'.cell? ⟨b, off + 2, none⟩ = some (.slice a' x.args.length c') ∧ Below w1.heap.size w1 w')
      (first | (apply KEEP.out; first | assumption | (apply Below.drew; assumption)))
      (first | (go_at_call 45; refine (HVAL.out _ (ext_trans ex1 (by (first | assumption | (apply Below.drew; assumption))))).mono ?_; rintro _ w2 ⟨_, rfl, hb2, rfl⟩; have hbb : Below w1.heap.size w1 w2 := ext_trans (by (first | assumption | (apply Below.drew; assumption))) hb2))
    have ex2 := ext_trans ex1 hbb
    have r1' := r1.ext hbb
    clear e0 e1 e2 s0 s1 s2 s3 s4 s5 s6 s7 s8 g1 g2 g3 g4 d0 d1 d2
    obtain ⟨e0, e1, e2⟩ := r1'.three
    obtain ⟨s0, s1, s2, s3, s4, s5, s6, s7, s8⟩ := (henv.ext ex2).s.nine
    obtain ⟨g1, g2, g3, g4⟩ := (henv.ext ex2).cells
    have hz3 := hz2 (hk.trans rfl)
    have hz4 : 0 ≤ z ∧ z ≤ 1 := by omega
    obtain ⟨hz5, hz6⟩ := hz4
    clear hz3 hz2
    go_wp2
    go_ret
    exact .mk ex2 (int_eq (by rw [HR.out, valE_not, ← HZ.out]))

theorem bits_01 {z z2 : Int} (h : z = 0 ∨ z = 1) (h2 : z2 = 0 ∨ z2 = 1) : bits .and .i64 z z2 = z * z2 ∧ bits .or .i64 z z2 = flag (decide (0 < z + z2)) := by
  rcases h with rfl | rfl <;> rcases h2 with rfl | rfl <;> exact ⟨by decide, by decide⟩

set_option maxRecDepth 100000 in
set_option maxHeartbeats 2000000 in
theorem evVal_hears (s : Sc) (hs : ScOk s) (n h0 h1 h2 h3 h4 vars op : Int) (x y : Ex) (hn : s.n = n) (hh : s.hears = [h0, h1, h2, h3, h4]) (hop : op = 4) (hk : kindOf x.op = argKind op) (hk2 : kindOf y.op = argKind op) (hx : Wf vars x) (hy : Wf vars y)
    (ih : EvVal s n h0 h1 h2 h3 h4 vars x) (ih2 : EvVal s n h0 h1 h2 h3 h4 vars y) : EvVal s n h0 h1 h2 h3 h4 vars (twoE op x y) := by
  intro S S1 S2 S3 W B v iv ov vv0 vv vs henv hv hi ho hvv hvl hsm hsz hd
  have HI := hi
  have HO := ho
  have HV := hvv
  obtain ⟨ia, icap, rfl, ai, i1, i2, ci, wi⟩ := hi
  obtain ⟨oa, ocap, rfl, ao, o1, o2, co, wo⟩ := ho
  obtain ⟨va, vcap, rfl, av, v1, v2, cv, wv⟩ := hvv
  unfold maxLen at i2 o2 v2
  have hn0 := hs.n0
  have hn1 := hs.n1
  rw [hn] at hn0 hn1
  rw [size_two] at hsz
  rw [depth_two] at hd
  have hvr := val_range hs hx vs hvl hsm
  have hvr2 := val_range hs hy vs hvl hsm
  obtain ⟨a, cap, b, off, a', c', b2, off2, a2, c2, rfl, hel, hel2⟩ := hv.two
  have HVAL := Lib.hid (fun W' (hW' : Below W.heap.size W W') => ih _ _ _ _ W' B _ _ _ _ _ vs (henv.ext hW') (hel.ex.ext hW') (HI.ext hW') (HO.ext hW') (HV.ext hW') hvl hsm (by omega) (by omega))
  have HVAL2 := Lib.hid (fun W' (hW' : Below W.heap.size W W') => ih2 _ _ _ _ W' B _ _ _ _ _ vs (henv.ext hW') (hel2.ex.ext hW') (HI.ext hW') (HO.ext hW') (HV.ext hW') hvl hsm (by omega) (by omega))
  obtain ⟨R, hR⟩ : ∃ R, R = valE s (twoE op x y) vs := ⟨_, rfl⟩
  rw [← hR]
  obtain ⟨z, hz⟩ : ∃ z, z = valE s x vs := ⟨_, rfl⟩
  obtain ⟨z2, hz2⟩ : ∃ z2, z2 = valE s y vs := ⟨_, rfl⟩
  rw [valE_two s (by omega) (by omega), ← hz, ← hz2] at hR
  rw [← hz] at hvr HVAL
  rw [← hz2] at hvr2 HVAL2
  have hsz1 := sizeE_pos x
  have hsz2 := sizeE_pos y
  have HN := Lib.hid hn
  have HH := Lib.hid hh
  have HR := Lib.hid hR
  have HVL := Lib.hid hvl
  clear ci co cv hn hvl hh hz hz2 hR
  obtain ⟨za0, za1, za2⟩ := hvr
  obtain ⟨zb0, zb1, zb2⟩ := hvr2
  have zl0 : -281474976710656 ≤ z := by omega
  have zl1 : z ≤ 281474976710656 := by omega
  have zr0 : -281474976710656 ≤ z2 := by omega
  have zr1 : z2 ≤ 281474976710656 := by omega
  clear za0 za1 zb0 zb1
  have q := hel.idx
  have q2 := hel2.idx
  subst hop
  clear za2 zb2
  have ex1 := ext_alloc W (.cells #[.int .i64 4, .int .i64 0, .slice a 2 cap] 24)
  have r1 := row_new W [.int .i64 4, .int .i64 0, .slice a 2 cap] 24
  go_enter Tryd.func45, Tryd.ntmps45
  go_wp2_with fail
  obtain ⟨w1, hw1⟩ : ∃ w1, w1 = W.alloc (.cells #[.int .i64 4, .int .i64 0, .slice a 2 cap] 24) := ⟨_, rfl⟩
  rw [← hw1]
  rw [← hw1] at ex1 r1
  have HW := Lib.hid hw1
  clear hw1
  obtain ⟨e0, e1, e2⟩ := r1.three
  obtain ⟨s0, s1, s2, s3, s4, s5, s6, s7, s8⟩ := (henv.ext ex1).s.nine
  obtain ⟨g1, g2, g3, g4⟩ := (henv.ext ex1).cells
  have d0 := (hel.ext ex1).c0
  have d1 := (hel.ext ex1).c1
  have d2 := (hel.ext ex1).c2
  have hrefl := Below.refl w1.heap.size w1
  have KEEP : ∀ W', Below w1.heap.size w1 W' → (fun w' : World => w'.cell? ⟨W.heap.size, 0, none⟩ = some (.int .i64 4) ∧ w'.cell? ⟨W.heap.size, 1, none⟩ = some (.int .i64 0) ∧ w'.cell? ⟨W.heap.size, 2, none⟩ = some (.slice a 2 cap) ∧ w'.cell? ⟨B, 0, none⟩ = some (.int .i64 n) ∧ w'.cell? ⟨B, 1, none⟩ = some (.slice ia s.inl.length icap) ∧ w'.cell? ⟨B, 2, none⟩ = some (.slice oa s.outl.length ocap) ∧ w'.cell? ⟨B, 3, none⟩ = some (.int .i64 h0) ∧ w'.cell? ⟨B, 4, none⟩ = some (.int .i64 h1) ∧ w'.cell? ⟨B, 5, none⟩ = some (.int .i64 h2) ∧ w'.cell? ⟨B, 6, none⟩ = some (.int .i64 h3) ∧ w'.cell? ⟨B, 7, none⟩ = some (.int .i64 h4) ∧ w'.cell? ⟨B, 8, none⟩ = some (vv0) ∧ w'.cell? ⟨B + 3, 0, none⟩ = some (.func (.func 45) #[] #[.pointer (some ⟨B + 4, 0, none⟩), .pointer (some ⟨B, 0, none⟩), .pointer (some ⟨B + 3, 0, none⟩), .pointer (some ⟨B + 2, 0, none⟩), .pointer (some ⟨B + 1, 0, none⟩)]) ∧ w'.cell? ⟨B + 4, 0, none⟩ = some (.func (.func 44) #[] #[.pointer (some ⟨B, 0, none⟩), .pointer (some ⟨B + 3, 0, none⟩)]) ∧ w'.cell? ⟨b, off, none⟩ = some (.int .i64 x.op) ∧ w'.cell? ⟨b, off + 1, none⟩ = some (.int .i64 x.num) ∧ w'.cell? ⟨b, off + 2, none⟩ = some (.slice a' x.args.length c') ∧ Below w1.heap.size w1 w') W' := fun W' hW' => ⟨cell_ext e0 hW', cell_ext e1 hW', cell_ext e2 hW', cell_ext s0 hW', cell_ext s1 hW', cell_ext s2 hW', cell_ext s3 hW', cell_ext s4 hW', cell_ext s5 hW', cell_ext s6 hW', cell_ext s7 hW', cell_ext s8 hW', cell_ext g3 hW', cell_ext g4 hW', cell_ext d0 hW', cell_ext d1 hW', cell_ext d2 hW', hW'⟩
  have KEEP := Lib.hid KEEP
  go_region_held3 (fun w' : World => w'.cell? ⟨W.heap.size, 0, none⟩ = some (.int .i64 4) ∧ w'.cell? ⟨W.heap.size, 1, none⟩ = some (.int .i64 0) ∧ w'.cell? ⟨W.heap.size, 2, none⟩ = some (.slice a 2 cap) ∧ w'.cell? ⟨B, 0, none⟩ = some (.int .i64 n) ∧ w'.cell? ⟨B, 1, none⟩ = some (.slice ia s.inl.length icap) ∧ w'.cell? ⟨B, 2, none⟩ = some (.slice oa s.outl.length ocap) ∧ w'.cell? ⟨B, 3, none⟩ = some (.int .i64 h0) ∧ w'.cell? ⟨B, 4, none⟩ = some (.int .i64 h1) ∧ w'.cell? ⟨B, 5, none⟩ = some (.int .i64 h2) ∧ w'.cell? ⟨B, 6, none⟩ = some (.int .i64 h3) ∧ w'.cell? ⟨B, 7, none⟩ = some (.int .i64 h4) ∧ w'.cell? ⟨B, 8, none⟩ = some (vv0) ∧ w'.cell? ⟨B + 3, 0, none⟩ = some (.func (.func 45) #[] #[.pointer (some ⟨B + 4, 0, none⟩), .pointer (some ⟨B, 0, none⟩), .pointer (some ⟨B + 3, 0, none⟩), .pointer (some ⟨B + 2, 0, none⟩), .pointer (some ⟨B + 1, 0, none⟩)]) ∧ w'.cell? ⟨B + 4, 0, none⟩ = some (.func (.func 44) #[] #[.pointer (some ⟨B, 0, none⟩), .pointer (some ⟨B + 3, 0, none⟩)]) ∧ w'.cell? ⟨b, off, none⟩ = some (.int .i64 x.op) ∧ w'.cell? ⟨b, off + 1, none⟩ = some (.int .i64 x.num) ∧ w'.cell? ⟨b, off + 2, none⟩ = some (.slice a' x.args.length c') ∧ Below w1.heap.size w1 w')
    (first | (apply KEEP.out; first | assumption | (apply Below.drew; assumption)))
    (first | (go_at_call 45; refine (HVAL.out _ (ext_trans ex1 (by (first | assumption | (apply Below.drew; assumption))))).mono ?_; rintro _ w2 ⟨_, rfl, hb2, rfl⟩; have hbb : Below w1.heap.size w1 w2 := ext_trans (by (first | assumption | (apply Below.drew; assumption))) hb2))
  have ex2 := ext_trans ex1 hbb
  have r1' := r1.ext hbb
  clear e0 e1 e2 s0 s1 s2 s3 s4 s5 s6 s7 s8 g1 g2 g3 g4 d0 d1 d2 KEEP hrefl hbb
  obtain ⟨e0, e1, e2⟩ := r1'.three
  obtain ⟨s0, s1, s2, s3, s4, s5, s6, s7, s8⟩ := (henv.ext ex2).s.nine
  obtain ⟨g1, g2, g3, g4⟩ := (henv.ext ex2).cells
  have d0 := (hel2.ext ex2).c0
  have d1 := (hel2.ext ex2).c1
  have d2 := (hel2.ext ex2).c2
  go_wp2_with fail
  have hrefl := Below.refl w2.heap.size w2
  have KEEP : ∀ W', Below w2.heap.size w2 W' → (fun w' : World => w'.cell? ⟨W.heap.size, 0, none⟩ = some (.int .i64 4) ∧ w'.cell? ⟨W.heap.size, 1, none⟩ = some (.int .i64 0) ∧ w'.cell? ⟨W.heap.size, 2, none⟩ = some (.slice a 2 cap) ∧ w'.cell? ⟨B, 0, none⟩ = some (.int .i64 n) ∧ w'.cell? ⟨B, 1, none⟩ = some (.slice ia s.inl.length icap) ∧ w'.cell? ⟨B, 2, none⟩ = some (.slice oa s.outl.length ocap) ∧ w'.cell? ⟨B, 3, none⟩ = some (.int .i64 h0) ∧ w'.cell? ⟨B, 4, none⟩ = some (.int .i64 h1) ∧ w'.cell? ⟨B, 5, none⟩ = some (.int .i64 h2) ∧ w'.cell? ⟨B, 6, none⟩ = some (.int .i64 h3) ∧ w'.cell? ⟨B, 7, none⟩ = some (.int .i64 h4) ∧ w'.cell? ⟨B, 8, none⟩ = some (vv0) ∧ w'.cell? ⟨B + 3, 0, none⟩ = some (.func (.func 45) #[] #[.pointer (some ⟨B + 4, 0, none⟩), .pointer (some ⟨B, 0, none⟩), .pointer (some ⟨B + 3, 0, none⟩), .pointer (some ⟨B + 2, 0, none⟩), .pointer (some ⟨B + 1, 0, none⟩)]) ∧ w'.cell? ⟨B + 4, 0, none⟩ = some (.func (.func 44) #[] #[.pointer (some ⟨B, 0, none⟩), .pointer (some ⟨B + 3, 0, none⟩)]) ∧ w'.cell? ⟨b2, off2, none⟩ = some (.int .i64 y.op) ∧ w'.cell? ⟨b2, off2 + 1, none⟩ = some (.int .i64 y.num) ∧ w'.cell? ⟨b2, off2 + 2, none⟩ = some (.slice a2 y.args.length c2) ∧ Below w2.heap.size w2 w') W' := fun W' hW' => ⟨cell_ext e0 hW', cell_ext e1 hW', cell_ext e2 hW', cell_ext s0 hW', cell_ext s1 hW', cell_ext s2 hW', cell_ext s3 hW', cell_ext s4 hW', cell_ext s5 hW', cell_ext s6 hW', cell_ext s7 hW', cell_ext s8 hW', cell_ext g3 hW', cell_ext g4 hW', cell_ext d0 hW', cell_ext d1 hW', cell_ext d2 hW', hW'⟩
  have KEEP := Lib.hid KEEP
  go_region_held3 (fun w' : World => w'.cell? ⟨W.heap.size, 0, none⟩ = some (.int .i64 4) ∧ w'.cell? ⟨W.heap.size, 1, none⟩ = some (.int .i64 0) ∧ w'.cell? ⟨W.heap.size, 2, none⟩ = some (.slice a 2 cap) ∧ w'.cell? ⟨B, 0, none⟩ = some (.int .i64 n) ∧ w'.cell? ⟨B, 1, none⟩ = some (.slice ia s.inl.length icap) ∧ w'.cell? ⟨B, 2, none⟩ = some (.slice oa s.outl.length ocap) ∧ w'.cell? ⟨B, 3, none⟩ = some (.int .i64 h0) ∧ w'.cell? ⟨B, 4, none⟩ = some (.int .i64 h1) ∧ w'.cell? ⟨B, 5, none⟩ = some (.int .i64 h2) ∧ w'.cell? ⟨B, 6, none⟩ = some (.int .i64 h3) ∧ w'.cell? ⟨B, 7, none⟩ = some (.int .i64 h4) ∧ w'.cell? ⟨B, 8, none⟩ = some (vv0) ∧ w'.cell? ⟨B + 3, 0, none⟩ = some (.func (.func 45) #[] #[.pointer (some ⟨B + 4, 0, none⟩), .pointer (some ⟨B, 0, none⟩), .pointer (some ⟨B + 3, 0, none⟩), .pointer (some ⟨B + 2, 0, none⟩), .pointer (some ⟨B + 1, 0, none⟩)]) ∧ w'.cell? ⟨B + 4, 0, none⟩ = some (.func (.func 44) #[] #[.pointer (some ⟨B, 0, none⟩), .pointer (some ⟨B + 3, 0, none⟩)]) ∧ w'.cell? ⟨b2, off2, none⟩ = some (.int .i64 y.op) ∧ w'.cell? ⟨b2, off2 + 1, none⟩ = some (.int .i64 y.num) ∧ w'.cell? ⟨b2, off2 + 2, none⟩ = some (.slice a2 y.args.length c2) ∧ Below w2.heap.size w2 w')
    (first | (apply KEEP.out; first | assumption | (apply Below.drew; assumption)))
    (first | (go_at_call 45; refine (HVAL2.out _ (ext_trans ex2 (by (first | assumption | (apply Below.drew; assumption))))).mono ?_; rintro _ w3 ⟨_, rfl, hb3, rfl⟩; have hbb : Below w2.heap.size w2 w3 := ext_trans (by (first | assumption | (apply Below.drew; assumption))) hb3))
  have ex3 := ext_trans ex2 hbb
  have r1'' := r1'.ext hbb
  clear e0 e1 e2 s0 s1 s2 s3 s4 s5 s6 s7 s8 g1 g2 g3 g4 d0 d1 d2 KEEP hrefl hbb hb2 hb3
  obtain ⟨e0, e1, e2⟩ := r1''.three
  obtain ⟨s0, s1, s2, s3, s4, s5, s6, s7, s8⟩ := (henv.ext ex3).s.nine
  obtain ⟨g1, g2, g3, g4⟩ := (henv.ext ex3).cells
  have HP1 := Lib.hid (process_quiet z s0)
  by_cases ha : 0 ≤ z ∧ z < n
  · have da : (decide (0 ≤ z) && decide (z < n)) = true := by simpa using ha
    rw [da] at HP1
    obtain ⟨ha0, ha1⟩ := ha
    by_cases hb : 0 ≤ z2 ∧ z2 < n
    · have db : (decide (0 ≤ z2) && decide (z2 < n)) = true := by simpa using hb
      obtain ⟨hb0, hb1⟩ := hb
      have DA := Lib.hid da
      have DB := Lib.hid db
      clear da db
      have hz5 : z = 0 ∨ z = 1 ∨ z = 2 ∨ z = 3 ∨ z = 4 := by omega
      go_wp2_with fail
      refine (HP1.out.mono fun _ _ h => h.post).mono ?_
      rintro _ w4 ⟨_, rfl, hb4, rfl⟩
      have ex4 := ext_trans ex3 hb4
      clear e0 e1 e2 s0 s1 s2 s3 s4 s5 s6 s7 s8 g1 g2 g3 g4
      obtain ⟨s0, s1, s2, s3, s4, s5, s6, s7, s8⟩ := (henv.ext ex4).s.nine
      obtain ⟨g1, g2, g3, g4⟩ := (henv.ext ex4).cells
      have HP2 := Lib.hid (process_quiet z2 s0)
      rw [DB.out] at HP2
      go_wp2_with fail
      refine (HP2.out.mono fun _ _ h => h.post).mono ?_
      rintro _ w5 ⟨_, rfl, hb5, rfl⟩
      have ex5 := ext_trans ex4 hb5
      clear s0 s1 s2 s3 s4 s5 s6 s7 s8 g1 g2 g3 g4
      obtain ⟨s0, s1, s2, s3, s4, s5, s6, s7, s8⟩ := (henv.ext ex5).s.nine
      have HFIN := Lib.hid (fun h : Int => bit_test h z2)
      have HRR := Lib.hid (show R = flag (bitS (nth [h0, h1, h2, h3, h4] z.toNat) z2) by
        rw [HR.out]
        show flag (hearsV s z z2) = _
        unfold hearsV
        rw [HN.out, HH.out, decide_eq_true ha0, decide_eq_true ha1, decide_eq_true hb0, decide_eq_true hb1]
        rfl)
      rcases hz5 with rfl | rfl | rfl | rfl | rfl
      · go_wp2_with fail
        refine ((truth_quiet _ _).mono fun _ _ h => h.post).mono ?_
        rintro _ w6 ⟨_, rfl, hb6, rfl⟩
        go_wp2
        go_ret
        exact .mk (ext_trans ex5 hb6) (int_eq (by rw [HRR.out, HFIN.out h0]; rfl))
      · go_wp2_with fail
        refine ((truth_quiet _ _).mono fun _ _ h => h.post).mono ?_
        rintro _ w6 ⟨_, rfl, hb6, rfl⟩
        go_wp2
        go_ret
        exact .mk (ext_trans ex5 hb6) (int_eq (by rw [HRR.out, HFIN.out h1]; rfl))
      · go_wp2_with fail
        refine ((truth_quiet _ _).mono fun _ _ h => h.post).mono ?_
        rintro _ w6 ⟨_, rfl, hb6, rfl⟩
        go_wp2
        go_ret
        exact .mk (ext_trans ex5 hb6) (int_eq (by rw [HRR.out, HFIN.out h2]; rfl))
      · go_wp2_with fail
        refine ((truth_quiet _ _).mono fun _ _ h => h.post).mono ?_
        rintro _ w6 ⟨_, rfl, hb6, rfl⟩
        go_wp2
        go_ret
        exact .mk (ext_trans ex5 hb6) (int_eq (by rw [HRR.out, HFIN.out h3]; rfl))
      · go_wp2_with fail
        refine ((truth_quiet _ _).mono fun _ _ h => h.post).mono ?_
        rintro _ w6 ⟨_, rfl, hb6, rfl⟩
        go_wp2
        go_ret
        exact .mk (ext_trans ex5 hb6) (int_eq (by rw [HRR.out, HFIN.out h4]; rfl))
    · have db : (decide (0 ≤ z2) && decide (z2 < n)) = false := by simp; omega
      have DA := Lib.hid da
      have DB := Lib.hid db
      have HRR := Lib.hid (show R = 0 by
        rw [HR.out]
        show flag (hearsV s z z2) = _
        unfold hearsV
        rw [HN.out, decide_eq_true ha0, decide_eq_true ha1, Bool.true_and, Bool.true_and, db]
        rfl)
      clear da db hb
      go_wp2_with fail
      refine (HP1.out.mono fun _ _ h => h.post).mono ?_
      rintro _ w4 ⟨_, rfl, hb4, rfl⟩
      have ex4 := ext_trans ex3 hb4
      clear e0 e1 e2 s0 s1 s2 s3 s4 s5 s6 s7 s8 g1 g2 g3 g4
      obtain ⟨s0, s1, s2, s3, s4, s5, s6, s7, s8⟩ := (henv.ext ex4).s.nine
      obtain ⟨g1, g2, g3, g4⟩ := (henv.ext ex4).cells
      have HP2 := Lib.hid (process_quiet z2 s0)
      rw [DB.out] at HP2
      go_wp2_with fail
      refine (HP2.out.mono fun _ _ h => h.post).mono ?_
      rintro _ w5 ⟨_, rfl, hb5, rfl⟩
      have ex5 := ext_trans ex4 hb5
      clear s0 s1 s2 s3 s4 s5 s6 s7 s8 g1 g2 g3 g4
      go_wp2_with fail
      refine ((truth_quiet _ _).mono fun _ _ h => h.post).mono ?_
      rintro _ w6 ⟨_, rfl, hb6, rfl⟩
      go_wp2
      go_ret
      exact .mk (ext_trans ex5 hb6) (int_eq (by rw [HRR.out]; rfl))
  · have da : (decide (0 ≤ z) && decide (z < n)) = false := by simp; omega
    rw [da] at HP1
    have HRR := Lib.hid (show R = 0 by
      rw [HR.out]
      show flag (hearsV s z z2) = _
      unfold hearsV
      rw [HN.out, da]
      rfl)
    clear da ha
    go_wp2_with fail
    refine (HP1.out.mono fun _ _ h => h.post).mono ?_
    rintro _ w4 ⟨_, rfl, hb4, rfl⟩
    have ex4 := ext_trans ex3 hb4
    clear e0 e1 e2 s0 s1 s2 s3 s4 s5 s6 s7 s8 g1 g2 g3 g4
    go_wp2_with fail
    refine ((truth_quiet _ _).mono fun _ _ h => h.post).mono ?_
    rintro _ w6 ⟨_, rfl, hb6, rfl⟩
    go_wp2
    go_ret
    exact .mk (ext_trans ex4 hb6) (int_eq (by rw [HRR.out]; rfl))

set_option maxRecDepth 100000 in
set_option maxHeartbeats 2000000 in
theorem evVal_rest (s : Sc) (hs : ScOk s) (n h0 h1 h2 h3 h4 vars op : Int) (x y : Ex) (hn : s.n = n) (hh : s.hears = [h0, h1, h2, h3, h4]) (hop : 5 ≤ op ∧ op ≤ 9) (hk : kindOf x.op = argKind op) (hk2 : kindOf y.op = argKind op) (hx : Wf vars x) (hy : Wf vars y)
    (ih : EvVal s n h0 h1 h2 h3 h4 vars x) (ih2 : EvVal s n h0 h1 h2 h3 h4 vars y) : EvVal s n h0 h1 h2 h3 h4 vars (twoE op x y) := by
  intro S S1 S2 S3 W B v iv ov vv0 vv vs henv hv hi ho hvv hvl hsm hsz hd
  have HI := hi
  have HO := ho
  have HV := hvv
  obtain ⟨ia, icap, rfl, ai, i1, i2, ci, wi⟩ := hi
  obtain ⟨oa, ocap, rfl, ao, o1, o2, co, wo⟩ := ho
  obtain ⟨va, vcap, rfl, av, v1, v2, cv, wv⟩ := hvv
  unfold maxLen at i2 o2 v2
  have hn0 := hs.n0
  have hn1 := hs.n1
  rw [hn] at hn0 hn1
  rw [size_two] at hsz
  rw [depth_two] at hd
  have hvr := val_range hs hx vs hvl hsm
  have hvr2 := val_range hs hy vs hvl hsm
  obtain ⟨a, cap, b, off, a', c', b2, off2, a2, c2, rfl, hel, hel2⟩ := hv.two
  have HVAL := Lib.hid (fun W' (hW' : Below W.heap.size W W') => ih _ _ _ _ W' B _ _ _ _ _ vs (henv.ext hW') (hel.ex.ext hW') (HI.ext hW') (HO.ext hW') (HV.ext hW') hvl hsm (by omega) (by omega))
  have HVAL2 := Lib.hid (fun W' (hW' : Below W.heap.size W W') => ih2 _ _ _ _ W' B _ _ _ _ _ vs (henv.ext hW') (hel2.ex.ext hW') (HI.ext hW') (HO.ext hW') (HV.ext hW') hvl hsm (by omega) (by omega))
  obtain ⟨R, hR⟩ : ∃ R, R = valE s (twoE op x y) vs := ⟨_, rfl⟩
  rw [← hR]
  obtain ⟨z, hz⟩ : ∃ z, z = valE s x vs := ⟨_, rfl⟩
  obtain ⟨z2, hz2⟩ : ∃ z2, z2 = valE s y vs := ⟨_, rfl⟩
  rw [valE_two s (by omega) (by omega), ← hz, ← hz2] at hR
  rw [← hz] at hvr HVAL
  rw [← hz2] at hvr2 HVAL2
  have hsz1 := sizeE_pos x
  have hsz2 := sizeE_pos y
  have HN := Lib.hid hn
  have HH := Lib.hid hh
  have HR := Lib.hid hR
  have HVL := Lib.hid hvl
  clear ci co cv hn hvl hh hz hz2 hR
  obtain ⟨za0, za1, za2⟩ := hvr
  obtain ⟨zb0, zb1, zb2⟩ := hvr2
  have zl0 : -281474976710656 ≤ z := by omega
  have zl1 : z ≤ 281474976710656 := by omega
  have zr0 : -281474976710656 ≤ z2 := by omega
  have zr1 : z2 ≤ 281474976710656 := by omega
  clear za0 za1 zb0 zb1
  have q := hel.idx
  have q2 := hel2.idx
  obtain ⟨hop5, hop9⟩ := hop
  have f0 : (op == 0) = false := beq_eq_false_iff_ne.2 (by omega)
  have f1 : (op == 1) = false := beq_eq_false_iff_ne.2 (by omega)
  have f13 : (op == 13) = false := beq_eq_false_iff_ne.2 (by omega)
  have f14 : (op == 14) = false := beq_eq_false_iff_ne.2 (by omega)
  have f15 : (op == 15) = false := beq_eq_false_iff_ne.2 (by omega)
  have f2 : (op == 2) = false := beq_eq_false_iff_ne.2 (by omega)
  have f3 : (op == 3) = false := beq_eq_false_iff_ne.2 (by omega)
  have f12 : (op == 12) = false := beq_eq_false_iff_ne.2 (by omega)
  have f4 : (op == 4) = false := beq_eq_false_iff_ne.2 (by omega)
  have f10 : (op == 10) = false := beq_eq_false_iff_ne.2 (by omega)
  have f11 : (op == 11) = false := beq_eq_false_iff_ne.2 (by omega)
  clear za2 zb2
  have ex1 := ext_alloc W (.cells #[.int .i64 op, .int .i64 0, .slice a 2 cap] 24)
  have r1 := row_new W [.int .i64 op, .int .i64 0, .slice a 2 cap] 24
  go_enter Tryd.func45, Tryd.ntmps45
  go_wp2_with fail
  obtain ⟨w1, hw1⟩ : ∃ w1, w1 = W.alloc (.cells #[.int .i64 op, .int .i64 0, .slice a 2 cap] 24) := ⟨_, rfl⟩
  rw [← hw1]
  rw [← hw1] at ex1 r1
  have HW := Lib.hid hw1
  clear hw1
  obtain ⟨e0, e1, e2⟩ := r1.three
  obtain ⟨s0, s1, s2, s3, s4, s5, s6, s7, s8⟩ := (henv.ext ex1).s.nine
  obtain ⟨g1, g2, g3, g4⟩ := (henv.ext ex1).cells
  have d0 := (hel.ext ex1).c0
  have d1 := (hel.ext ex1).c1
  have d2 := (hel.ext ex1).c2
  have hrefl := Below.refl w1.heap.size w1
  have KEEP : ∀ W', Below w1.heap.size w1 W' → (fun w' : World => w'.cell? ⟨W.heap.size, 0, none⟩ = some (.int .i64 op) ∧ w'.cell? ⟨W.heap.size, 1, none⟩ = some (.int .i64 0) ∧ w'.cell? ⟨W.heap.size, 2, none⟩ = some (.slice a 2 cap) ∧ w'.cell? ⟨B, 0, none⟩ = some (.int .i64 n) ∧ w'.cell? ⟨B, 1, none⟩ = some (.slice ia s.inl.length icap) ∧ w'.cell? ⟨B, 2, none⟩ = some (.slice oa s.outl.length ocap) ∧ w'.cell? ⟨B, 3, none⟩ = some (.int .i64 h0) ∧ w'.cell? ⟨B, 4, none⟩ = some (.int .i64 h1) ∧ w'.cell? ⟨B, 5, none⟩ = some (.int .i64 h2) ∧ w'.cell? ⟨B, 6, none⟩ = some (.int .i64 h3) ∧ w'.cell? ⟨B, 7, none⟩ = some (.int .i64 h4) ∧ w'.cell? ⟨B, 8, none⟩ = some (vv0) ∧ w'.cell? ⟨B + 3, 0, none⟩ = some (.func (.func 45) #[] #[.pointer (some ⟨B + 4, 0, none⟩), .pointer (some ⟨B, 0, none⟩), .pointer (some ⟨B + 3, 0, none⟩), .pointer (some ⟨B + 2, 0, none⟩), .pointer (some ⟨B + 1, 0, none⟩)]) ∧ w'.cell? ⟨B + 4, 0, none⟩ = some (.func (.func 44) #[] #[.pointer (some ⟨B, 0, none⟩), .pointer (some ⟨B + 3, 0, none⟩)]) ∧ w'.cell? ⟨b, off, none⟩ = some (.int .i64 x.op) ∧ w'.cell? ⟨b, off + 1, none⟩ = some (.int .i64 x.num) ∧ w'.cell? ⟨b, off + 2, none⟩ = some (.slice a' x.args.length c') ∧ Below w1.heap.size w1 w') W' := fun W' hW' => ⟨cell_ext e0 hW', cell_ext e1 hW', cell_ext e2 hW', cell_ext s0 hW', cell_ext s1 hW', cell_ext s2 hW', cell_ext s3 hW', cell_ext s4 hW', cell_ext s5 hW', cell_ext s6 hW', cell_ext s7 hW', cell_ext s8 hW', cell_ext g3 hW', cell_ext g4 hW', cell_ext d0 hW', cell_ext d1 hW', cell_ext d2 hW', hW'⟩
  have KEEP := Lib.hid KEEP
  go_region_held3 (fun w' : World => w'.cell? ⟨W.heap.size, 0, none⟩ = some (.int .i64 op) ∧ w'.cell? ⟨W.heap.size, 1, none⟩ = some (.int .i64 0) ∧ w'.cell? ⟨W.heap.size, 2, none⟩ = some (.slice a 2 cap) ∧ w'.cell? ⟨B, 0, none⟩ = some (.int .i64 n) ∧ w'.cell? ⟨B, 1, none⟩ = some (.slice ia s.inl.length icap) ∧ w'.cell? ⟨B, 2, none⟩ = some (.slice oa s.outl.length ocap) ∧ w'.cell? ⟨B, 3, none⟩ = some (.int .i64 h0) ∧ w'.cell? ⟨B, 4, none⟩ = some (.int .i64 h1) ∧ w'.cell? ⟨B, 5, none⟩ = some (.int .i64 h2) ∧ w'.cell? ⟨B, 6, none⟩ = some (.int .i64 h3) ∧ w'.cell? ⟨B, 7, none⟩ = some (.int .i64 h4) ∧ w'.cell? ⟨B, 8, none⟩ = some (vv0) ∧ w'.cell? ⟨B + 3, 0, none⟩ = some (.func (.func 45) #[] #[.pointer (some ⟨B + 4, 0, none⟩), .pointer (some ⟨B, 0, none⟩), .pointer (some ⟨B + 3, 0, none⟩), .pointer (some ⟨B + 2, 0, none⟩), .pointer (some ⟨B + 1, 0, none⟩)]) ∧ w'.cell? ⟨B + 4, 0, none⟩ = some (.func (.func 44) #[] #[.pointer (some ⟨B, 0, none⟩), .pointer (some ⟨B + 3, 0, none⟩)]) ∧ w'.cell? ⟨b, off, none⟩ = some (.int .i64 x.op) ∧ w'.cell? ⟨b, off + 1, none⟩ = some (.int .i64 x.num) ∧ w'.cell? ⟨b, off + 2, none⟩ = some (.slice a' x.args.length c') ∧ Below w1.heap.size w1 w')
    (first | (apply KEEP.out; first | assumption | (apply Below.drew; assumption)))
    (first | (go_at_call 45; refine (HVAL.out _ (ext_trans ex1 (by (first | assumption | (apply Below.drew; assumption))))).mono ?_; rintro _ w2 ⟨_, rfl, hb2, rfl⟩; have hbb : Below w1.heap.size w1 w2 := ext_trans (by (first | assumption | (apply Below.drew; assumption))) hb2))
  have ex2 := ext_trans ex1 hbb
  have r1' := r1.ext hbb
  clear e0 e1 e2 s0 s1 s2 s3 s4 s5 s6 s7 s8 g1 g2 g3 g4 d0 d1 d2 KEEP hrefl hbb
  obtain ⟨e0, e1, e2⟩ := r1'.three
  obtain ⟨s0, s1, s2, s3, s4, s5, s6, s7, s8⟩ := (henv.ext ex2).s.nine
  obtain ⟨g1, g2, g3, g4⟩ := (henv.ext ex2).cells
  have d0 := (hel2.ext ex2).c0
  have d1 := (hel2.ext ex2).c1
  have d2 := (hel2.ext ex2).c2
  go_wp2_with fail
  have hrefl := Below.refl w2.heap.size w2
  have KEEP : ∀ W', Below w2.heap.size w2 W' → (fun w' : World => w'.cell? ⟨W.heap.size, 0, none⟩ = some (.int .i64 op) ∧ w'.cell? ⟨W.heap.size, 1, none⟩ = some (.int .i64 0) ∧ w'.cell? ⟨W.heap.size, 2, none⟩ = some (.slice a 2 cap) ∧ w'.cell? ⟨B, 0, none⟩ = some (.int .i64 n) ∧ w'.cell? ⟨B, 1, none⟩ = some (.slice ia s.inl.length icap) ∧ w'.cell? ⟨B, 2, none⟩ = some (.slice oa s.outl.length ocap) ∧ w'.cell? ⟨B, 3, none⟩ = some (.int .i64 h0) ∧ w'.cell? ⟨B, 4, none⟩ = some (.int .i64 h1) ∧ w'.cell? ⟨B, 5, none⟩ = some (.int .i64 h2) ∧ w'.cell? ⟨B, 6, none⟩ = some (.int .i64 h3) ∧ w'.cell? ⟨B, 7, none⟩ = some (.int .i64 h4) ∧ w'.cell? ⟨B, 8, none⟩ = some (vv0) ∧ w'.cell? ⟨B + 3, 0, none⟩ = some (.func (.func 45) #[] #[.pointer (some ⟨B + 4, 0, none⟩), .pointer (some ⟨B, 0, none⟩), .pointer (some ⟨B + 3, 0, none⟩), .pointer (some ⟨B + 2, 0, none⟩), .pointer (some ⟨B + 1, 0, none⟩)]) ∧ w'.cell? ⟨B + 4, 0, none⟩ = some (.func (.func 44) #[] #[.pointer (some ⟨B, 0, none⟩), .pointer (some ⟨B + 3, 0, none⟩)]) ∧ w'.cell? ⟨b2, off2, none⟩ = some (.int .i64 y.op) ∧ w'.cell? ⟨b2, off2 + 1, none⟩ = some (.int .i64 y.num) ∧ w'.cell? ⟨b2, off2 + 2, none⟩ = some (.slice a2 y.args.length c2) ∧ Below w2.heap.size w2 w') W' := fun W' hW' => ⟨cell_ext e0 hW', cell_ext e1 hW', cell_ext e2 hW', cell_ext s0 hW', cell_ext s1 hW', cell_ext s2 hW', cell_ext s3 hW', cell_ext s4 hW', cell_ext s5 hW', cell_ext s6 hW', cell_ext s7 hW', cell_ext s8 hW', cell_ext g3 hW', cell_ext g4 hW', cell_ext d0 hW', cell_ext d1 hW', cell_ext d2 hW', hW'⟩
  have KEEP := Lib.hid KEEP
  go_region_held3 (fun w' : World => w'.cell? ⟨W.heap.size, 0, none⟩ = some (.int .i64 op) ∧ w'.cell? ⟨W.heap.size, 1, none⟩ = some (.int .i64 0) ∧ w'.cell? ⟨W.heap.size, 2, none⟩ = some (.slice a 2 cap) ∧ w'.cell? ⟨B, 0, none⟩ = some (.int .i64 n) ∧ w'.cell? ⟨B, 1, none⟩ = some (.slice ia s.inl.length icap) ∧ w'.cell? ⟨B, 2, none⟩ = some (.slice oa s.outl.length ocap) ∧ w'.cell? ⟨B, 3, none⟩ = some (.int .i64 h0) ∧ w'.cell? ⟨B, 4, none⟩ = some (.int .i64 h1) ∧ w'.cell? ⟨B, 5, none⟩ = some (.int .i64 h2) ∧ w'.cell? ⟨B, 6, none⟩ = some (.int .i64 h3) ∧ w'.cell? ⟨B, 7, none⟩ = some (.int .i64 h4) ∧ w'.cell? ⟨B, 8, none⟩ = some (vv0) ∧ w'.cell? ⟨B + 3, 0, none⟩ = some (.func (.func 45) #[] #[.pointer (some ⟨B + 4, 0, none⟩), .pointer (some ⟨B, 0, none⟩), .pointer (some ⟨B + 3, 0, none⟩), .pointer (some ⟨B + 2, 0, none⟩), .pointer (some ⟨B + 1, 0, none⟩)]) ∧ w'.cell? ⟨B + 4, 0, none⟩ = some (.func (.func 44) #[] #[.pointer (some ⟨B, 0, none⟩), .pointer (some ⟨B + 3, 0, none⟩)]) ∧ w'.cell? ⟨b2, off2, none⟩ = some (.int .i64 y.op) ∧ w'.cell? ⟨b2, off2 + 1, none⟩ = some (.int .i64 y.num) ∧ w'.cell? ⟨b2, off2 + 2, none⟩ = some (.slice a2 y.args.length c2) ∧ Below w2.heap.size w2 w')
    (first | (apply KEEP.out; first | assumption | (apply Below.drew; assumption)))
    (first | (go_at_call 45; refine (HVAL2.out _ (ext_trans ex2 (by (first | assumption | (apply Below.drew; assumption))))).mono ?_; rintro _ w3 ⟨_, rfl, hb3, rfl⟩; have hbb : Below w2.heap.size w2 w3 := ext_trans (by (first | assumption | (apply Below.drew; assumption))) hb3))
  have ex3 := ext_trans ex2 hbb
  have r1'' := r1'.ext hbb
  clear e0 e1 e2 s0 s1 s2 s3 s4 s5 s6 s7 s8 g1 g2 g3 g4 d0 d1 d2 KEEP hrefl hbb hb2 hb3
  obtain ⟨e0, e1, e2⟩ := r1''.three
  obtain ⟨s0, s1, s2, s3, s4, s5, s6, s7, s8⟩ := (henv.ext ex3).s.nine
  obtain ⟨g1, g2, g3, g4⟩ := (henv.ext ex3).cells
  have HCMP := Lib.hid (compared_quiet w3 op z z2 hop5 hop9 ⟨zl0, zl1⟩ ⟨zr0, zr1⟩)
  go_wp2_with fail
  refine (HCMP.out.mono fun _ _ h => h.post).mono ?_
  rintro _ w4 ⟨_, rfl, hb4, rfl⟩
  go_wp2
  go_ret
  exact .mk (ext_trans ex3 hb4) (int_eq (by rw [HR.out, cmpV_two s hop5 hop9]))

set_option maxRecDepth 100000 in
set_option maxHeartbeats 2000000 in
theorem evVal_and (s : Sc) (hs : ScOk s) (n h0 h1 h2 h3 h4 vars op : Int) (x y : Ex) (hn : s.n = n) (hh : s.hears = [h0, h1, h2, h3, h4]) (hop : op = 10) (hk : kindOf x.op = argKind op) (hk2 : kindOf y.op = argKind op) (hx : Wf vars x) (hy : Wf vars y)
    (ih : EvVal s n h0 h1 h2 h3 h4 vars x) (ih2 : EvVal s n h0 h1 h2 h3 h4 vars y) : EvVal s n h0 h1 h2 h3 h4 vars (twoE op x y) := by
  intro S S1 S2 S3 W B v iv ov vv0 vv vs henv hv hi ho hvv hvl hsm hsz hd
  have HI := hi
  have HO := ho
  have HV := hvv
  obtain ⟨ia, icap, rfl, ai, i1, i2, ci, wi⟩ := hi
  obtain ⟨oa, ocap, rfl, ao, o1, o2, co, wo⟩ := ho
  obtain ⟨va, vcap, rfl, av, v1, v2, cv, wv⟩ := hvv
  unfold maxLen at i2 o2 v2
  have hn0 := hs.n0
  have hn1 := hs.n1
  rw [hn] at hn0 hn1
  rw [size_two] at hsz
  rw [depth_two] at hd
  have hvr := val_range hs hx vs hvl hsm
  have hvr2 := val_range hs hy vs hvl hsm
  obtain ⟨a, cap, b, off, a', c', b2, off2, a2, c2, rfl, hel, hel2⟩ := hv.two
  have HVAL := Lib.hid (fun W' (hW' : Below W.heap.size W W') => ih _ _ _ _ W' B _ _ _ _ _ vs (henv.ext hW') (hel.ex.ext hW') (HI.ext hW') (HO.ext hW') (HV.ext hW') hvl hsm (by omega) (by omega))
  have HVAL2 := Lib.hid (fun W' (hW' : Below W.heap.size W W') => ih2 _ _ _ _ W' B _ _ _ _ _ vs (henv.ext hW') (hel2.ex.ext hW') (HI.ext hW') (HO.ext hW') (HV.ext hW') hvl hsm (by omega) (by omega))
  obtain ⟨R, hR⟩ : ∃ R, R = valE s (twoE op x y) vs := ⟨_, rfl⟩
  rw [← hR]
  obtain ⟨z, hz⟩ : ∃ z, z = valE s x vs := ⟨_, rfl⟩
  obtain ⟨z2, hz2⟩ : ∃ z2, z2 = valE s y vs := ⟨_, rfl⟩
  rw [valE_two s (by omega) (by omega), ← hz, ← hz2] at hR
  rw [← hz] at hvr HVAL
  rw [← hz2] at hvr2 HVAL2
  have hsz1 := sizeE_pos x
  have hsz2 := sizeE_pos y
  have HN := Lib.hid hn
  have HH := Lib.hid hh
  have HR := Lib.hid hR
  have HVL := Lib.hid hvl
  clear ci co cv hn hvl hh hz hz2 hR
  obtain ⟨za0, za1, za2⟩ := hvr
  obtain ⟨zb0, zb1, zb2⟩ := hvr2
  have zl0 : -281474976710656 ≤ z := by omega
  have zl1 : z ≤ 281474976710656 := by omega
  have zr0 : -281474976710656 ≤ z2 := by omega
  have zr1 : z2 ≤ 281474976710656 := by omega
  clear za0 za1 zb0 zb1
  have q := hel.idx
  have q2 := hel2.idx
  subst hop
  have ha01 := za2 (hk.trans rfl)
  have hb01 := zb2 (hk2.trans rfl)
  have HB := Lib.hid (bits_01 ha01 hb01)
  clear ha01 hb01
  clear za2 zb2
  have ex1 := ext_alloc W (.cells #[.int .i64 10, .int .i64 0, .slice a 2 cap] 24)
  have r1 := row_new W [.int .i64 10, .int .i64 0, .slice a 2 cap] 24
  go_enter Tryd.func45, Tryd.ntmps45
  go_wp2_with fail
  obtain ⟨w1, hw1⟩ : ∃ w1, w1 = W.alloc (.cells #[.int .i64 10, .int .i64 0, .slice a 2 cap] 24) := ⟨_, rfl⟩
  rw [← hw1]
  rw [← hw1] at ex1 r1
  have HW := Lib.hid hw1
  clear hw1
  obtain ⟨e0, e1, e2⟩ := r1.three
  obtain ⟨s0, s1, s2, s3, s4, s5, s6, s7, s8⟩ := (henv.ext ex1).s.nine
  obtain ⟨g1, g2, g3, g4⟩ := (henv.ext ex1).cells
  have d0 := (hel.ext ex1).c0
  have d1 := (hel.ext ex1).c1
  have d2 := (hel.ext ex1).c2
  have hrefl := Below.refl w1.heap.size w1
  have KEEP : ∀ W', Below w1.heap.size w1 W' → (fun w' : World => w'.cell? ⟨W.heap.size, 0, none⟩ = some (.int .i64 10) ∧ w'.cell? ⟨W.heap.size, 1, none⟩ = some (.int .i64 0) ∧ w'.cell? ⟨W.heap.size, 2, none⟩ = some (.slice a 2 cap) ∧ w'.cell? ⟨B, 0, none⟩ = some (.int .i64 n) ∧ w'.cell? ⟨B, 1, none⟩ = some (.slice ia s.inl.length icap) ∧ w'.cell? ⟨B, 2, none⟩ = some (.slice oa s.outl.length ocap) ∧ w'.cell? ⟨B, 3, none⟩ = some (.int .i64 h0) ∧ w'.cell? ⟨B, 4, none⟩ = some (.int .i64 h1) ∧ w'.cell? ⟨B, 5, none⟩ = some (.int .i64 h2) ∧ w'.cell? ⟨B, 6, none⟩ = some (.int .i64 h3) ∧ w'.cell? ⟨B, 7, none⟩ = some (.int .i64 h4) ∧ w'.cell? ⟨B, 8, none⟩ = some (vv0) ∧ w'.cell? ⟨B + 3, 0, none⟩ = some (.func (.func 45) #[] #[.pointer (some ⟨B + 4, 0, none⟩), .pointer (some ⟨B, 0, none⟩), .pointer (some ⟨B + 3, 0, none⟩), .pointer (some ⟨B + 2, 0, none⟩), .pointer (some ⟨B + 1, 0, none⟩)]) ∧ w'.cell? ⟨B + 4, 0, none⟩ = some (.func (.func 44) #[] #[.pointer (some ⟨B, 0, none⟩), .pointer (some ⟨B + 3, 0, none⟩)]) ∧ w'.cell? ⟨b, off, none⟩ = some (.int .i64 x.op) ∧ w'.cell? ⟨b, off + 1, none⟩ = some (.int .i64 x.num) ∧ w'.cell? ⟨b, off + 2, none⟩ = some (.slice a' x.args.length c') ∧ Below w1.heap.size w1 w') W' := fun W' hW' => ⟨cell_ext e0 hW', cell_ext e1 hW', cell_ext e2 hW', cell_ext s0 hW', cell_ext s1 hW', cell_ext s2 hW', cell_ext s3 hW', cell_ext s4 hW', cell_ext s5 hW', cell_ext s6 hW', cell_ext s7 hW', cell_ext s8 hW', cell_ext g3 hW', cell_ext g4 hW', cell_ext d0 hW', cell_ext d1 hW', cell_ext d2 hW', hW'⟩
  have KEEP := Lib.hid KEEP
  go_region_held3 (fun w' : World => w'.cell? ⟨W.heap.size, 0, none⟩ = some (.int .i64 10) ∧ w'.cell? ⟨W.heap.size, 1, none⟩ = some (.int .i64 0) ∧ w'.cell? ⟨W.heap.size, 2, none⟩ = some (.slice a 2 cap) ∧ w'.cell? ⟨B, 0, none⟩ = some (.int .i64 n) ∧ w'.cell? ⟨B, 1, none⟩ = some (.slice ia s.inl.length icap) ∧ w'.cell? ⟨B, 2, none⟩ = some (.slice oa s.outl.length ocap) ∧ w'.cell? ⟨B, 3, none⟩ = some (.int .i64 h0) ∧ w'.cell? ⟨B, 4, none⟩ = some (.int .i64 h1) ∧ w'.cell? ⟨B, 5, none⟩ = some (.int .i64 h2) ∧ w'.cell? ⟨B, 6, none⟩ = some (.int .i64 h3) ∧ w'.cell? ⟨B, 7, none⟩ = some (.int .i64 h4) ∧ w'.cell? ⟨B, 8, none⟩ = some (vv0) ∧ w'.cell? ⟨B + 3, 0, none⟩ = some (.func (.func 45) #[] #[.pointer (some ⟨B + 4, 0, none⟩), .pointer (some ⟨B, 0, none⟩), .pointer (some ⟨B + 3, 0, none⟩), .pointer (some ⟨B + 2, 0, none⟩), .pointer (some ⟨B + 1, 0, none⟩)]) ∧ w'.cell? ⟨B + 4, 0, none⟩ = some (.func (.func 44) #[] #[.pointer (some ⟨B, 0, none⟩), .pointer (some ⟨B + 3, 0, none⟩)]) ∧ w'.cell? ⟨b, off, none⟩ = some (.int .i64 x.op) ∧ w'.cell? ⟨b, off + 1, none⟩ = some (.int .i64 x.num) ∧ w'.cell? ⟨b, off + 2, none⟩ = some (.slice a' x.args.length c') ∧ Below w1.heap.size w1 w')
    (first | (apply KEEP.out; first | assumption | (apply Below.drew; assumption)))
    (first | (go_at_call 45; refine (HVAL.out _ (ext_trans ex1 (by (first | assumption | (apply Below.drew; assumption))))).mono ?_; rintro _ w2 ⟨_, rfl, hb2, rfl⟩; have hbb : Below w1.heap.size w1 w2 := ext_trans (by (first | assumption | (apply Below.drew; assumption))) hb2))
  have ex2 := ext_trans ex1 hbb
  have r1' := r1.ext hbb
  clear e0 e1 e2 s0 s1 s2 s3 s4 s5 s6 s7 s8 g1 g2 g3 g4 d0 d1 d2 KEEP hrefl hbb
  obtain ⟨e0, e1, e2⟩ := r1'.three
  obtain ⟨s0, s1, s2, s3, s4, s5, s6, s7, s8⟩ := (henv.ext ex2).s.nine
  obtain ⟨g1, g2, g3, g4⟩ := (henv.ext ex2).cells
  have d0 := (hel2.ext ex2).c0
  have d1 := (hel2.ext ex2).c1
  have d2 := (hel2.ext ex2).c2
  go_wp2_with fail
  have hrefl := Below.refl w2.heap.size w2
  have KEEP : ∀ W', Below w2.heap.size w2 W' → (fun w' : World => w'.cell? ⟨W.heap.size, 0, none⟩ = some (.int .i64 10) ∧ w'.cell? ⟨W.heap.size, 1, none⟩ = some (.int .i64 0) ∧ w'.cell? ⟨W.heap.size, 2, none⟩ = some (.slice a 2 cap) ∧ w'.cell? ⟨B, 0, none⟩ = some (.int .i64 n) ∧ w'.cell? ⟨B, 1, none⟩ = some (.slice ia s.inl.length icap) ∧ w'.cell? ⟨B, 2, none⟩ = some (.slice oa s.outl.length ocap) ∧ w'.cell? ⟨B, 3, none⟩ = some (.int .i64 h0) ∧ w'.cell? ⟨B, 4, none⟩ = some (.int .i64 h1) ∧ w'.cell? ⟨B, 5, none⟩ = some (.int .i64 h2) ∧ w'.cell? ⟨B, 6, none⟩ = some (.int .i64 h3) ∧ w'.cell? ⟨B, 7, none⟩ = some (.int .i64 h4) ∧ w'.cell? ⟨B, 8, none⟩ = some (vv0) ∧ w'.cell? ⟨B + 3, 0, none⟩ = some (.func (.func 45) #[] #[.pointer (some ⟨B + 4, 0, none⟩), .pointer (some ⟨B, 0, none⟩), .pointer (some ⟨B + 3, 0, none⟩), .pointer (some ⟨B + 2, 0, none⟩), .pointer (some ⟨B + 1, 0, none⟩)]) ∧ w'.cell? ⟨B + 4, 0, none⟩ = some (.func (.func 44) #[] #[.pointer (some ⟨B, 0, none⟩), .pointer (some ⟨B + 3, 0, none⟩)]) ∧ w'.cell? ⟨b2, off2, none⟩ = some (.int .i64 y.op) ∧ w'.cell? ⟨b2, off2 + 1, none⟩ = some (.int .i64 y.num) ∧ w'.cell? ⟨b2, off2 + 2, none⟩ = some (.slice a2 y.args.length c2) ∧ Below w2.heap.size w2 w') W' := fun W' hW' => ⟨cell_ext e0 hW', cell_ext e1 hW', cell_ext e2 hW', cell_ext s0 hW', cell_ext s1 hW', cell_ext s2 hW', cell_ext s3 hW', cell_ext s4 hW', cell_ext s5 hW', cell_ext s6 hW', cell_ext s7 hW', cell_ext s8 hW', cell_ext g3 hW', cell_ext g4 hW', cell_ext d0 hW', cell_ext d1 hW', cell_ext d2 hW', hW'⟩
  have KEEP := Lib.hid KEEP
  go_region_held3 (fun w' : World => w'.cell? ⟨W.heap.size, 0, none⟩ = some (.int .i64 10) ∧ w'.cell? ⟨W.heap.size, 1, none⟩ = some (.int .i64 0) ∧ w'.cell? ⟨W.heap.size, 2, none⟩ = some (.slice a 2 cap) ∧ w'.cell? ⟨B, 0, none⟩ = some (.int .i64 n) ∧ w'.cell? ⟨B, 1, none⟩ = some (.slice ia s.inl.length icap) ∧ w'.cell? ⟨B, 2, none⟩ = some (.slice oa s.outl.length ocap) ∧ w'.cell? ⟨B, 3, none⟩ = some (.int .i64 h0) ∧ w'.cell? ⟨B, 4, none⟩ = some (.int .i64 h1) ∧ w'.cell? ⟨B, 5, none⟩ = some (.int .i64 h2) ∧ w'.cell? ⟨B, 6, none⟩ = some (.int .i64 h3) ∧ w'.cell? ⟨B, 7, none⟩ = some (.int .i64 h4) ∧ w'.cell? ⟨B, 8, none⟩ = some (vv0) ∧ w'.cell? ⟨B + 3, 0, none⟩ = some (.func (.func 45) #[] #[.pointer (some ⟨B + 4, 0, none⟩), .pointer (some ⟨B, 0, none⟩), .pointer (some ⟨B + 3, 0, none⟩), .pointer (some ⟨B + 2, 0, none⟩), .pointer (some ⟨B + 1, 0, none⟩)]) ∧ w'.cell? ⟨B + 4, 0, none⟩ = some (.func (.func 44) #[] #[.pointer (some ⟨B, 0, none⟩), .pointer (some ⟨B + 3, 0, none⟩)]) ∧ w'.cell? ⟨b2, off2, none⟩ = some (.int .i64 y.op) ∧ w'.cell? ⟨b2, off2 + 1, none⟩ = some (.int .i64 y.num) ∧ w'.cell? ⟨b2, off2 + 2, none⟩ = some (.slice a2 y.args.length c2) ∧ Below w2.heap.size w2 w')
    (first | (apply KEEP.out; first | assumption | (apply Below.drew; assumption)))
    (first | (go_at_call 45; refine (HVAL2.out _ (ext_trans ex2 (by (first | assumption | (apply Below.drew; assumption))))).mono ?_; rintro _ w3 ⟨_, rfl, hb3, rfl⟩; have hbb : Below w2.heap.size w2 w3 := ext_trans (by (first | assumption | (apply Below.drew; assumption))) hb3))
  have ex3 := ext_trans ex2 hbb
  have r1'' := r1'.ext hbb
  clear e0 e1 e2 s0 s1 s2 s3 s4 s5 s6 s7 s8 g1 g2 g3 g4 d0 d1 d2 KEEP hrefl hbb hb2 hb3
  obtain ⟨e0, e1, e2⟩ := r1''.three
  obtain ⟨s0, s1, s2, s3, s4, s5, s6, s7, s8⟩ := (henv.ext ex3).s.nine
  obtain ⟨g1, g2, g3, g4⟩ := (henv.ext ex3).cells
  go_wp2
  go_ret
  exact .mk ex3 (int_eq (by rw [HR.out, HB.out.1]; rfl))

set_option maxRecDepth 100000 in
set_option maxHeartbeats 2000000 in
theorem evVal_or (s : Sc) (hs : ScOk s) (n h0 h1 h2 h3 h4 vars op : Int) (x y : Ex) (hn : s.n = n) (hh : s.hears = [h0, h1, h2, h3, h4]) (hop : op = 11) (hk : kindOf x.op = argKind op) (hk2 : kindOf y.op = argKind op) (hx : Wf vars x) (hy : Wf vars y)
    (ih : EvVal s n h0 h1 h2 h3 h4 vars x) (ih2 : EvVal s n h0 h1 h2 h3 h4 vars y) : EvVal s n h0 h1 h2 h3 h4 vars (twoE op x y) := by
  intro S S1 S2 S3 W B v iv ov vv0 vv vs henv hv hi ho hvv hvl hsm hsz hd
  have HI := hi
  have HO := ho
  have HV := hvv
  obtain ⟨ia, icap, rfl, ai, i1, i2, ci, wi⟩ := hi
  obtain ⟨oa, ocap, rfl, ao, o1, o2, co, wo⟩ := ho
  obtain ⟨va, vcap, rfl, av, v1, v2, cv, wv⟩ := hvv
  unfold maxLen at i2 o2 v2
  have hn0 := hs.n0
  have hn1 := hs.n1
  rw [hn] at hn0 hn1
  rw [size_two] at hsz
  rw [depth_two] at hd
  have hvr := val_range hs hx vs hvl hsm
  have hvr2 := val_range hs hy vs hvl hsm
  obtain ⟨a, cap, b, off, a', c', b2, off2, a2, c2, rfl, hel, hel2⟩ := hv.two
  have HVAL := Lib.hid (fun W' (hW' : Below W.heap.size W W') => ih _ _ _ _ W' B _ _ _ _ _ vs (henv.ext hW') (hel.ex.ext hW') (HI.ext hW') (HO.ext hW') (HV.ext hW') hvl hsm (by omega) (by omega))
  have HVAL2 := Lib.hid (fun W' (hW' : Below W.heap.size W W') => ih2 _ _ _ _ W' B _ _ _ _ _ vs (henv.ext hW') (hel2.ex.ext hW') (HI.ext hW') (HO.ext hW') (HV.ext hW') hvl hsm (by omega) (by omega))
  obtain ⟨R, hR⟩ : ∃ R, R = valE s (twoE op x y) vs := ⟨_, rfl⟩
  rw [← hR]
  obtain ⟨z, hz⟩ : ∃ z, z = valE s x vs := ⟨_, rfl⟩
  obtain ⟨z2, hz2⟩ : ∃ z2, z2 = valE s y vs := ⟨_, rfl⟩
  rw [valE_two s (by omega) (by omega), ← hz, ← hz2] at hR
  rw [← hz] at hvr HVAL
  rw [← hz2] at hvr2 HVAL2
  have hsz1 := sizeE_pos x
  have hsz2 := sizeE_pos y
  have HN := Lib.hid hn
  have HH := Lib.hid hh
  have HR := Lib.hid hR
  have HVL := Lib.hid hvl
  clear ci co cv hn hvl hh hz hz2 hR
  obtain ⟨za0, za1, za2⟩ := hvr
  obtain ⟨zb0, zb1, zb2⟩ := hvr2
  have zl0 : -281474976710656 ≤ z := by omega
  have zl1 : z ≤ 281474976710656 := by omega
  have zr0 : -281474976710656 ≤ z2 := by omega
  have zr1 : z2 ≤ 281474976710656 := by omega
  clear za0 za1 zb0 zb1
  have q := hel.idx
  have q2 := hel2.idx
  subst hop
  have ha01 := za2 (hk.trans rfl)
  have hb01 := zb2 (hk2.trans rfl)
  have HB := Lib.hid (bits_01 ha01 hb01)
  clear ha01 hb01
  clear za2 zb2
  have ex1 := ext_alloc W (.cells #[.int .i64 11, .int .i64 0, .slice a 2 cap] 24)
  have r1 := row_new W [.int .i64 11, .int .i64 0, .slice a 2 cap] 24
  go_enter Tryd.func45, Tryd.ntmps45
  go_wp2_with fail
  obtain ⟨w1, hw1⟩ : ∃ w1, w1 = W.alloc (.cells #[.int .i64 11, .int .i64 0, .slice a 2 cap] 24) := ⟨_, rfl⟩
  rw [← hw1]
  rw [← hw1] at ex1 r1
  have HW := Lib.hid hw1
  clear hw1
  obtain ⟨e0, e1, e2⟩ := r1.three
  obtain ⟨s0, s1, s2, s3, s4, s5, s6, s7, s8⟩ := (henv.ext ex1).s.nine
  obtain ⟨g1, g2, g3, g4⟩ := (henv.ext ex1).cells
  have d0 := (hel.ext ex1).c0
  have d1 := (hel.ext ex1).c1
  have d2 := (hel.ext ex1).c2
  have hrefl := Below.refl w1.heap.size w1
  have KEEP : ∀ W', Below w1.heap.size w1 W' → (fun w' : World => w'.cell? ⟨W.heap.size, 0, none⟩ = some (.int .i64 11) ∧ w'.cell? ⟨W.heap.size, 1, none⟩ = some (.int .i64 0) ∧ w'.cell? ⟨W.heap.size, 2, none⟩ = some (.slice a 2 cap) ∧ w'.cell? ⟨B, 0, none⟩ = some (.int .i64 n) ∧ w'.cell? ⟨B, 1, none⟩ = some (.slice ia s.inl.length icap) ∧ w'.cell? ⟨B, 2, none⟩ = some (.slice oa s.outl.length ocap) ∧ w'.cell? ⟨B, 3, none⟩ = some (.int .i64 h0) ∧ w'.cell? ⟨B, 4, none⟩ = some (.int .i64 h1) ∧ w'.cell? ⟨B, 5, none⟩ = some (.int .i64 h2) ∧ w'.cell? ⟨B, 6, none⟩ = some (.int .i64 h3) ∧ w'.cell? ⟨B, 7, none⟩ = some (.int .i64 h4) ∧ w'.cell? ⟨B, 8, none⟩ = some (vv0) ∧ w'.cell? ⟨B + 3, 0, none⟩ = some (.func (.func 45) #[] #[.pointer (some ⟨B + 4, 0, none⟩), .pointer (some ⟨B, 0, none⟩), .pointer (some ⟨B + 3, 0, none⟩), .pointer (some ⟨B + 2, 0, none⟩), .pointer (some ⟨B + 1, 0, none⟩)]) ∧ w'.cell? ⟨B + 4, 0, none⟩ = some (.func (.func 44) #[] #[.pointer (some ⟨B, 0, none⟩), .pointer (some ⟨B + 3, 0, none⟩)]) ∧ w'.cell? ⟨b, off, none⟩ = some (.int .i64 x.op) ∧ w'.cell? ⟨b, off + 1, none⟩ = some (.int .i64 x.num) ∧ w'.cell? ⟨b, off + 2, none⟩ = some (.slice a' x.args.length c') ∧ Below w1.heap.size w1 w') W' := fun W' hW' => ⟨cell_ext e0 hW', cell_ext e1 hW', cell_ext e2 hW', cell_ext s0 hW', cell_ext s1 hW', cell_ext s2 hW', cell_ext s3 hW', cell_ext s4 hW', cell_ext s5 hW', cell_ext s6 hW', cell_ext s7 hW', cell_ext s8 hW', cell_ext g3 hW', cell_ext g4 hW', cell_ext d0 hW', cell_ext d1 hW', cell_ext d2 hW', hW'⟩
  have KEEP := Lib.hid KEEP
  go_region_held3 (fun w' : World => w'.cell? ⟨W.heap.size, 0, none⟩ = some (.int .i64 11) ∧ w'.cell? ⟨W.heap.size, 1, none⟩ = some (.int .i64 0) ∧ w'.cell? ⟨W.heap.size, 2, none⟩ = some (.slice a 2 cap) ∧ w'.cell? ⟨B, 0, none⟩ = some (.int .i64 n) ∧ w'.cell? ⟨B, 1, none⟩ = some (.slice ia s.inl.length icap) ∧ w'.cell? ⟨B, 2, none⟩ = some (.slice oa s.outl.length ocap) ∧ w'.cell? ⟨B, 3, none⟩ = some (.int .i64 h0) ∧ w'.cell? ⟨B, 4, none⟩ = some (.int .i64 h1) ∧ w'.cell? ⟨B, 5, none⟩ = some (.int .i64 h2) ∧ w'.cell? ⟨B, 6, none⟩ = some (.int .i64 h3) ∧ w'.cell? ⟨B, 7, none⟩ = some (.int .i64 h4) ∧ w'.cell? ⟨B, 8, none⟩ = some (vv0) ∧ w'.cell? ⟨B + 3, 0, none⟩ = some (.func (.func 45) #[] #[.pointer (some ⟨B + 4, 0, none⟩), .pointer (some ⟨B, 0, none⟩), .pointer (some ⟨B + 3, 0, none⟩), .pointer (some ⟨B + 2, 0, none⟩), .pointer (some ⟨B + 1, 0, none⟩)]) ∧ w'.cell? ⟨B + 4, 0, none⟩ = some (.func (.func 44) #[] #[.pointer (some ⟨B, 0, none⟩), .pointer (some ⟨B + 3, 0, none⟩)]) ∧ w'.cell? ⟨b, off, none⟩ = some (.int .i64 x.op) ∧ w'.cell? ⟨b, off + 1, none⟩ = some (.int .i64 x.num) ∧ w'.cell? ⟨b, off + 2, none⟩ = some (.slice a' x.args.length c') ∧ Below w1.heap.size w1 w')
    (first | (apply KEEP.out; first | assumption | (apply Below.drew; assumption)))
    (first | (go_at_call 45; refine (HVAL.out _ (ext_trans ex1 (by (first | assumption | (apply Below.drew; assumption))))).mono ?_; rintro _ w2 ⟨_, rfl, hb2, rfl⟩; have hbb : Below w1.heap.size w1 w2 := ext_trans (by (first | assumption | (apply Below.drew; assumption))) hb2))
  have ex2 := ext_trans ex1 hbb
  have r1' := r1.ext hbb
  clear e0 e1 e2 s0 s1 s2 s3 s4 s5 s6 s7 s8 g1 g2 g3 g4 d0 d1 d2 KEEP hrefl hbb
  obtain ⟨e0, e1, e2⟩ := r1'.three
  obtain ⟨s0, s1, s2, s3, s4, s5, s6, s7, s8⟩ := (henv.ext ex2).s.nine
  obtain ⟨g1, g2, g3, g4⟩ := (henv.ext ex2).cells
  have d0 := (hel2.ext ex2).c0
  have d1 := (hel2.ext ex2).c1
  have d2 := (hel2.ext ex2).c2
  go_wp2_with fail
  have hrefl := Below.refl w2.heap.size w2
  have KEEP : ∀ W', Below w2.heap.size w2 W' → (fun w' : World => w'.cell? ⟨W.heap.size, 0, none⟩ = some (.int .i64 11) ∧ w'.cell? ⟨W.heap.size, 1, none⟩ = some (.int .i64 0) ∧ w'.cell? ⟨W.heap.size, 2, none⟩ = some (.slice a 2 cap) ∧ w'.cell? ⟨B, 0, none⟩ = some (.int .i64 n) ∧ w'.cell? ⟨B, 1, none⟩ = some (.slice ia s.inl.length icap) ∧ w'.cell? ⟨B, 2, none⟩ = some (.slice oa s.outl.length ocap) ∧ w'.cell? ⟨B, 3, none⟩ = some (.int .i64 h0) ∧ w'.cell? ⟨B, 4, none⟩ = some (.int .i64 h1) ∧ w'.cell? ⟨B, 5, none⟩ = some (.int .i64 h2) ∧ w'.cell? ⟨B, 6, none⟩ = some (.int .i64 h3) ∧ w'.cell? ⟨B, 7, none⟩ = some (.int .i64 h4) ∧ w'.cell? ⟨B, 8, none⟩ = some (vv0) ∧ w'.cell? ⟨B + 3, 0, none⟩ = some (.func (.func 45) #[] #[.pointer (some ⟨B + 4, 0, none⟩), .pointer (some ⟨B, 0, none⟩), .pointer (some ⟨B + 3, 0, none⟩), .pointer (some ⟨B + 2, 0, none⟩), .pointer (some ⟨B + 1, 0, none⟩)]) ∧ w'.cell? ⟨B + 4, 0, none⟩ = some (.func (.func 44) #[] #[.pointer (some ⟨B, 0, none⟩), .pointer (some ⟨B + 3, 0, none⟩)]) ∧ w'.cell? ⟨b2, off2, none⟩ = some (.int .i64 y.op) ∧ w'.cell? ⟨b2, off2 + 1, none⟩ = some (.int .i64 y.num) ∧ w'.cell? ⟨b2, off2 + 2, none⟩ = some (.slice a2 y.args.length c2) ∧ Below w2.heap.size w2 w') W' := fun W' hW' => ⟨cell_ext e0 hW', cell_ext e1 hW', cell_ext e2 hW', cell_ext s0 hW', cell_ext s1 hW', cell_ext s2 hW', cell_ext s3 hW', cell_ext s4 hW', cell_ext s5 hW', cell_ext s6 hW', cell_ext s7 hW', cell_ext s8 hW', cell_ext g3 hW', cell_ext g4 hW', cell_ext d0 hW', cell_ext d1 hW', cell_ext d2 hW', hW'⟩
  have KEEP := Lib.hid KEEP
  go_region_held3 (fun w' : World => w'.cell? ⟨W.heap.size, 0, none⟩ = some (.int .i64 11) ∧ w'.cell? ⟨W.heap.size, 1, none⟩ = some (.int .i64 0) ∧ w'.cell? ⟨W.heap.size, 2, none⟩ = some (.slice a 2 cap) ∧ w'.cell? ⟨B, 0, none⟩ = some (.int .i64 n) ∧ w'.cell? ⟨B, 1, none⟩ = some (.slice ia s.inl.length icap) ∧ w'.cell? ⟨B, 2, none⟩ = some (.slice oa s.outl.length ocap) ∧ w'.cell? ⟨B, 3, none⟩ = some (.int .i64 h0) ∧ w'.cell? ⟨B, 4, none⟩ = some (.int .i64 h1) ∧ w'.cell? ⟨B, 5, none⟩ = some (.int .i64 h2) ∧ w'.cell? ⟨B, 6, none⟩ = some (.int .i64 h3) ∧ w'.cell? ⟨B, 7, none⟩ = some (.int .i64 h4) ∧ w'.cell? ⟨B, 8, none⟩ = some (vv0) ∧ w'.cell? ⟨B + 3, 0, none⟩ = some (.func (.func 45) #[] #[.pointer (some ⟨B + 4, 0, none⟩), .pointer (some ⟨B, 0, none⟩), .pointer (some ⟨B + 3, 0, none⟩), .pointer (some ⟨B + 2, 0, none⟩), .pointer (some ⟨B + 1, 0, none⟩)]) ∧ w'.cell? ⟨B + 4, 0, none⟩ = some (.func (.func 44) #[] #[.pointer (some ⟨B, 0, none⟩), .pointer (some ⟨B + 3, 0, none⟩)]) ∧ w'.cell? ⟨b2, off2, none⟩ = some (.int .i64 y.op) ∧ w'.cell? ⟨b2, off2 + 1, none⟩ = some (.int .i64 y.num) ∧ w'.cell? ⟨b2, off2 + 2, none⟩ = some (.slice a2 y.args.length c2) ∧ Below w2.heap.size w2 w')
    (first | (apply KEEP.out; first | assumption | (apply Below.drew; assumption)))
    (first | (go_at_call 45; refine (HVAL2.out _ (ext_trans ex2 (by (first | assumption | (apply Below.drew; assumption))))).mono ?_; rintro _ w3 ⟨_, rfl, hb3, rfl⟩; have hbb : Below w2.heap.size w2 w3 := ext_trans (by (first | assumption | (apply Below.drew; assumption))) hb3))
  have ex3 := ext_trans ex2 hbb
  have r1'' := r1'.ext hbb
  clear e0 e1 e2 s0 s1 s2 s3 s4 s5 s6 s7 s8 g1 g2 g3 g4 d0 d1 d2 KEEP hrefl hbb hb2 hb3
  obtain ⟨e0, e1, e2⟩ := r1''.three
  obtain ⟨s0, s1, s2, s3, s4, s5, s6, s7, s8⟩ := (henv.ext ex3).s.nine
  obtain ⟨g1, g2, g3, g4⟩ := (henv.ext ex3).cells
  go_wp2
  go_ret
  exact .mk ex3 (int_eq (by rw [HR.out, HB.out.2]; rfl))

theorem evVal_all (s : Sc) (hs : ScOk s) (n h0 h1 h2 h3 h4 : Int) (hn : s.n = n) (hh : s.hears = [h0, h1, h2, h3, h4]) {vars : Int} {e : Ex} (h : Wf vars e) : EvVal s n h0 h1 h2 h3 h4 vars e := by
  induction h using Wf.rec4 with
  | hn vars m h => exact evVal_num s n h0 h1 h2 h3 h4 vars m
  | hv vars m h h1 => exact evVal_var _ _ _ _ _ _ _ _ _ h h1
  | h1 vars op x ho hk hx ih =>
    by_cases hq : op = 13 ∨ op = 14 ∨ op = 15
    · have hi : innerV op vars = vars + 1 := by rcases hq with rfl | rfl | rfl <;> rfl
      rw [hi] at ih hx
      exact evVal_quant s hs n _ _ _ _ _ vars op x hn hq hk hx ih
    · have hq' : op = 2 ∨ op = 3 ∨ op = 12 := by unfold op1 at ho; omega
      have hi : innerV op vars = vars := by rcases hq' with rfl | rfl | rfl <;> rfl
      rw [hi] at ih hx
      exact evVal_one s hs n _ _ _ _ _ vars op x hn hq' hk hx ih
  | h2 vars op x y h4 h11 hk hk2 hx hy ih ih2 =>
    by_cases c4 : op = 4
    · exact evVal_hears s hs n _ _ _ _ _ vars op x y hn hh c4 hk hk2 hx hy ih ih2
    by_cases c9 : op ≤ 9
    · exact evVal_rest s hs n _ _ _ _ _ vars op x y hn hh ⟨by omega, c9⟩ hk hk2 hx hy ih ih2
    by_cases c10 : op = 10
    · exact evVal_and s hs n _ _ _ _ _ vars op x y hn hh c10 hk hk2 hx hy ih ih2
    · exact evVal_or s hs n _ _ _ _ _ vars op x y hn hh (by omega) hk hk2 hx hy ih ih2
end Go.Proofs.YthogcbffnbhalaaDoor

