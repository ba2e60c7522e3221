/- Values by the reference. -/
import Derived.Test.YthogcbffnbhalaaDoorExVal2
import Derived.Deep.DrawnRows
namespace Go.Proofs.YthogcbffnbhalaaDoor
set_option linter.unusedVariables false
open Go.RowKit
attribute [local go_sem ↓] Go.wp_at_zero Go.wp_at_succ

/-- The reference's Value gives the value. -/
def RefVal (s : Sc) (n h0 h1 h2 h3 h4 : Int) (vars : Int) (e : Ex) : Prop :=
  ∀ (S S1 S2 S3 : Nat → Prop) (W : World) (v iv ov vv : Value) (vs : List Int), ExprV S W e v → Ints S1 W iv s.inl → Ints S2 W ov s.outl → Ints S3 W vv vs → (vs.length : Int) = vars → (∀ x ∈ vs, small x = true) →
    sizeE e ≤ 1000 → vars + depthE e ≤ 900 → Calls Tryd.prog 33 #[v, scAgg n iv ov h0 h1 h2 h3 h4 vv] W (Post W fun _ r => r = .int .i64 (valE s e vs))

theorem refVal_num (s : Sc) (n h0 h1 h2 h3 h4 vars m : Int) : RefVal s n h0 h1 h2 h3 h4 vars (numE m) := by
  intro S S1 S2 S3 W v iv ov vv vs hv hi ho hvv hvl hsm hsz hd
  have HI := hi
  have HO := ho
  have HV := hvv
  obtain ⟨ia, icap, rfl, ai, i1, i2, ci, wi⟩ := hi
  obtain ⟨oa, ocap, rfl, ao, o1, o2, co, wo⟩ := ho
  obtain ⟨va, vcap, rfl, av, v1, v2, cv, wv⟩ := hvv
  unfold maxLen at i2 o2 v2
  unfold scAgg
  clear ci co cv
  obtain ⟨a, cap, rfl⟩ := hv.leaf
  rw [valE_num]
  have ex0 := ext_alloc W (.cells #[.int .i64 0, .int .i64 m, .slice a 0 cap] 24)
  have r0 := row_new W [.int .i64 0, .int .i64 m, .slice a 0 cap] 24
  have ex1 := ext_alloc' ex0 (.cells #[.int .i64 n, .slice ia s.inl.length icap, .slice oa s.outl.length ocap, .int .i64 h0, .int .i64 h1, .int .i64 h2, .int .i64 h3, .int .i64 h4, .slice va vs.length vcap] 39)
  have r1 := r0.alloc (.cells #[.int .i64 n, .slice ia s.inl.length icap, .slice oa s.outl.length ocap, .int .i64 h0, .int .i64 h1, .int .i64 h2, .int .i64 h3, .int .i64 h4, .slice va vs.length vcap] 39)
  have r2 := row_new (W.alloc (.cells #[.int .i64 0, .int .i64 m, .slice a 0 cap] 24)) [.int .i64 n, .slice ia s.inl.length icap, .slice oa s.outl.length ocap, .int .i64 h0, .int .i64 h1, .int .i64 h2, .int .i64 h3, .int .i64 h4, .slice va vs.length vcap] 39
  rw [World.size_alloc] at r2
  go_enter Tryd.func33, Tryd.ntmps33
  go_wp2
  go_ret
  exact .mk ex1 (int_eq rfl)

theorem refVal_var (s : Sc) (n h0 h1 h2 h3 h4 vars m : Int) (hm0 : 0 ≤ m) (hm1 : m < vars) : RefVal s n h0 h1 h2 h3 h4 vars (varE m) := by
  intro S S1 S2 S3 W v iv ov vv vs hv hi ho hvv hvl hsm hsz hd
  have HI := hi
  have HO := ho
  have HV := hvv
  obtain ⟨ia, icap, rfl, ai, i1, i2, ci, wi⟩ := hi
  obtain ⟨oa, ocap, rfl, ao, o1, o2, co, wo⟩ := ho
  obtain ⟨va, vcap, rfl, av, v1, v2, cv, wv⟩ := hvv
  unfold maxLen at i2 o2 v2
  unfold scAgg
  clear ci co
  obtain ⟨a, cap, rfl⟩ := hv.leaf
  rw [valE_var]
  obtain ⟨k, rfl⟩ : ∃ k : Nat, m = k := ⟨m.toNat, by omega⟩
  rw [Int.toNat_natCast]
  have hlt : k < vs.length := by omega
  obtain ⟨i0, hi, hz0, hz1, hz2⟩ := info_parts info_int
  have q := idx_one Tryd.underlying25 hi hz1 av k hlt
  have ex0 := ext_alloc W (.cells #[.int .i64 1, .int .i64 (k : Int), .slice a 0 cap] 24)
  have r0 := row_new W [.int .i64 1, .int .i64 (k : Int), .slice a 0 cap] 24
  have ex1 := ext_alloc' ex0 (.cells #[.int .i64 n, .slice ia s.inl.length icap, .slice oa s.outl.length ocap, .int .i64 h0, .int .i64 h1, .int .i64 h2, .int .i64 h3, .int .i64 h4, .slice va vs.length vcap] 39)
  have r1 := r0.alloc (.cells #[.int .i64 n, .slice ia s.inl.length icap, .slice oa s.outl.length ocap, .int .i64 h0, .int .i64 h1, .int .i64 h2, .int .i64 h3, .int .i64 h4, .slice va vs.length vcap] 39)
  have r2 := row_new (W.alloc (.cells #[.int .i64 1, .int .i64 (k : Int), .slice a 0 cap] 24)) [.int .i64 n, .slice ia s.inl.length icap, .slice oa s.outl.length ocap, .int .i64 h0, .int .i64 h1, .int .i64 h2, .int .i64 h3, .int .i64 h4, .slice va vs.length vcap] 39
  rw [World.size_alloc] at r2
  have c0 := cells_at av ex1 cv k hlt
  clear cv hvl hi hz0 hz1 hz2
  go_enter Tryd.func33, Tryd.ntmps33
  go_wp2
  go_ret
  exact .mk ex1 (int_eq rfl)

set_option maxRecDepth 100000 in
set_option maxHeartbeats 2000000 in
theorem refVal_quant (s : Sc) (hs : ScOk s) (n h0 h1 h2 h3 h4 vars op : Int) (x : Ex) (hn : s.n = n) (hop : op = 13 ∨ op = 14 ∨ op = 15) (hk : kindOf x.op = argKind op) (hx : Wf (vars + 1) x) (ih : RefVal s n h0 h1 h2 h3 h4 (vars + 1) x) : RefVal s n h0 h1 h2 h3 h4 vars (oneE op x) := by
  intro S S1 S2 S3 W v iv ov vv vs hv hi ho hvv hvl hsm hsz hd
  have HI := hi
  have HO := ho
  have HV := hvv
  obtain ⟨ia, icap, rfl, ai, i1, i2, ci, wi⟩ := hi
  obtain ⟨oa, ocap, rfl, ao, o1, o2, co, wo⟩ := ho
  obtain ⟨va, vcap, rfl, av, v1, v2, cv, wv⟩ := hvv
  unfold maxLen at i2 o2 v2
  unfold scAgg
  have hn0 := hs.n0
  have hn1 := hs.n1
  rw [hn] at hn0 hn1
  rw [size_one] at hsz
  rw [depth_one] at hd
  have hka : kindOf x.op = 1 := hk.trans (by rcases hop with rfl | rfl | rfl <;> rfl)
  have hf : ∀ p : Nat, (p : Int) < s.n → valE s x (vs ++ [(p : Int)]) = 0 ∨ valE s x (vs ++ [(p : Int)]) = 1 := fun p hp => (val_range hs hx _ (by simp; omega) (snoc_ok hs hp hsm)).2.2 hka
  have hor := ones_range s (by omega) (valE s x) vs hf
  have HCNT := Lib.hid (fun W' (hW' : Below W.heap.size W W') => refCount_calls (n := n) (h0 := h0) (h1 := h1) (h2 := h2) (h3 := h3) (h4 := h4) (hv.ext hW') s hs hn (HI.ext hW') (HO.ext hW') (HV.ext hW') (by omega) hf
    (fun u hu W2 vv' p hW2 hp hvp => ih _ _ _ _ W2 u _ _ vv' (vs ++ [(p : Int)]) (hu.ext hW2) ((HI.ext hW').ext hW2) ((HO.ext hW').ext hW2) hvp (by simp; omega) (snoc_ok hs (by omega) hsm) (by omega) (by omega)))
  obtain ⟨a, cap, b, off, a', c', rfl, hel⟩ := hv.one
  unfold scAgg at HCNT
  have HN := Lib.hid hn
  clear ci co cv hf hn
  obtain ⟨R, hR⟩ : ∃ R, R = valE s (oneE op x) vs := ⟨_, rfl⟩
  rw [← hR]
  obtain ⟨z, hz⟩ : ∃ z, z = ones s (valE s x) vs := ⟨_, rfl⟩
  rw [← hz] at hor HCNT
  have HZ := Lib.hid hz
  have HR := Lib.hid hR
  clear hz hR
  have ex0 := ext_alloc W (.cells #[.int .i64 op, .int .i64 0, .slice a 1 cap] 24)
  have r0 := row_new W [.int .i64 op, .int .i64 0, .slice a 1 cap] 24
  have ex1 := ext_alloc' ex0 (.cells #[.int .i64 n, .slice ia s.inl.length icap, .slice oa s.outl.length ocap, .int .i64 h0, .int .i64 h1, .int .i64 h2, .int .i64 h3, .int .i64 h4, .slice va vs.length vcap] 39)
  have r1 := r0.alloc (.cells #[.int .i64 n, .slice ia s.inl.length icap, .slice oa s.outl.length ocap, .int .i64 h0, .int .i64 h1, .int .i64 h2, .int .i64 h3, .int .i64 h4, .slice va vs.length vcap] 39)
  have r2 := row_new (W.alloc (.cells #[.int .i64 op, .int .i64 0, .slice a 1 cap] 24)) [.int .i64 n, .slice ia s.inl.length icap, .slice oa s.outl.length ocap, .int .i64 h0, .int .i64 h1, .int .i64 h2, .int .i64 h3, .int .i64 h4, .slice va vs.length vcap] 39
  rw [World.size_alloc] at r2
  rcases hop with rfl | rfl | rfl
  · go_enter Tryd.func33, Tryd.ntmps33
    go_wp2_with fail
    obtain ⟨w1, hw1⟩ : ∃ w1, w1 = (W.alloc (.cells #[.int .i64 13, .int .i64 0, .slice a 1 cap] 24)).alloc (.cells #[.int .i64 n, .slice ia s.inl.length icap, .slice oa s.outl.length ocap, .int .i64 h0, .int .i64 h1, .int .i64 h2, .int .i64 h3, .int .i64 h4, .slice va vs.length vcap] 39) := ⟨_, rfl⟩
    rw [← hw1]
    rw [← hw1] at ex1 r1 r2
    have HW := Lib.hid hw1
    clear hw1
    obtain ⟨e0, e1, e2⟩ := r1.three
    obtain ⟨s0, s1, s2, s3, s4, s5, s6, s7, s8⟩ := r2.nine
    have hrefl := Below.refl w1.heap.size w1
    have KEEP : ∀ W', Below w1.heap.size w1 W' → (fun w' : World => w'.cell? ⟨W.heap.size, 0, none⟩ = some (.int .i64 13) ∧ w'.cell? ⟨W.heap.size, 1, none⟩ = some (.int .i64 0) ∧ w'.cell? ⟨W.heap.size, 2, none⟩ = some (.slice a 1 cap) ∧ w'.cell? ⟨W.heap.size + 1, 0, none⟩ = some (.int .i64 n) ∧ w'.cell? ⟨W.heap.size + 1, 1, none⟩ = some (.slice ia s.inl.length icap) ∧ w'.cell? ⟨W.heap.size + 1, 2, none⟩ = some (.slice oa s.outl.length ocap) ∧ w'.cell? ⟨W.heap.size + 1, 3, none⟩ = some (.int .i64 h0) ∧ w'.cell? ⟨W.heap.size + 1, 4, none⟩ = some (.int .i64 h1) ∧ w'.cell? ⟨W.heap.size + 1, 5, none⟩ = some (.int .i64 h2) ∧ w'.cell? ⟨W.heap.size + 1, 6, none⟩ = some (.int .i64 h3) ∧ w'.cell? ⟨W.heap.size + 1, 7, none⟩ = some (.int .i64 h4) ∧ w'.cell? ⟨W.heap.size + 1, 8, none⟩ = some (.slice va vs.length vcap) ∧ Below w1.heap.size w1 w') W' := fun W' hW' => ⟨cell_ext e0 hW', cell_ext e1 hW', cell_ext e2 hW', cell_ext s0 hW', cell_ext s1 hW', cell_ext s2 hW', cell_ext s3 hW', cell_ext s4 hW', cell_ext s5 hW', cell_ext s6 hW', cell_ext s7 hW', cell_ext s8 hW', hW'⟩
    have KEEP := Lib.hid KEEP
    go_region_held3 (fun w' : World => w'.cell? ⟨W.heap.size, 0, none⟩ = some (.int .i64 13) ∧ w'.cell? ⟨W.heap.size, 1, none⟩ = some (.int .i64 0) ∧ w'.cell? ⟨W.heap.size, 2, none⟩ = some (.slice a 1 cap) ∧ w'.cell? ⟨W.heap.size + 1, 0, none⟩ = some (.int .i64 n) ∧ w'.cell? ⟨W.heap.size + 1, 1, none⟩ = some (.slice ia s.inl.length icap) ∧ w'.cell? ⟨W.heap.size + 1, 2, none⟩ = some (.slice oa s.outl.length ocap) ∧ w'.cell? ⟨W.heap.size + 1, 3, none⟩ = some (.int .i64 h0) ∧ w'.cell? ⟨W.heap.size + 1, 4, none⟩ = some (.int .i64 h1) ∧ w'.cell? ⟨W.heap.size + 1, 5, none⟩ = some (.int .i64 h2) ∧ w'.cell? ⟨W.heap.size + 1, 6, none⟩ = some (.int .i64 h3) ∧ w'.cell? ⟨W.heap.size + 1, 7, none⟩ = some (.int .i64 h4) ∧ w'.cell? ⟨W.heap.size + 1, 8, none⟩ = some (.slice va vs.length vcap) ∧ Below w1.heap.size w1 w')
      (first | (apply KEEP.out; first | assumption | (apply Below.drew; assumption)))
      (first | (go_at_call 52; refine (HCNT.out _ (ext_trans ex1 (by (first | assumption | (apply Below.drew; assumption))))).mono ?_; rintro _ w2 ⟨_, rfl, hb2, rfl⟩; have hbb : Below w1.heap.size w1 w2 := ext_trans (by (first | assumption | (apply Below.drew; assumption))) hb2) | (go_at_call 51; refine ((flag_quiet _ _).mono fun _ _ h => h.post).mono ?_; rintro _ w3 ⟨_, rfl, hb3, rfl⟩; have hbb : Below w1.heap.size w1 w3 := ext_trans (by (first | assumption | (apply Below.drew; assumption))) hb3))
    go_wp2
    go_ret
    refine .mk (ext_trans ex1 hbb) (int_eq ?_)
    rw [HR.out, valE_all, ← HZ.out, HN.out]
    rfl
  · go_enter Tryd.func33, Tryd.ntmps33
    go_wp2_with fail
    refine (HCNT.out _ ex1).mono ?_
    rintro _ w2 ⟨_, rfl, hb2, rfl⟩
    go_wp2_with fail
    refine ((flag_quiet _ _).mono fun _ _ h => h.post).mono ?_
    rintro _ w3 ⟨_, rfl, hb3, rfl⟩
    go_wp2
    go_ret
    refine .mk (ext_trans (ext_trans ex1 hb2) hb3) (int_eq ?_)
    rw [HR.out, valE_some, ← HZ.out]
  · go_enter Tryd.func33, Tryd.ntmps33
    go_wp2_with fail
    refine (HCNT.out _ ex1).mono ?_
    rintro _ w2 ⟨_, rfl, hb2, rfl⟩
    go_wp2
    go_ret
    refine .mk (ext_trans ex1 hb2) (int_eq ?_)
    rw [HR.out, valE_count, ← HZ.out]

set_option maxRecDepth 100000 in
set_option maxHeartbeats 2000000 in
theorem refVal_one (s : Sc) (hs : ScOk s) (n h0 h1 h2 h3 h4 vars op : Int) (x : Ex) (hn : s.n = n) (hop : op = 2 ∨ op = 3 ∨ op = 12) (hk : kindOf x.op = argKind op) (hx : Wf vars x) (ih : RefVal s n h0 h1 h2 h3 h4 vars x) : RefVal s n h0 h1 h2 h3 h4 vars (oneE op x) := by
  intro S S1 S2 S3 W v iv ov vv vs hv hi ho hvv hvl hsm hsz hd
  have HI := hi
  have HO := ho
  have HV := hvv
  obtain ⟨ia, icap, rfl, ai, i1, i2, ci, wi⟩ := hi
  obtain ⟨oa, ocap, rfl, ao, o1, o2, co, wo⟩ := ho
  obtain ⟨va, vcap, rfl, av, v1, v2, cv, wv⟩ := hvv
  unfold maxLen at i2 o2 v2
  unfold scAgg
  have hn0 := hs.n0
  have hn1 := hs.n1
  rw [hn] at hn0 hn1
  rw [size_one] at hsz
  rw [depth_one] at hd
  have hvr := val_range hs hx vs hvl hsm
  obtain ⟨a, cap, b, off, a', c', rfl, hel⟩ := hv.one
  have HVAL := Lib.hid (fun W' (hW' : Below W.heap.size W W') => ih _ _ _ _ W' _ _ _ _ vs (hel.ex.ext hW') (HI.ext hW') (HO.ext hW') (HV.ext hW') hvl hsm (by omega) (by omega))
  unfold scAgg at HVAL
  have HN := Lib.hid hn
  clear ci co cv hn hvl
  obtain ⟨R, hR⟩ : ∃ R, R = valE s (oneE op x) vs := ⟨_, rfl⟩
  rw [← hR]
  obtain ⟨z, hz⟩ : ∃ z, z = valE s x vs := ⟨_, rfl⟩
  rw [← hz] at hvr HVAL
  have HZ := Lib.hid hz
  have HR := Lib.hid hR
  clear hz hR
  obtain ⟨hz0, hz1, hz2⟩ := hvr
  have q := hel.idx
  have ex0 := ext_alloc W (.cells #[.int .i64 op, .int .i64 0, .slice a 1 cap] 24)
  have r0 := row_new W [.int .i64 op, .int .i64 0, .slice a 1 cap] 24
  have ex1 := ext_alloc' ex0 (.cells #[.int .i64 n, .slice ia s.inl.length icap, .slice oa s.outl.length ocap, .int .i64 h0, .int .i64 h1, .int .i64 h2, .int .i64 h3, .int .i64 h4, .slice va vs.length vcap] 39)
  have r1 := r0.alloc (.cells #[.int .i64 n, .slice ia s.inl.length icap, .slice oa s.outl.length ocap, .int .i64 h0, .int .i64 h1, .int .i64 h2, .int .i64 h3, .int .i64 h4, .slice va vs.length vcap] 39)
  have r2 := row_new (W.alloc (.cells #[.int .i64 op, .int .i64 0, .slice a 1 cap] 24)) [.int .i64 n, .slice ia s.inl.length icap, .slice oa s.outl.length ocap, .int .i64 h0, .int .i64 h1, .int .i64 h2, .int .i64 h3, .int .i64 h4, .slice va vs.length vcap] 39
  rw [World.size_alloc] at r2
  rcases hop with rfl | rfl | rfl
  · go_enter Tryd.func33, Tryd.ntmps33
    go_wp2_with fail
    obtain ⟨w1, hw1⟩ : ∃ w1, w1 = (W.alloc (.cells #[.int .i64 2, .int .i64 0, .slice a 1 cap] 24)).alloc (.cells #[.int .i64 n, .slice ia s.inl.length icap, .slice oa s.outl.length ocap, .int .i64 h0, .int .i64 h1, .int .i64 h2, .int .i64 h3, .int .i64 h4, .slice va vs.length vcap] 39) := ⟨_, rfl⟩
    rw [← hw1]
    rw [← hw1] at ex1 r1 r2
    have HW := Lib.hid hw1
    clear hw1
    have hel1 := hel.ext ex1
    have d0 := hel1.c0
    have d1 := hel1.c1
    have d2 := hel1.c2
    obtain ⟨e0, e1, e2⟩ := r1.three
    obtain ⟨s0, s1, s2, s3, s4, s5, s6, s7, s8⟩ := r2.nine
    have hrefl := Below.refl w1.heap.size w1
    have KEEP : ∀ W', Below w1.heap.size w1 W' → (fun w' : World => w'.cell? ⟨W.heap.size, 0, none⟩ = some (.int .i64 2) ∧ w'.cell? ⟨W.heap.size, 1, none⟩ = some (.int .i64 0) ∧ w'.cell? ⟨W.heap.size, 2, none⟩ = some (.slice a 1 cap) ∧ w'.cell? ⟨W.heap.size + 1, 0, none⟩ = some (.int .i64 n) ∧ w'.cell? ⟨W.heap.size + 1, 1, none⟩ = some (.slice ia s.inl.length icap) ∧ w'.cell? ⟨W.heap.size + 1, 2, none⟩ = some (.slice oa s.outl.length ocap) ∧ w'.cell? ⟨W.heap.size + 1, 3, none⟩ = some (.int .i64 h0) ∧ w'.cell? ⟨W.heap.size + 1, 4, none⟩ = some (.int .i64 h1) ∧ w'.cell? ⟨W.heap.size + 1, 5, none⟩ = some (.int .i64 h2) ∧ w'.cell? ⟨W.heap.size + 1, 6, none⟩ = some (.int .i64 h3) ∧ w'.cell? ⟨W.heap.size + 1, 7, none⟩ = some (.int .i64 h4) ∧ w'.cell? ⟨W.heap.size + 1, 8, none⟩ = some (.slice va vs.length vcap) ∧ w'.cell? ⟨b, off, none⟩ = some (.int .i64 x.op) ∧ w'.cell? ⟨b, off + 1, none⟩ = some (.int .i64 x.num) ∧ w'.cell? ⟨b, off + 2, none⟩ = some (.slice a' x.args.length c') ∧ Below w1.heap.size w1 w') W' := fun W' hW' => ⟨cell_ext e0 hW', cell_ext e1 hW', cell_ext e2 hW', cell_ext s0 hW', cell_ext s1 hW', cell_ext s2 hW', cell_ext s3 hW', cell_ext s4 hW', cell_ext s5 hW', cell_ext s6 hW', cell_ext s7 hW', cell_ext s8 hW', cell_ext d0 hW', cell_ext d1 hW', cell_ext d2 hW', hW'⟩
    have KEEP := Lib.hid KEEP
    go_region_held3 (fun w' : World => w'.cell? ⟨W.heap.size, 0, none⟩ = some (.int .i64 2) ∧ w'.cell? ⟨W.heap.size, 1, none⟩ = some (.int .i64 0) ∧ w'.cell? ⟨W.heap.size, 2, none⟩ = some (.slice a 1 cap) ∧ w'.cell? ⟨W.heap.size + 1, 0, none⟩ = some (.int .i64 n) ∧ w'.cell? ⟨W.heap.size + 1, 1, none⟩ = some (.slice ia s.inl.length icap) ∧ w'.cell? ⟨W.heap.size + 1, 2, none⟩ = some (.slice oa s.outl.length ocap) ∧ w'.cell? ⟨W.heap.size + 1, 3, none⟩ = some (.int .i64 h0) ∧ w'.cell? ⟨W.heap.size + 1, 4, none⟩ = some (.int .i64 h1) ∧ w'.cell? ⟨W.heap.size + 1, 5, none⟩ = some (.int .i64 h2) ∧ w'.cell? ⟨W.heap.size + 1, 6, none⟩ = some (.int .i64 h3) ∧ w'.cell? ⟨W.heap.size + 1, 7, none⟩ = some (.int .i64 h4) ∧ w'.cell? ⟨W.heap.size + 1, 8, none⟩ = some (.slice va vs.length vcap) ∧ w'.cell? ⟨b, off, none⟩ = some (.int .i64 x.op) ∧ w'.cell? ⟨b, off + 1, none⟩ = some (.int .i64 x.num) ∧ w'.cell? ⟨b, off + 2, none⟩ = some (.slice a' x.args.length c') ∧ Below w1.heap.size w1 w')
      (first | (apply KEEP.out; first | assumption | (apply Below.drew; assumption)))
      (first | (go_at_call 33; refine (HVAL.out _ (ext_trans ex1 (by (first | assumption | (apply Below.drew; assumption))))).mono ?_; rintro _ w2 ⟨_, rfl, hb2, rfl⟩; have hbb : Below w1.heap.size w1 w2 := ext_trans (by (first | assumption | (apply Below.drew; assumption))) hb2))
    have ex2 := ext_trans ex1 hbb
    have r1' := r1.ext hbb
    have r2' := r2.ext hbb
    clear e0 e1 e2 s0 s1 s2 s3 s4 s5 s6 s7 s8 d0 d1 d2
    obtain ⟨e0, e1, e2⟩ := r1'.three
    obtain ⟨s0, s1, s2, s3, s4, s5, s6, s7, s8⟩ := r2'.nine
    have AT := Lib.hid (at_quiet (HI.ext ex2) z n)
    go_wp2_with fail
    refine (AT.out.mono fun _ _ h => h.post).mono ?_
    rintro _ w3 ⟨_, rfl, hb3, rfl⟩
    go_wp2
    go_ret
    exact .mk (ext_trans ex2 hb3) (int_eq (by rw [HR.out, valE_in, ← HZ.out, HN.out]))
  · go_enter Tryd.func33, Tryd.ntmps33
    go_wp2_with fail
    obtain ⟨w1, hw1⟩ : ∃ w1, w1 = (W.alloc (.cells #[.int .i64 3, .int .i64 0, .slice a 1 cap] 24)).alloc (.cells #[.int .i64 n, .slice ia s.inl.length icap, .slice oa s.outl.length ocap, .int .i64 h0, .int .i64 h1, .int .i64 h2, .int .i64 h3, .int .i64 h4, .slice va vs.length vcap] 39) := ⟨_, rfl⟩
    rw [← hw1]
    rw [← hw1] at ex1 r1 r2
    have HW := Lib.hid hw1
    clear hw1
    have hel1 := hel.ext ex1
    have d0 := hel1.c0
    have d1 := hel1.c1
    have d2 := hel1.c2
    obtain ⟨e0, e1, e2⟩ := r1.three
    obtain ⟨s0, s1, s2, s3, s4, s5, s6, s7, s8⟩ := r2.nine
    have hrefl := Below.refl w1.heap.size w1
    have KEEP : ∀ W', Below w1.heap.size w1 W' → (fun w' : World => w'.cell? ⟨W.heap.size, 0, none⟩ = some (.int .i64 3) ∧ w'.cell? ⟨W.heap.size, 1, none⟩ = some (.int .i64 0) ∧ w'.cell? ⟨W.heap.size, 2, none⟩ = some (.slice a 1 cap) ∧ w'.cell? ⟨W.heap.size + 1, 0, none⟩ = some (.int .i64 n) ∧ w'.cell? ⟨W.heap.size + 1, 1, none⟩ = some (.slice ia s.inl.length icap) ∧ w'.cell? ⟨W.heap.size + 1, 2, none⟩ = some (.slice oa s.outl.length ocap) ∧ w'.cell? ⟨W.heap.size + 1, 3, none⟩ = some (.int .i64 h0) ∧ w'.cell? ⟨W.heap.size + 1, 4, none⟩ = some (.int .i64 h1) ∧ w'.cell? ⟨W.heap.size + 1, 5, none⟩ = some (.int .i64 h2) ∧ w'.cell? ⟨W.heap.size + 1, 6, none⟩ = some (.int .i64 h3) ∧ w'.cell? ⟨W.heap.size + 1, 7, none⟩ = some (.int .i64 h4) ∧ w'.cell? ⟨W.heap.size + 1, 8, none⟩ = some (.slice va vs.length vcap) ∧ w'.cell? ⟨b, off, none⟩ = some (.int .i64 x.op) ∧ w'.cell? ⟨b, off + 1, none⟩ = some (.int .i64 x.num) ∧ w'.cell? ⟨b, off + 2, none⟩ = some (.slice a' x.args.length c') ∧ Below w1.heap.size w1 w') W' := fun W' hW' => ⟨cell_ext e0 hW', cell_ext e1 hW', cell_ext e2 hW', cell_ext s0 hW', cell_ext s1 hW', cell_ext s2 hW', cell_ext s3 hW', cell_ext s4 hW', cell_ext s5 hW', cell_ext s6 hW', cell_ext s7 hW', cell_ext s8 hW', cell_ext d0 hW', cell_ext d1 hW', cell_ext d2 hW', hW'⟩
    have KEEP := Lib.hid KEEP
    go_region_held3 (fun w' : World => w'.cell? ⟨W.heap.size, 0, none⟩ = some (.int .i64 3) ∧ w'.cell? ⟨W.heap.size, 1, none⟩ = some (.int .i64 0) ∧ w'.cell? ⟨W.heap.size, 2, none⟩ = some (.slice a 1 cap) ∧ w'.cell? ⟨W.heap.size + 1, 0, none⟩ = some (.int .i64 n) ∧ w'.cell? ⟨W.heap.size + 1, 1, none⟩ = some (.slice ia s.inl.length icap) ∧ w'.cell? ⟨W.heap.size + 1, 2, none⟩ = some (.slice oa s.outl.length ocap) ∧ w'.cell? ⟨W.heap.size + 1, 3, none⟩ = some (.int .i64 h0) ∧ w'.cell? ⟨W.heap.size + 1, 4, none⟩ = some (.int .i64 h1) ∧ w'.cell? ⟨W.heap.size + 1, 5, none⟩ = some (.int .i64 h2) ∧ w'.cell? ⟨W.heap.size + 1, 6, none⟩ = some (.int .i64 h3) ∧ w'.cell? ⟨W.heap.size + 1, 7, none⟩ = some (.int .i64 h4) ∧ w'.cell? ⟨W.heap.size + 1, 8, none⟩ = some (.slice va vs.length vcap) ∧ w'.cell? ⟨b, off, none⟩ = some (.int .i64 x.op) ∧ w'.cell? ⟨b, off + 1, none⟩ = some (.int .i64 x.num) ∧ w'.cell? ⟨b, off + 2, none⟩ = some (.slice a' x.args.length c') ∧ Below w1.heap.size w1 w')
      (first | (apply KEEP.out; first | assumption | (apply Below.drew; assumption)))
      (first | (go_at_call 33; refine (HVAL.out _ (ext_trans ex1 (by (first | assumption | (apply Below.drew; assumption))))).mono ?_; rintro _ w2 ⟨_, rfl, hb2, rfl⟩; have hbb : Below w1.heap.size w1 w2 := ext_trans (by (first | assumption | (apply Below.drew; assumption))) hb2))
    have ex2 := ext_trans ex1 hbb
    have r1' := r1.ext hbb
    have r2' := r2.ext hbb
    clear e0 e1 e2 s0 s1 s2 s3 s4 s5 s6 s7 s8 d0 d1 d2
    obtain ⟨e0, e1, e2⟩ := r1'.three
    obtain ⟨s0, s1, s2, s3, s4, s5, s6, s7, s8⟩ := r2'.nine
    have AT := Lib.hid (at_quiet (HO.ext ex2) z n)
    go_wp2_with fail
    refine (AT.out.mono fun _ _ h => h.post).mono ?_
    rintro _ w3 ⟨_, rfl, hb3, rfl⟩
    go_wp2
    go_ret
    exact .mk (ext_trans ex2 hb3) (int_eq (by rw [HR.out, valE_out, ← HZ.out, HN.out]))
  · go_enter Tryd.func33, Tryd.ntmps33
    go_wp2_with fail
    obtain ⟨w1, hw1⟩ : ∃ w1, w1 = (W.alloc (.cells #[.int .i64 12, .int .i64 0, .slice a 1 cap] 24)).alloc (.cells #[.int .i64 n, .slice ia s.inl.length icap, .slice oa s.outl.length ocap, .int .i64 h0, .int .i64 h1, .int .i64 h2, .int .i64 h3, .int .i64 h4, .slice va vs.length vcap] 39) := ⟨_, rfl⟩
    rw [← hw1]
    rw [← hw1] at ex1 r1 r2
    have HW := Lib.hid hw1
    clear hw1
    have hel1 := hel.ext ex1
    have d0 := hel1.c0
    have d1 := hel1.c1
    have d2 := hel1.c2
    obtain ⟨e0, e1, e2⟩ := r1.three
    obtain ⟨s0, s1, s2, s3, s4, s5, s6, s7, s8⟩ := r2.nine
    have hrefl := Below.refl w1.heap.size w1
    have KEEP : ∀ W', Below w1.heap.size w1 W' → (fun w' : World => w'.cell? ⟨W.heap.size, 0, none⟩ = some (.int .i64 12) ∧ w'.cell? ⟨W.heap.size, 1, none⟩ = some (.int .i64 0) ∧ w'.cell? ⟨W.heap.size, 2, none⟩ = some (.slice a 1 cap) ∧ w'.cell? ⟨W.heap.size + 1, 0, none⟩ = some (.int .i64 n) ∧ w'.cell? ⟨W.heap.size + 1, 1, none⟩ = some (.slice ia s.inl.length icap) ∧ w'.cell? ⟨W.heap.size + 1, 2, none⟩ = some (.slice oa s.outl.length ocap) ∧ w'.cell? ⟨W.heap.size + 1, 3, none⟩ = some (.int .i64 h0) ∧ w'.cell? ⟨W.heap.size + 1, 4, none⟩ = some (.int .i64 h1) ∧ w'.cell? ⟨W.heap.size + 1, 5, none⟩ = some (.int .i64 h2) ∧ w'.cell? ⟨W.heap.size + 1, 6, none⟩ = some (.int .i64 h3) ∧ w'.cell? ⟨W.heap.size + 1, 7, none⟩ = some (.int .i64 h4) ∧ w'.cell? ⟨W.heap.size + 1, 8, none⟩ = some (.slice va vs.length vcap) ∧ w'.cell? ⟨b, off, none⟩ = some (.int .i64 x.op) ∧ w'.cell? ⟨b, off + 1, none⟩ = some (.int .i64 x.num) ∧ w'.cell? ⟨b, off + 2, none⟩ = some (.slice a' x.args.length c') ∧ Below w1.heap.size w1 w') W' := fun W' hW' => ⟨cell_ext e0 hW', cell_ext e1 hW', cell_ext e2 hW', cell_ext s0 hW', cell_ext s1 hW', cell_ext s2 hW', cell_ext s3 hW', cell_ext s4 hW', cell_ext s5 hW', cell_ext s6 hW', cell_ext s7 hW', cell_ext s8 hW', cell_ext d0 hW', cell_ext d1 hW', cell_ext d2 hW', hW'⟩
    have KEEP := Lib.hid KEEP
    go_region_held3 (fun w' : World => w'.cell? ⟨W.heap.size, 0, none⟩ = some (.int .i64 12) ∧ w'.cell? ⟨W.heap.size, 1, none⟩ = some (.int .i64 0) ∧ w'.cell? ⟨W.heap.size, 2, none⟩ = some (.slice a 1 cap) ∧ w'.cell? ⟨W.heap.size + 1, 0, none⟩ = some (.int .i64 n) ∧ w'.cell? ⟨W.heap.size + 1, 1, none⟩ = some (.slice ia s.inl.length icap) ∧ w'.cell? ⟨W.heap.size + 1, 2, none⟩ = some (.slice oa s.outl.length ocap) ∧ w'.cell? ⟨W.heap.size + 1, 3, none⟩ = some (.int .i64 h0) ∧ w'.cell? ⟨W.heap.size + 1, 4, none⟩ = some (.int .i64 h1) ∧ w'.cell? ⟨W.heap.size + 1, 5, none⟩ = some (.int .i64 h2) ∧ w'.cell? ⟨W.heap.size + 1, 6, none⟩ = some (.int .i64 h3) ∧ w'.cell? ⟨W.heap.size + 1, 7, none⟩ = some (.int .i64 h4) ∧ w'.cell? ⟨W.heap.size + 1, 8, none⟩ = some (.slice va vs.length vcap) ∧ w'.cell? ⟨b, off, none⟩ = some (.int .i64 x.op) ∧ w'.cell? ⟨b, off + 1, none⟩ = some (.int .i64 x.num) ∧ w'.cell? ⟨b, off + 2, none⟩ = some (.slice a' x.args.length c') ∧ Below w1.heap.size w1 w')
      (first | (apply KEEP.out; first | assumption | (apply Below.drew; assumption)))
      (first | (go_at_call 33; refine (HVAL.out _ (ext_trans ex1 (by (first | assumption | (apply Below.drew; assumption))))).mono ?_; rintro _ w2 ⟨_, rfl, hb2, rfl⟩; have hbb : Below w1.heap.size w1 w2 := ext_trans (by (first | assumption | (apply Below.drew; assumption))) hb2))
    have ex2 := ext_trans ex1 hbb
    have r1' := r1.ext hbb
    have r2' := r2.ext hbb
    clear e0 e1 e2 s0 s1 s2 s3 s4 s5 s6 s7 s8 d0 d1 d2
    obtain ⟨e0, e1, e2⟩ := r1'.three
    obtain ⟨s0, s1, s2, s3, s4, s5, s6, s7, s8⟩ := r2'.nine
    have hz3 := hz2 (hk.trans rfl)
    have hz4 : 0 ≤ z ∧ z ≤ 1 := by omega
    obtain ⟨hz5, hz6⟩ := hz4
    clear hz3 hz2
    go_wp2
    go_ret
    exact .mk ex2 (int_eq (by rw [HR.out, valE_not, ← HZ.out]))

set_option maxRecDepth 100000 in
set_option maxHeartbeats 2000000 in
theorem refVal_two (s : Sc) (hs : ScOk s) (n h0 h1 h2 h3 h4 vars op : Int) (x y : Ex) (hn : s.n = n) (hh : s.hears = [h0, h1, h2, h3, h4]) (hop4 : 4 ≤ op) (hop11 : op ≤ 11) (hk : kindOf x.op = argKind op) (hk2 : kindOf y.op = argKind op) (hx : Wf vars x) (hy : Wf vars y)
    (ih : RefVal s n h0 h1 h2 h3 h4 vars x) (ih2 : RefVal s n h0 h1 h2 h3 h4 vars y) : RefVal s n h0 h1 h2 h3 h4 vars (twoE op x y) := by
  intro S S1 S2 S3 W v iv ov vv vs hv hi ho hvv hvl hsm hsz hd
  have HI := hi
  have HO := ho
  have HV := hvv
  obtain ⟨ia, icap, rfl, ai, i1, i2, ci, wi⟩ := hi
  obtain ⟨oa, ocap, rfl, ao, o1, o2, co, wo⟩ := ho
  obtain ⟨va, vcap, rfl, av, v1, v2, cv, wv⟩ := hvv
  unfold maxLen at i2 o2 v2
  unfold scAgg
  have hn0 := hs.n0
  have hn1 := hs.n1
  rw [hn] at hn0 hn1
  rw [size_two] at hsz
  rw [depth_two] at hd
  have hvr := val_range hs hx vs hvl hsm
  have hvr2 := val_range hs hy vs hvl hsm
  obtain ⟨a, cap, b, off, a', c', b2, off2, a2, c2, rfl, hel, hel2⟩ := hv.two
  have HVAL := Lib.hid (fun W' (hW' : Below W.heap.size W W') => ih _ _ _ _ W' _ _ _ _ vs (hel.ex.ext hW') (HI.ext hW') (HO.ext hW') (HV.ext hW') hvl hsm (by omega) (by omega))
  have HVAL2 := Lib.hid (fun W' (hW' : Below W.heap.size W W') => ih2 _ _ _ _ W' _ _ _ _ vs (hel2.ex.ext hW') (HI.ext hW') (HO.ext hW') (HV.ext hW') hvl hsm (by omega) (by omega))
  unfold scAgg at HVAL HVAL2
  obtain ⟨R, hR⟩ : ∃ R, R = valE s (twoE op x y) vs := ⟨_, rfl⟩
  rw [← hR]
  obtain ⟨z, hz⟩ : ∃ z, z = valE s x vs := ⟨_, rfl⟩
  obtain ⟨z2, hz2⟩ : ∃ z2, z2 = valE s y vs := ⟨_, rfl⟩
  rw [← hz] at hvr HVAL
  rw [← hz2] at hvr2 HVAL2
  have hsz1 := sizeE_pos x
  have hsz2 := sizeE_pos y
  have HTWO := Lib.hid (fun W' => (show Calls Tryd.prog 54 #[.int .i64 op, .int .i64 z, .int .i64 z2, scAgg n (.slice ia s.inl.length icap) (.slice oa s.outl.length ocap) h0 h1 h2 h3 h4 (.slice va vs.length vcap)] W' (Post W' fun _ r => r = .int .i64 R) from by
    rw [hR, valE_two s hop4 hop11, ← hz, ← hz2]
    by_cases h4 : op = 4
    · subst h4
      have e : twoV s 4 z z2 = flag (decide (0 ≤ z) && decide (z < n) && decide (0 ≤ z2) && decide (z2 < n) && bitS (nth [h0, h1, h2, h3, h4] z.toNat) z2) := by
        show flag (hearsV s z z2) = _
        unfold hearsV
        rw [hn, hh]
      rw [e]
      exact refTwo_hears W' z z2 n _ _ h0 h1 h2 h3 h4 _ (by omega) (by omega)
    · rw [twoV_rest s (by omega)]
      exact refTwo_rest W' op z z2 _ (by omega) hop11 ⟨by omega, by omega⟩ ⟨by omega, by omega⟩ (fun h => ⟨hvr.2.2 (hk.trans (by rw [h]; rfl)), hvr2.2.2 (hk2.trans (by rw [h]; rfl))⟩)))
  unfold scAgg at HTWO
  clear ci co cv hn hvl hh hz hz2 hR hvr hvr2
  have q := hel.idx
  have q2 := hel2.idx
  have f0 : (op == 0) = false := beq_eq_false_iff_ne.2 (by omega)
  have f1 : (op == 1) = false := beq_eq_false_iff_ne.2 (by omega)
  have f13 : (op == 13) = false := beq_eq_false_iff_ne.2 (by omega)
  have f14 : (op == 14) = false := beq_eq_false_iff_ne.2 (by omega)
  have f15 : (op == 15) = false := beq_eq_false_iff_ne.2 (by omega)
  have f2 : (op == 2) = false := beq_eq_false_iff_ne.2 (by omega)
  have f3 : (op == 3) = false := beq_eq_false_iff_ne.2 (by omega)
  have f12 : (op == 12) = false := beq_eq_false_iff_ne.2 (by omega)
  have ex0 := ext_alloc W (.cells #[.int .i64 op, .int .i64 0, .slice a 2 cap] 24)
  have r0 := row_new W [.int .i64 op, .int .i64 0, .slice a 2 cap] 24
  have ex1 := ext_alloc' ex0 (.cells #[.int .i64 n, .slice ia s.inl.length icap, .slice oa s.outl.length ocap, .int .i64 h0, .int .i64 h1, .int .i64 h2, .int .i64 h3, .int .i64 h4, .slice va vs.length vcap] 39)
  have r1 := r0.alloc (.cells #[.int .i64 n, .slice ia s.inl.length icap, .slice oa s.outl.length ocap, .int .i64 h0, .int .i64 h1, .int .i64 h2, .int .i64 h3, .int .i64 h4, .slice va vs.length vcap] 39)
  have r2 := row_new (W.alloc (.cells #[.int .i64 op, .int .i64 0, .slice a 2 cap] 24)) [.int .i64 n, .slice ia s.inl.length icap, .slice oa s.outl.length ocap, .int .i64 h0, .int .i64 h1, .int .i64 h2, .int .i64 h3, .int .i64 h4, .slice va vs.length vcap] 39
  rw [World.size_alloc] at r2
  go_enter Tryd.func33, Tryd.ntmps33
  go_wp2_with fail
  obtain ⟨w1, hw1⟩ : ∃ w1, w1 = (W.alloc (.cells #[.int .i64 op, .int .i64 0, .slice a 2 cap] 24)).alloc (.cells #[.int .i64 n, .slice ia s.inl.length icap, .slice oa s.outl.length ocap, .int .i64 h0, .int .i64 h1, .int .i64 h2, .int .i64 h3, .int .i64 h4, .slice va vs.length vcap] 39) := ⟨_, rfl⟩
  rw [← hw1]
  rw [← hw1] at ex1 r1 r2
  have HW := Lib.hid hw1
  clear hw1
  have hel1 := hel.ext ex1
  have d0 := hel1.c0
  have d1 := hel1.c1
  have d2 := hel1.c2
  obtain ⟨e0, e1, e2⟩ := r1.three
  obtain ⟨s0, s1, s2, s3, s4, s5, s6, s7, s8⟩ := r2.nine
  have hrefl := Below.refl w1.heap.size w1
  have KEEP : ∀ W', Below w1.heap.size w1 W' → (fun w' : World => w'.cell? ⟨W.heap.size, 0, none⟩ = some (.int .i64 op) ∧ w'.cell? ⟨W.heap.size, 1, none⟩ = some (.int .i64 0) ∧ w'.cell? ⟨W.heap.size, 2, none⟩ = some (.slice a 2 cap) ∧ w'.cell? ⟨W.heap.size + 1, 0, none⟩ = some (.int .i64 n) ∧ w'.cell? ⟨W.heap.size + 1, 1, none⟩ = some (.slice ia s.inl.length icap) ∧ w'.cell? ⟨W.heap.size + 1, 2, none⟩ = some (.slice oa s.outl.length ocap) ∧ w'.cell? ⟨W.heap.size + 1, 3, none⟩ = some (.int .i64 h0) ∧ w'.cell? ⟨W.heap.size + 1, 4, none⟩ = some (.int .i64 h1) ∧ w'.cell? ⟨W.heap.size + 1, 5, none⟩ = some (.int .i64 h2) ∧ w'.cell? ⟨W.heap.size + 1, 6, none⟩ = some (.int .i64 h3) ∧ w'.cell? ⟨W.heap.size + 1, 7, none⟩ = some (.int .i64 h4) ∧ w'.cell? ⟨W.heap.size + 1, 8, none⟩ = some (.slice va vs.length vcap) ∧ w'.cell? ⟨b, off, none⟩ = some (.int .i64 x.op) ∧ w'.cell? ⟨b, off + 1, none⟩ = some (.int .i64 x.num) ∧ w'.cell? ⟨b, off + 2, none⟩ = some (.slice a' x.args.length c') ∧ Below w1.heap.size w1 w') W' := fun W' hW' => ⟨cell_ext e0 hW', cell_ext e1 hW', cell_ext e2 hW', cell_ext s0 hW', cell_ext s1 hW', cell_ext s2 hW', cell_ext s3 hW', cell_ext s4 hW', cell_ext s5 hW', cell_ext s6 hW', cell_ext s7 hW', cell_ext s8 hW', cell_ext d0 hW', cell_ext d1 hW', cell_ext d2 hW', hW'⟩
  have KEEP := Lib.hid KEEP
  go_region_held3 (fun w' : World => w'.cell? ⟨W.heap.size, 0, none⟩ = some (.int .i64 op) ∧ w'.cell? ⟨W.heap.size, 1, none⟩ = some (.int .i64 0) ∧ w'.cell? ⟨W.heap.size, 2, none⟩ = some (.slice a 2 cap) ∧ w'.cell? ⟨W.heap.size + 1, 0, none⟩ = some (.int .i64 n) ∧ w'.cell? ⟨W.heap.size + 1, 1, none⟩ = some (.slice ia s.inl.length icap) ∧ w'.cell? ⟨W.heap.size + 1, 2, none⟩ = some (.slice oa s.outl.length ocap) ∧ w'.cell? ⟨W.heap.size + 1, 3, none⟩ = some (.int .i64 h0) ∧ w'.cell? ⟨W.heap.size + 1, 4, none⟩ = some (.int .i64 h1) ∧ w'.cell? ⟨W.heap.size + 1, 5, none⟩ = some (.int .i64 h2) ∧ w'.cell? ⟨W.heap.size + 1, 6, none⟩ = some (.int .i64 h3) ∧ w'.cell? ⟨W.heap.size + 1, 7, none⟩ = some (.int .i64 h4) ∧ w'.cell? ⟨W.heap.size + 1, 8, none⟩ = some (.slice va vs.length vcap) ∧ w'.cell? ⟨b, off, none⟩ = some (.int .i64 x.op) ∧ w'.cell? ⟨b, off + 1, none⟩ = some (.int .i64 x.num) ∧ w'.cell? ⟨b, off + 2, none⟩ = some (.slice a' x.args.length c') ∧ Below w1.heap.size w1 w')
    (first | (apply KEEP.out; first | assumption | (apply Below.drew; assumption)))
    (first | (go_at_call 33; refine (HVAL.out _ (ext_trans ex1 (by (first | assumption | (apply Below.drew; assumption))))).mono ?_; rintro _ w2 ⟨_, rfl, hb2, rfl⟩; have hbb : Below w1.heap.size w1 w2 := ext_trans (by (first | assumption | (apply Below.drew; assumption))) hb2))
  have ex2 := ext_trans ex1 hbb
  have r1' := r1.ext hbb
  have r2' := r2.ext hbb
  clear e0 e1 e2 s0 s1 s2 s3 s4 s5 s6 s7 s8 d0 d1 d2 KEEP hrefl
  obtain ⟨e0, e1, e2⟩ := r1'.three
  obtain ⟨s0, s1, s2, s3, s4, s5, s6, s7, s8⟩ := r2'.nine
  have hel1 := hel2.ext ex2
  have d0 := hel1.c0
  have d1 := hel1.c1
  have d2 := hel1.c2
  have ex3 := ex2
  clear hbb
  go_wp2_with fail
  have hbb0 := Below.refl w2.heap.size w2
  have hrefl := Below.refl w2.heap.size w2
  have KEEP : ∀ W', Below w2.heap.size w2 W' → (fun w' : World => w'.cell? ⟨W.heap.size, 0, none⟩ = some (.int .i64 op) ∧ w'.cell? ⟨W.heap.size, 1, none⟩ = some (.int .i64 0) ∧ w'.cell? ⟨W.heap.size, 2, none⟩ = some (.slice a 2 cap) ∧ w'.cell? ⟨W.heap.size + 1, 0, none⟩ = some (.int .i64 n) ∧ w'.cell? ⟨W.heap.size + 1, 1, none⟩ = some (.slice ia s.inl.length icap) ∧ w'.cell? ⟨W.heap.size + 1, 2, none⟩ = some (.slice oa s.outl.length ocap) ∧ w'.cell? ⟨W.heap.size + 1, 3, none⟩ = some (.int .i64 h0) ∧ w'.cell? ⟨W.heap.size + 1, 4, none⟩ = some (.int .i64 h1) ∧ w'.cell? ⟨W.heap.size + 1, 5, none⟩ = some (.int .i64 h2) ∧ w'.cell? ⟨W.heap.size + 1, 6, none⟩ = some (.int .i64 h3) ∧ w'.cell? ⟨W.heap.size + 1, 7, none⟩ = some (.int .i64 h4) ∧ w'.cell? ⟨W.heap.size + 1, 8, none⟩ = some (.slice va vs.length vcap) ∧ w'.cell? ⟨b2, off2, none⟩ = some (.int .i64 y.op) ∧ w'.cell? ⟨b2, off2 + 1, none⟩ = some (.int .i64 y.num) ∧ w'.cell? ⟨b2, off2 + 2, none⟩ = some (.slice a2 y.args.length c2) ∧ Below w2.heap.size w2 w') W' := fun W' hW' => ⟨cell_ext e0 hW', cell_ext e1 hW', cell_ext e2 hW', cell_ext s0 hW', cell_ext s1 hW', cell_ext s2 hW', cell_ext s3 hW', cell_ext s4 hW', cell_ext s5 hW', cell_ext s6 hW', cell_ext s7 hW', cell_ext s8 hW', cell_ext d0 hW', cell_ext d1 hW', cell_ext d2 hW', hW'⟩
  have KEEP := Lib.hid KEEP
  go_region_held3 (fun w' : World => w'.cell? ⟨W.heap.size, 0, none⟩ = some (.int .i64 op) ∧ w'.cell? ⟨W.heap.size, 1, none⟩ = some (.int .i64 0) ∧ w'.cell? ⟨W.heap.size, 2, none⟩ = some (.slice a 2 cap) ∧ w'.cell? ⟨W.heap.size + 1, 0, none⟩ = some (.int .i64 n) ∧ w'.cell? ⟨W.heap.size + 1, 1, none⟩ = some (.slice ia s.inl.length icap) ∧ w'.cell? ⟨W.heap.size + 1, 2, none⟩ = some (.slice oa s.outl.length ocap) ∧ w'.cell? ⟨W.heap.size + 1, 3, none⟩ = some (.int .i64 h0) ∧ w'.cell? ⟨W.heap.size + 1, 4, none⟩ = some (.int .i64 h1) ∧ w'.cell? ⟨W.heap.size + 1, 5, none⟩ = some (.int .i64 h2) ∧ w'.cell? ⟨W.heap.size + 1, 6, none⟩ = some (.int .i64 h3) ∧ w'.cell? ⟨W.heap.size + 1, 7, none⟩ = some (.int .i64 h4) ∧ w'.cell? ⟨W.heap.size + 1, 8, none⟩ = some (.slice va vs.length vcap) ∧ w'.cell? ⟨b2, off2, none⟩ = some (.int .i64 y.op) ∧ w'.cell? ⟨b2, off2 + 1, none⟩ = some (.int .i64 y.num) ∧ w'.cell? ⟨b2, off2 + 2, none⟩ = some (.slice a2 y.args.length c2) ∧ Below w2.heap.size w2 w')
    (first | (apply KEEP.out; first | assumption | (apply Below.drew; assumption)))
    (first | (go_at_call 33; refine (HVAL2.out _ (ext_trans ex3 (by (first | assumption | (apply Below.drew; assumption))))).mono ?_; rintro _ w3 ⟨_, rfl, hb3, rfl⟩; have hbb : Below w2.heap.size w2 w3 := ext_trans (by (first | assumption | (apply Below.drew; assumption))) hb3) | (go_at_call 54; refine (HTWO.out _).mono ?_; rintro _ w4 ⟨_, rfl, hb4, rfl⟩; have hbb : Below w2.heap.size w2 w4 := ext_trans (by (first | assumption | (apply Below.drew; assumption))) hb4))
  go_wp2
  go_ret
  exact .mk (ext_trans ex3 hbb) (int_eq rfl)

theorem refValue_all (s : Sc) (hs : ScOk s) (n h0 h1 h2 h3 h4 : Int) (hn : s.n = n) (hh : s.hears = [h0, h1, h2, h3, h4]) {vars : Int} {e : Ex} (h : Wf vars e) : RefVal s n h0 h1 h2 h3 h4 vars e := by
  induction h using Wf.rec4 with
  | hn vars m h => exact refVal_num s n h0 h1 h2 h3 h4 vars m
  | hv vars m h h1 => exact refVal_var _ _ _ _ _ _ _ _ _ h h1
  | h1 vars op x ho hk hx ih =>
    by_cases hq : op = 13 ∨ op = 14 ∨ op = 15
    · have hi : innerV op vars = vars + 1 := by rcases hq with rfl | rfl | rfl <;> rfl
      rw [hi] at ih hx
      exact refVal_quant s hs n _ _ _ _ _ vars op x hn hq hk hx ih
    · have hq' : op = 2 ∨ op = 3 ∨ op = 12 := by unfold op1 at ho; omega
      have hi : innerV op vars = vars := by rcases hq' with rfl | rfl | rfl <;> rfl
      rw [hi] at ih hx
      exact refVal_one s hs n _ _ _ _ _ vars op x hn hq' hk hx ih
  | h2 vars op x y h4 h11 hk hk2 hx hy ih ih2 => exact refVal_two s hs n _ _ _ _ _ vars op x y hn hh h4 h11 hk hk2 hx hy ih ih2

end Go.Proofs.YthogcbffnbhalaaDoor

