/- The reference's count over the processes. -/
import Derived.Test.YthogcbffnbhalaaDoorExEl
namespace Go.Proofs.YthogcbffnbhalaaDoor
set_option linter.unusedVariables false
open Go.RowKit

def onesK (s : Sc) (f : List Int → Int) (vars : List Int) (k : Nat) : Int := ((List.range k).map fun p : Nat => f (vars ++ [(p : Int)])).sum
theorem onesK_succ (s : Sc) (f : List Int → Int) (vars : List Int) (k : Nat) : onesK s f vars (k + 1) = onesK s f vars k + f (vars ++ [(k : Int)]) := by
  unfold onesK
  rw [List.range_succ, List.map_append, List.sum_append]
  simp
theorem onesK_all (s : Sc) (f : List Int → Int) (vars : List Int) : onesK s f vars s.n.toNat = ones s f vars := rfl
theorem onesK_range (s : Sc) (f : List Int → Int) (vs : List Int) (hf : ∀ p : Nat, (p : Int) < s.n → f (vs ++ [(p : Int)]) = 0 ∨ f (vs ++ [(p : Int)]) = 1) : ∀ m : Nat, (m : Int) ≤ s.n → 0 ≤ onesK s f vs m ∧ onesK s f vs m ≤ m := by
  intro m
  induction m with
  | zero => simp [onesK]
  | succ m ih =>
    intro hm
    have h1 := ih (by omega)
    have h2 := hf m (by omega)
    rw [onesK_succ]
    omega
theorem snoc_map (l : List Int) (x : Int) : (l ++ [x]).map (Value.int .i64) = l.map (Value.int .i64) ++ [.int .i64 x] := by simp

theorem own_empty (w : World) (e : TypeId) : (w.alloc (.cells #[] e)).ownsRow w.heap.size e 1 (.slice (some ⟨w.heap.size, 0, none⟩) 0 0) 0 [] :=
  ⟨rfl, .inr ⟨w.heap.size, 0, #[], rfl, Nat.le_refl _, heap_alloc_new _ _, Nat.le_refl _, by simp [maxLen], rfl, rfl⟩⟩
theorem take_nth_map (l : List Int) : ∀ j, j < l.length → (l.map (Value.int .i64)).getD j undef = .int .i64 (nth l j) := by
  intro j hj
  simp [List.getD, get?_nth hj]

set_option maxRecDepth 100000 in
set_option maxHeartbeats 2000000 in
theorem refCount_calls {S S1 S2 S3 : Nat → Prop} {W : World} {op : Int} {x : Ex} {v iv ov vv : Value} {n h0 h1 h2 h3 h4 : Int} (hv : ExprV S W (oneE op x) v) (s : Sc) (hs : ScOk s) (hn : s.n = n)
    (hi : Ints S1 W iv s.inl) (ho : Ints S2 W ov s.outl) {vs : List Int} (hvv : Ints S3 W vv vs) (hlen : vs.length ≤ 1000)
    (hf : ∀ p : Nat, (p : Int) < s.n → valE s x (vs ++ [(p : Int)]) = 0 ∨ valE s x (vs ++ [(p : Int)]) = 1)
    (ih : ∀ u, ExprV S W x u → ∀ W' vv' (p : Nat), Below W.heap.size W W' → (p : Int) < n → Ints (fun _ => True) W' vv' (vs ++ [(p : Int)]) →
      Calls Tryd.prog 33 #[u, scAgg n iv ov h0 h1 h2 h3 h4 vv'] W' (Post W' fun _ r => r = .int .i64 (valE s x (vs ++ [(p : Int)])))) :
    Calls Tryd.prog 52 #[v, scAgg n iv ov h0 h1 h2 h3 h4 vv] W (Post W fun _ r => r = .int .i64 (ones s (valE s x) vs)) := by
  obtain ⟨a, cap, b, off, a', c', rfl, hel⟩ := hv.one
  have hn0 := hs.n0
  have hn1 := hs.n1
  rw [hn] at hn0 hn1
  have HN := Lib.hid hn
  have HVV := hvv
  obtain ⟨va, vcap, rfl, vad, vl, vm, vc, vw⟩ := hvv
  unfold maxLen at vm
  have HI := hi
  have HO := ho
  obtain ⟨ia, icap, rfl, _⟩ := hi
  obtain ⟨oa, ocap, rfl, _⟩ := ho
  have HF := Lib.hid (onesK_range s (valE s x) vs hf)
  have HF2 := Lib.hid hf
  clear hf hn
  unfold scAgg
  unfold scAgg at ih
  have IH := Lib.hid (ih _ hel.ex)
  clear ih
  go_enter Tryd.func52, Tryd.ntmps52
  go_wp2
  go_loopw [5, 6] (fun n' p wr => ∃ k : Nat, (k : Int) ≤ n ∧ p = .int .i64 k ∧ n' = .int .i64 (onesK s (valE s x) vs k) ∧ Below W.heap.size W wr ∧
      Row wr W.heap.size 24 [.int .i64 op, .int .i64 0, .slice a 1 cap] ∧ Row wr (W.heap.size + 1) 39 [.int .i64 n, .slice ia s.inl.length icap, .slice oa s.outl.length ocap, .int .i64 h0, .int .i64 h1, .int .i64 h2, .int .i64 h3, .int .i64 h4, .slice va vs.length vcap]) (fun _ p _ => n.toNat - (intOf p).toNat)
  case atStart => 
    refine ⟨0, by omega, rfl, rfl, ext_alloc' (ext_alloc W _) _, (row_new _ _ _).alloc _, ?_⟩
    have := row_new (w := W.alloc (.cells #[.int .i64 op, .int .i64 0, .slice a 1 cap] 24)) [.int .i64 n, .slice ia s.inl.length icap, .slice oa s.outl.length ocap, .int .i64 h0, .int .i64 h1, .int .i64 h2, .int .i64 h3, .int .i64 h4, .slice va vs.length vcap] 39
    simpa using this
  case round =>
    obtain ⟨k, hk, rfl, rfl, hb, hR, hR2⟩ := hrel
    obtain ⟨p0, p1, p2, p3, p4, p5, p6, p7, p8⟩ := hR2.nine
    have hl1 := hR.lt
    have hl2 := hR2.lt
    by_cases hlt : (k : Int) < n
    · have hlt' : decide ((k : Int) < n) = true := by simpa using hlt
      have hvr := HVV.ext hb
      have wad := vad.agree (.of_ext hb)
      have wc := cells_at vad hb vc
      have eb := ext_alloc' (ext_alloc wr (.cells #[.int .i64 n, .slice ia s.inl.length icap, .slice oa s.outl.length ocap, .int .i64 h0, .int .i64 h1, .int .i64 h2, .int .i64 h3, .int .i64 h4, .slice va vs.length vcap] 39)) (.cells #[] 3)
      have hown := own_empty (wr.alloc (.cells #[.int .i64 n, .slice ia s.inl.length icap, .slice oa s.outl.length ocap, .int .i64 h0, .int .i64 h1, .int .i64 h2, .int .i64 h3, .int .i64 h4, .slice va vs.length vcap] 39)) 3
      have hT := (row_new wr [.int .i64 n, .slice ia s.inl.length icap, .slice oa s.outl.length ocap, .int .i64 h0, .int .i64 h1, .int .i64 h2, .int .i64 h3, .int .i64 h4, .slice va vs.length vcap] 39).alloc (.cells #[] 3)
      have wad2 := wad.agree (.of_ext eb)
      have WC2 := Lib.hid (cells_at wad eb wc)
      have HTK := Lib.hid (take_nth_map vs)
      clear wc vc
      simp only [World.size_alloc] at hown
      have hlk : k < 10 := by omega
      have hln : k < n.toNat := by omega
      go_wp2_with
        (first
          | (at_builtin; refine wpList_appendAll rfl (.tmp 15) (.tmp 17) 25 rfl 3 _ 8 Tryd.underlying25 info_int rfl (wr.heap.size + 1) _ _ _ rfl hown (fun _ => True) va vs.length vcap (vs.map (Value.int .i64)) rfl (wad2.mono fun _ _ => trivial) (by simp) (fun j hj => (WC2.out j hj).trans (by rw [HTK.out j hj])) (by intro u hu; obtain ⟨y, _, rfl⟩ := List.mem_map.1 hu; rfl) (by omega) (by omega) (by simp) ?_; intro v2 w2 hown2 hb2 _ _; have hT2 := hT.agree (S := fun b => b < wr.heap.size + 1) (.of_below hb2 fun b h _ => h) (by omega); have hs2 := hb2.size)
          | (at_builtin; refine wpList_push rfl (.tmp 18) (.tmp 20) 25 rfl 3 _ 8 Tryd.underlying25 info_int rfl (wr.heap.size + 1) _ _ _ rfl hown2 (.int .i64 (k : Int)) rfl rfl (by omega) (by omega) (by have := hb2.size; simp at this; omega) ?_; intro g3 c3 w3 hown3 hb3 _ _; have hT3 := hT2.agree (S := fun b => b < wr.heap.size + 1) (.of_below hb3 fun b h _ => h) (by omega); have f8 := hT3.free 8; obtain ⟨t0, t1, t2, t3, t4, t5, t6, t7, t8⟩ := hT3.nine))
      simp only [Nat.zero_add, List.nil_append] at hown3
      obtain ⟨w4, hw4⟩ : ∃ w4, w4 = w3.setCell ⟨wr.heap.size, 8, none⟩ (.slice (some ⟨g3, 0, none⟩) (vs.length + 1) c3) := ⟨_, rfl⟩
      rw [← hw4]
      have hT4 : Row w4 wr.heap.size 39 [.int .i64 n, .slice ia s.inl.length icap, .slice oa s.outl.length ocap, .int .i64 h0, .int .i64 h1, .int .i64 h2, .int .i64 h3, .int .i64 h4, .slice (some ⟨g3, 0, none⟩) (vs.length + 1) c3] := by rw [hw4]; exact hT3.set 8 _
      have hb4 : Below wr.heap.size wr w4 := by
        rw [hw4]
        exact ((eb.trans (hb2.mono (by omega))).trans (hb3.mono (by omega))).setCell (by simp) _
      have hag : Agree (fun b => wr.heap.size + 1 ≤ b) w3 w4 := by rw [hw4]; exact .of_grown (grownBy_setCell w3 wr.heap.size 8 _) (fun b hb e => by cases e; omega)
      have hown4 := owns_agree hown3 hag (fun k hk => (hown3.lt k hk).1)
      have hvs : Ints (fun _ => True) w4 (.slice (some ⟨g3, 0, none⟩) (vs.length + 1) c3) (vs ++ [(k : Int)]) := (Ints.of_own (l := vs ++ [(k : Int)]) (by rw [snoc_map]; exact hown4) (by intro y hy; rcases List.mem_append.1 hy with hy | hy; exact vw y hy; (obtain rfl : y = k := by simpa using hy); unfold WF; omega)).all
      clear hown4 hag hown3 hown2 hown f8 hw4 t0 t1 t2 t3 t4 t5 t6 t7 t8 p0 p1 p2 p3 p4 p5 p6 p7 p8 hT hT2 hT3 hb2 hb3 wad wad2 eb hs2
      have e4 := ext_trans hb hb4
      have hR4 := hR.ext hb4
      have hR5 := hR2.ext hb4
      have hel4 := hel.ext e4
      obtain ⟨t0, t1, t2, t3, t4, t5, t6, t7, t8⟩ := hT4.nine
      have ce := hR4.cell (j := 2) rfl
      have d0 := hel4.c0
      have d1 := hel4.c1
      have d2 := hel4.c2
      have q := hel4.idx
      have hw4r := Below.refl w4.heap.size w4
      have HR1 := HF.out k (by have := HN.out; omega)
      have HR2 := HF2.out k (by have := HN.out; omega)
      have IK := Lib.hid (fun W' (hW' : Below w4.heap.size w4 W') => IH.out W' _ k (ext_trans e4 hW') hlt (hvs.ext hW'))
      have HON := Lib.hid (onesK_succ s (valE s x) vs k)
      obtain ⟨z, hz⟩ : ∃ z, z = valE s x (vs ++ [(k : Int)]) := ⟨_, rfl⟩
      rw [← hz] at HR2 IK HON
      have hz0 : 0 ≤ z ∧ z ≤ 1 := by omega
      obtain ⟨o, hoo⟩ : ∃ o, o = onesK s (valE s x) vs k := ⟨_, rfl⟩
      rw [← hoo] at HR1 HON ⊢
      obtain ⟨hz0, hz1⟩ := hz0
      obtain ⟨ho0, ho1⟩ := HR1
      clear hz hoo HR2
      have HOZ := Lib.hid (show IntKind.i64.wrap (o + z) = o + z from IntWalk.i64_in _ (by omega))
      have KEEP : ∀ W', Below w4.heap.size w4 W' → (fun w' : World => w'.cell? ⟨W.heap.size, 2, none⟩ = some (.slice a 1 cap) ∧ w'.cell? ⟨b, off, none⟩ = some (.int .i64 x.op) ∧ w'.cell? ⟨b, off + 1, none⟩ = some (.int .i64 x.num) ∧ w'.cell? ⟨b, off + 2, none⟩ = some (.slice a' x.args.length c') ∧ w'.cell? ⟨wr.heap.size, 0, none⟩ = some (.int .i64 n) ∧ w'.cell? ⟨wr.heap.size, 1, none⟩ = some (.slice ia s.inl.length icap) ∧ w'.cell? ⟨wr.heap.size, 2, none⟩ = some (.slice oa s.outl.length ocap) ∧ w'.cell? ⟨wr.heap.size, 3, none⟩ = some (.int .i64 h0) ∧ w'.cell? ⟨wr.heap.size, 4, none⟩ = some (.int .i64 h1) ∧ w'.cell? ⟨wr.heap.size, 5, none⟩ = some (.int .i64 h2) ∧ w'.cell? ⟨wr.heap.size, 6, none⟩ = some (.int .i64 h3) ∧ w'.cell? ⟨wr.heap.size, 7, none⟩ = some (.int .i64 h4) ∧ w'.cell? ⟨wr.heap.size, 8, none⟩ = some (.slice (some ⟨g3, 0, none⟩) (vs.length + 1) c3) ∧ Below w4.heap.size w4 w') W' := fun W' hW' => ⟨cell_ext ce hW', cell_ext d0 hW', cell_ext d1 hW', cell_ext d2 hW', cell_ext t0 hW', cell_ext t1 hW', cell_ext t2 hW', cell_ext t3 hW', cell_ext t4 hW', cell_ext t5 hW', cell_ext t6 hW', cell_ext t7 hW', cell_ext t8 hW', hW'⟩
      have KEEP := Lib.hid KEEP
      go_region_held3 (fun w' : World => w'.cell? ⟨W.heap.size, 2, none⟩ = some (.slice a 1 cap) ∧ w'.cell? ⟨b, off, none⟩ = some (.int .i64 x.op) ∧ w'.cell? ⟨b, off + 1, none⟩ = some (.int .i64 x.num) ∧ w'.cell? ⟨b, off + 2, none⟩ = some (.slice a' x.args.length c') ∧ w'.cell? ⟨wr.heap.size, 0, none⟩ = some (.int .i64 n) ∧ w'.cell? ⟨wr.heap.size, 1, none⟩ = some (.slice ia s.inl.length icap) ∧ w'.cell? ⟨wr.heap.size, 2, none⟩ = some (.slice oa s.outl.length ocap) ∧ w'.cell? ⟨wr.heap.size, 3, none⟩ = some (.int .i64 h0) ∧ w'.cell? ⟨wr.heap.size, 4, none⟩ = some (.int .i64 h1) ∧ w'.cell? ⟨wr.heap.size, 5, none⟩ = some (.int .i64 h2) ∧ w'.cell? ⟨wr.heap.size, 6, none⟩ = some (.int .i64 h3) ∧ w'.cell? ⟨wr.heap.size, 7, none⟩ = some (.int .i64 h4) ∧ w'.cell? ⟨wr.heap.size, 8, none⟩ = some (.slice (some ⟨g3, 0, none⟩) (vs.length + 1) c3) ∧ Below w4.heap.size w4 w')
        (first | (apply KEEP.out; first | assumption | (apply Below.drew; assumption)))
        (first | (go_at_call 33; refine (IK.out _ (by first | assumption | (apply Below.drew; assumption))).mono ?_; rintro _ w5 ⟨_, rfl, hb5, rfl⟩; have hbb : Below w4.heap.size w4 w5 := ext_trans (by first | assumption | (apply Below.drew; assumption)) hb5))
      have e5 := ext_trans hb4 hbb
      go_wp2
      go_roundw
      case rel => exact ⟨k + 1, by omega, by go_num, by rw [HON.out, HOZ.out], ext_trans hb e5, hR.ext e5, hR2.ext e5⟩
      case measure => simp [intOf]; omega
    · have hk' : k = n.toNat := by omega
      have HK := Lib.hid (show onesK s (valE s x) vs k = ones s (valE s x) vs by rw [hk', ← HN.out]; exact onesK_all s _ vs)
      have hge : decide ((k : Int) < n) = false := by simpa using hlt
      clear hk'
      go_wp2
      go_ret
      exact .mk hb (int_eq HK.out)
end Go.Proofs.YthogcbffnbhalaaDoor

