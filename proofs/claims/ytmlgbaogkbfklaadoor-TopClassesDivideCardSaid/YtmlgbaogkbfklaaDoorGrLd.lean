/- The law of the classes of partitions: its walk. -/
import Derived.Test.YtmlgbaogkbfklaaDoorGrLc
import Derived.Test.YtmlgbaogkbfklaaDoorGrL
namespace Go.Proofs.YtmlgbaogkbfklaaDoor
set_option linter.unusedVariables false
open Go.RowKit

set_option maxRecDepth 100000 in
theorem guard_out {S S' : Nat → Prop} {w : World} {va vb : Value} {a b : List Int} (TB : Tab w) (ha : Ints S w va a) (hb : Ints S' w vb b) (h : ¬ (1 ≤ a.length ∧ a.length ≤ 5 ∧ b.length = a.length)) :
    Calls Tryd.prog 5 #[va, vb] w (Post w fun _ r => r = .bool true) := by
  have KA := Lib.hid (awake_calls TB)
  obtain ⟨aa, ac, rfl, _⟩ := ha.form
  obtain ⟨ba, bc, rfl, _⟩ := hb.form
  by_cases h1 : 1 ≤ a.length
  · have d1 : decide ((a.length : Int) < 1) = false := by simp; omega
    by_cases h5 : a.length ≤ 5
    · have d2 : decide ((5 : Int) < (a.length : Int)) = false := by simp; omega
      have d3 : ((b.length : Int) != (a.length : Int)) = true := by simp; omega
      clear h h1 h5
      go_enter Tryd.func5, Tryd.ntmps5
      go_wp2_with fail
      refine KA.out.mono ?_
      rintro _ w1 ⟨_, rfl, hb1, rfl⟩
      go_wp2
      go_ret
      exact .mk hb1 rfl
    · have d2 : decide ((5 : Int) < (a.length : Int)) = true := by simp; omega
      clear h h1 h5
      go_enter Tryd.func5, Tryd.ntmps5
      go_wp2_with fail
      refine KA.out.mono ?_
      rintro _ w1 ⟨_, rfl, hb1, rfl⟩
      go_wp2
      go_ret
      exact .mk hb1 rfl
  · have d1 : decide ((a.length : Int) < 1) = true := by simp; omega
    clear h h1
    go_enter Tryd.func5, Tryd.ntmps5
    go_wp2_with fail
    refine KA.out.mono ?_
    rintro _ w1 ⟨_, rfl, hb1, rfl⟩
    go_wp2
    go_ret
    exact .mk hb1 rfl

set_option maxRecDepth 100000 in
set_option maxHeartbeats 1000000 in
theorem check_out {S S' : Nat → Prop} {w : World} {va vb : Value} {a b : List Int} (TB : Tab w) (ha : Ints S w va a) (hb : Ints S' w vb b) (h : 1 ≤ a.length ∧ a.length ≤ 5 ∧ b.length = a.length) (hg : ¬ (Good a ∧ Good b)) :
    Calls Tryd.prog 5 #[va, vb] w (Post w fun _ r => r = .bool true) := by
  have KA := Lib.hid (awake_calls TB)
  obtain ⟨h1, h5, hl⟩ := h
  have d1 : decide ((a.length : Int) < 1) = false := by simp; omega
  have d2 : decide ((5 : Int) < (a.length : Int)) = false := by simp; omega
  have d3 : ((b.length : Int) != (a.length : Int)) = false := by simp; omega
  have KC1 := Lib.hid fun W (hW : Below w.heap.size w W) => refCheck_calls (ha.ext hW)
  have KC2 := Lib.hid fun W (hW : Below w.heap.size w W) => refCheck_calls (hb.ext hW)
  have HG : Hid (checkS a = 0 → checkS b ≠ 0) := Lib.hid fun e e' => hg ⟨checkS_good.1 e, checkS_good.1 e'⟩
  obtain ⟨aa, ac, rfl, _⟩ := ha.form
  obtain ⟨ba, bc, rfl, _⟩ := hb.form
  clear h1 h5 hl hg ha hb
  obtain ⟨ca, hca⟩ : ∃ c, c = checkS a := ⟨_, rfl⟩
  obtain ⟨cb, hcb⟩ : ∃ c, c = checkS b := ⟨_, rfl⟩
  rw [← hca] at KC1 HG
  rw [← hcb] at KC2 HG
  clear hca hcb
  go_enter Tryd.func5, Tryd.ntmps5
  go_wp2_with fail
  refine KA.out.mono ?_
  rintro _ w1 ⟨_, rfl, hb1, rfl⟩
  go_wp2_with fail
  refine (KC1.out _ hb1).mono ?_
  rintro _ w2 ⟨_, rfl, hb2, rfl⟩
  have hx2 := ext_trans hb1 hb2
  by_cases hz : ca = 0
  · have e1 : (ca != 0) = false := by simp [hz]
    have e2 : (cb != 0) = true := by have := HG.out hz; simpa using this
    clear hz HG
    go_wp2_with fail
    refine (KC2.out _ hx2).mono ?_
    rintro _ w3 ⟨_, rfl, hb3, rfl⟩
    go_wp2
    go_ret
    exact .mk (ext_trans hx2 hb3) rfl
  · have e1 : (ca != 0) = true := by simpa using hz
    clear hz HG
    go_wp2
    go_ret
    exact .mk hx2 rfl

/-- What the law's two loops make of two lists of sets. -/
theorem want_step {X Y : List Nat} {k j : Nat} (hk : k < X.length) (hj : j < Y.length) :
    wantN (X.take k) Y ++ ((Y.take (j + 1)).map fun d => X[k] &&& d).filter (fun e => e != 0) = (wantN (X.take k) Y ++ ((Y.take j).map fun d => X[k] &&& d).filter (fun e => e != 0)) ++ (if X[k] &&& Y[j] = 0 then [] else [X[k] &&& Y[j]]) := by
  rw [List.take_succ_eq_append_getElem hj, List.map_append, List.filter_append, List.append_assoc]
  congr 2
  by_cases h : X[k] &&& Y[j] = 0
  · simp [h]
  · simp [h]
theorem want_next {X Y : List Nat} {k : Nat} (hk : k < X.length) : wantN (X.take (k + 1)) Y = wantN (X.take k) Y ++ (Y.map fun d => X[k] &&& d).filter fun e => e != 0 := by
  unfold wantN
  rw [List.take_succ_eq_append_getElem hk, List.flatMap_append, List.flatMap_singleton]
theorem want_small {X Y : List Nat} (hX : ∀ c ∈ X, c < 32) : ∀ e ∈ wantN X Y, e < 32 := by
  intro e he
  unfold wantN at he
  obtain ⟨c, hc, he⟩ := List.mem_flatMap.1 he
  obtain ⟨d, hd, rfl⟩ := List.mem_map.1 (List.mem_filter.1 he).1
  have := hX c hc
  exact Nat.lt_of_le_of_lt Nat.and_le_left this
theorem want_len (X Y : List Nat) : (wantN X Y).length ≤ X.length * Y.length := by
  unfold wantN
  induction X with
  | nil => simp
  | cons c X ih =>
    rw [List.flatMap_cons, List.length_append, List.length_cons, Nat.add_mul]
    have := List.length_filter_le (fun e : Nat => e != 0) (Y.map fun d => c &&& d)
    simp at this
    omega
theorem sum_snoc {X : List Nat} {k : Nat} (hk : k < X.length) : (X.take (k + 1)).foldl (· + ·) 0 = (X.take k).foldl (· + ·) 0 + X[k] := by
  rw [List.take_succ_eq_append_getElem hk, List.foldl_append]; rfl
theorem sum_small {X : List Nat} (hX : ∀ c ∈ X, c < 32) (k : Nat) : (X.take k).foldl (· + ·) 0 ≤ 32 * k := by
  induction k with
  | zero => simp
  | succ k ih =>
    by_cases hk : k < X.length
    · rw [sum_snoc hk]
      have := hX _ (List.getElem_mem hk)
      omega
    · rw [List.take_of_length_le (by omega)]
      rw [List.take_of_length_le (by omega)] at ih
      omega

theorem and_dec {c s : Nat} (hc : c < 4294967296) (hs : s < 4294967296) {b : Bool} (h : (c &&& s != 0) = b) : (bits .and .i64 (c : Int) (s : Int) != 0) = b := by
  rw [and_nat hc hs, ← h]
  by_cases h0 : c &&& s = 0
  · rw [h0]; rfl
  · have h1 : ((c &&& s : Nat) : Int) ≠ 0 := by omega
    rw [bne_iff_ne.2 h0, bne_iff_ne.2 h1]
theorem without_zero {c s : Nat} (hc : c < 4294967296) (hs : s < 4294967296) (h : c &&& s = c) : (bits .andNot .i64 (c : Int) (s : Int) != 0) = false := by
  rw [andNot_nat hc hs]
  have : without c s = 0 := by
    apply Nat.eq_of_testBit_eq
    intro i
    rw [testBit_without, Nat.zero_testBit]
    have := congrArg (fun x => Nat.testBit x i) h
    simp only [Nat.testBit_and] at this
    cases h1 : c.testBit i <;> cases h2 : s.testBit i <;> simp_all
  simp [this]
theorem perm_sort {l l' : List Int} (h : l.Perm l') : sortL l = sortL l' :=
  ((sortL_perm l).trans (h.trans (sortL_perm l').symm)).eq_of_pairwise (le := (· ≤ ·)) (fun a b _ _ h1 h2 => by omega) (sortL_sorted l) (sortL_sorted l')
theorem bothS_good {a b : List Int} (ga : Good a) (gb : Good b) (hl : b.length = a.length) : bothS a b = 0 := by
  simp [bothS, checkS_good.2 ga, checkS_good.2 gb, hl]
theorem castL_append (a b : List Nat) : castL (a ++ b) = castL a ++ castL b := by simp [castL]
theorem sets_len {l : List Int} (hg : Good l) (h5 : l.length ≤ 5) : (setsN l).length ≤ 5 := by
  have : (setsN l).length = (classesS l).length := by simp [setsN]
  rw [this, length_classesS]
  have := numS_le l hg.2 l.length (Nat.le_refl _)
  rw [List.take_length] at this
  omega
theorem sets_pos {l : List Int} (hg : Good l) (h1 : 1 ≤ l.length) : 0 < (setsN l).length := by
  have : (setsN l).length = (classesS l).length := by simp [setsN]
  rw [this, length_classesS]
  have e : nth l 0 < numS l := by
    obtain ⟨x, m, rfl⟩ : ∃ x m, l = x :: m := by
      cases l with
      | nil => simp at h1
      | cons x m => exact ⟨x, m, rfl⟩
    have : ∀ (m : List Int) (n : Int), n ≤ m.foldl (fun n x => max n (x + 1)) n := by
      intro m
      induction m with
      | nil => intro n; exact Int.le_refl _
      | cons x m ih => intro n; exact Int.le_trans (Int.le_max_left _ _) (ih _)
    have h2 := this m (max 0 (x + 1))
    simp only [numS, List.foldl_cons]
    show x < _
    omega
  have := (hg.2 0 (by omega)).1
  omega
theorem ints_cell {S : Nat → Prop} {w : World} {a : Option Addr} {n cap k : Nat} {l : List Int} (h : Ints S w (.slice a n cap) l) (hk : k < l.length) {x : Int} (hx : nth l k = x) : w.cell? (adr a k) = some (.int .i64 x) := by
  subst hx
  obtain ⟨_, _, e, _, _, _, hc, _⟩ := h
  simp only [Value.slice.injEq] at e
  obtain ⟨rfl, _, _⟩ := e
  exact hc k hk
theorem ints_len {S : Nat → Prop} {w : World} {a : Option Addr} {n cap : Nat} {l : List Int} (h : Ints S w (.slice a n cap) l) : n = l.length := by
  obtain ⟨_, _, e, _⟩ := h
  simp only [Value.slice.injEq] at e
  exact e.2.1
theorem castL_get {l : List Nat} (h32 : ∀ c ∈ l, c < 32) {k : Nat} (hk : k < l.length) : ∃ c : Nat, c < 32 ∧ c ∈ l ∧ nth (castL l) k = (c : Int) ∧ l[k]? = some c :=
  ⟨l[k], h32 _ (List.getElem_mem hk), List.getElem_mem hk, by rw [nth_eq (by simpa using hk)]; simp [castL], List.getElem?_eq_getElem hk⟩

set_option maxRecDepth 100000 in
set_option maxHeartbeats 8000000 in
theorem divide_ok {S S' : Nat → Prop} {w : World} {va vb : Value} {a b : List Int} (TB : Tab w) (ha : Ints S w va a) (hb : Ints S' w vb b) (h1 : 1 ≤ a.length) (h5 : a.length ≤ 5) (hl : b.length = a.length) (ga : Good a) (gb : Good b) :
    Calls Tryd.prog 5 #[va, vb] w (Post w fun _ r => r = .bool true) := by
  have KA := Lib.hid (awake_calls TB)
  have KC1 := Lib.hid fun W (hW : Below w.heap.size w W) => refCheck_calls (ha.ext hW)
  have KC2 := Lib.hid fun W (hW : Below w.heap.size w W) => refCheck_calls (hb.ext hW)
  have KX := Lib.hid fun W (hW : Below w.heap.size w W) => caseSets_calls (ha.ext hW) ga h1 h5
  have KY := Lib.hid fun W (hW : Below w.heap.size w W) => caseSets_calls (hb.ext hW) gb (by omega) (by omega)
  have KM := Lib.hid fun W (hW : Below w.heap.size w W) => meetApi_calls (ha.ext hW) (hb.ext hW)
  have KJ := Lib.hid fun W (hW : Below w.heap.size w W) => join_calls (ha.ext hW) (hb.ext hW)
  have KAll := Lib.hid fun W => allI_calls W h1 h5
  rw [checkS_good.2 ga] at KC1
  rw [checkS_good.2 gb] at KC2
  rw [show meetR a b = (meetS a b, 0) by simp [meetR, bothS_good ga gb hl]] at KM
  rw [show joinR a b = (joinS a b, 0) by simp [joinR, bothS_good ga gb hl]] at KJ
  have hmg : Good (meetS a b) := good_labs (by simp; omega)
  have hjg : Good (joinS a b) := good_labs (by simp; omega)
  have hml : (meetS a b).length = a.length := by simp [meetS, hl]
  have hjl : (joinS a b).length = a.length := by simp [joinS]
  have hfa : ∀ i j, i < a.length → j < a.length → nth a i = nth a j → nth (joinS a b) i = nth (joinS a b) j := fun i j hi hj e => (nth_labs_iff hi hj).2 ((least_iff hi hj).2 (.base hi hj (.inl e)))
  have hfb : ∀ i j, i < b.length → j < b.length → nth b i = nth b j → nth (joinS a b) i = nth (joinS a b) j := fun i j hi hj e => (nth_labs_iff (by omega) (by omega)).2 ((least_iff (by omega) (by omega)).2 (.base (by omega) (by omega) (.inr e)))
  have HIA := Lib.hid (sets_inside ga hjg hjl h5 hfa)
  have HIB := Lib.hid (sets_inside gb hjg (by omega) (by omega) hfb)
  have HSA := sets_sum ga h5
  have HSB := sets_sum gb (by omega)
  have HSJ := sets_sum hjg (by omega)
  have HSM := sets_sum hmg (by omega)
  have HPM := Lib.hid (sets_meet ga gb hl h5)
  have hX5 := sets_len ga h5
  have hX0 := sets_pos ga h1
  have hY5 := sets_len gb (by omega)
  have hM5 := sets_len hmg (by omega)
  have hJ5 := sets_len hjg (by omega)
  have KMs : Hid (∀ (W : World) (S : Nat → Prop) (v : Value), Ints S W v (meetS a b) → Calls Tryd.prog 18 #[.int .i64 (meetS a b).length, v] W (Post W fun w' r => ∃ u, r = .tuple #[u, .bool true] ∧ OwnI W.heap.size w' u (castL (setsN (meetS a b))))) := Lib.hid fun W S v hv => caseSets_calls hv hmg (by omega) (by omega)
  have KJs : Hid (∀ (W : World) (S : Nat → Prop) (v : Value), Ints S W v (joinS a b) → Calls Tryd.prog 18 #[.int .i64 (joinS a b).length, v] W (Post W fun w' r => ∃ u, r = .tuple #[u, .bool true] ∧ OwnI W.heap.size w' u (castL (setsN (joinS a b))))) := Lib.hid fun W S v hv => caseSets_calls hv hjg (by omega) (by omega)
  rw [hml] at KMs
  rw [hjl] at KJs
  obtain ⟨aa, ac, rfl, _⟩ := ha.form
  obtain ⟨ba, bc, rfl, _⟩ := hb.form
  rw [hl] at KY KC2 KM KJ ⊢
  obtain ⟨m, hm⟩ : ∃ m, m = meetS a b := ⟨_, rfl⟩
  obtain ⟨jn, hjn⟩ : ∃ m, m = joinS a b := ⟨_, rfl⟩
  have HPM2 : Hid ((wantN (setsN a) (setsN b)).Perm (setsN m)) := Lib.hid (by rw [hm]; exact HPM.out)
  rw [← hm] at KM KMs HSM hM5 hml
  rw [← hjn] at KJ KJs HSJ HIA HIB hJ5 hjl
  obtain ⟨n, hn⟩ : ∃ n, n = a.length := ⟨_, rfl⟩
  rw [← hn] at KX KY KM KJ KAll KC1 KC2 KMs KJs h1 h5 HSA hml hjl ⊢
  obtain ⟨X, hX⟩ : ∃ X, X = setsN a := ⟨_, rfl⟩
  obtain ⟨Y, hY⟩ : ∃ X, X = setsN b := ⟨_, rfl⟩
  obtain ⟨M, hM⟩ : ∃ X, X = setsN m := ⟨_, rfl⟩
  obtain ⟨J, hJ⟩ : ∃ X, X = setsN jn := ⟨_, rfl⟩
  rw [← hX] at KX HSA HIA HPM2 hX5 hX0
  rw [← hY] at KY HSB HIB HPM2 hY5
  rw [← hM] at KMs HSM HPM2 hM5
  rw [← hJ] at KJs HSJ HIA HIB hJ5
  have X32 := Lib.hid HSA.2
  have Y32 := Lib.hid HSB.2
  have M32 := Lib.hid HSM.2
  have J32 := Lib.hid HSJ.2
  have HSUM := Lib.hid HSA.1
  have d1 : decide ((n : Int) < 1) = false := by simp; omega
  have d2 : decide ((5 : Int) < (n : Int)) = false := by simp; omega
  have d3 : ((n : Int) != (n : Int)) = false := by simp
  have HX5 := Lib.hid hX5
  have HY5 := Lib.hid hY5
  clear HPM hfa hfb hmg hjg hX hY hM hJ hm hjn ha hb ga gb hl HSA HSB HSM HSJ hn hml hjl TB
  go_enter Tryd.func5, Tryd.ntmps5
  go_wp2_with fail
  refine KA.out.mono ?_
  rintro _ w1 ⟨_, rfl, hx1, rfl⟩
  go_wp2_with fail
  refine (KC1.out _ hx1).mono ?_
  rintro _ w2 ⟨_, rfl, hb2, rfl⟩
  have hx2 := ext_trans hx1 hb2
  go_wp2_with fail
  refine (KC2.out _ hx2).mono ?_
  rintro _ w3 ⟨_, rfl, hb3, rfl⟩
  have hx3 := ext_trans hx2 hb3
  clear hx1 hb2 hx2 hb3 d1 d2 d3 KA KC1 KC2
  go_wp2_with fail
  refine (KX.out _ hx3).mono ?_
  rintro _ w4 ⟨_, rfl, hb4, vx, rfl, hXo⟩
  have hx4 := ext_trans hx3 hb4
  have hXi := (hXo.ints (castL_wf X32.out)).all
  clear hXo KX
  go_wp2_with fail
  refine (KY.out _ hx4).mono ?_
  rintro _ w5 ⟨_, rfl, hb5, vy, rfl, hYo⟩
  have hx5 := ext_trans hx4 hb5
  have hXi := hXi.ext hb5
  have hYi := (hYo.ints (castL_wf Y32.out)).all
  clear hYo KY hb4 hb5 hx3 hx4
  go_wp2_with fail
  refine (KAll.out _).mono ?_
  rintro _ w6 ⟨_, rfl, hb6, rfl⟩
  have hx6 := ext_trans hx5 hb6
  have hXi := hXi.ext hb6
  have hYi := hYi.ext hb6
  clear hb6 hx5 KAll
  go_wp2_with fail
  refine (KM.out _ hx6).mono ?_
  rintro _ w7 ⟨_, rfl, hb7, vm, rfl, hmi⟩
  have hx7 := ext_trans hx6 hb7
  have hXi := hXi.ext hb7
  have hYi := hYi.ext hb7
  clear hb7 hx6 KM
  go_wp2_with fail
  refine (KJ.out _ hx7).mono ?_
  rintro _ w8 ⟨_, rfl, hb8, vj, rfl, hji⟩
  have hx8 := ext_trans hx7 hb8
  have hXi := hXi.ext hb8
  have hYi := hYi.ext hb8
  have hmi := hmi.ext hb8
  clear hb8 hx7 KJ
  go_wp2_with fail
  refine (KMs.out _ _ _ hmi).mono ?_
  rintro _ w9 ⟨_, rfl, hb9, vm2, rfl, hMo⟩
  have hx9 := ext_trans hx8 hb9
  have hXi := (hXi.block 0).ext hb9
  have hYi := (hYi.block 0).ext hb9
  have hji := hji.ext hb9
  have hs8 := hb9.size
  have hx8s := Lib.hid hx8.size
  clear hb9 hx8 KMs hmi
  go_wp2_with fail
  refine (KJs.out _ _ _ hji).mono ?_
  rintro _ w10 ⟨_, rfl, hb10, vj2, rfl, hJo⟩
  have hx10 := ext_trans hx9 hb10
  have hXi := hXi.ext hb10
  have hYi := hYi.ext hb10
  have hMo2 := hMo.ext hb10
  have hs9 := hb10.size
  have hMlt := Lib.hid hMo.lt
  have hJlt := Lib.hid hJo.lt
  clear hb10 hx9 KJs hji hMo
  obtain ⟨xa, xc, rfl, xad, _⟩ := hXi.form
  obtain ⟨ya, yc, rfl, yad, _⟩ := hYi.form
  obtain ⟨i0, hi, hz0, hz1, hz2⟩ := info_parts info_int
  rw [castL_len] at hXi xad hYi yad
  have QX := Lib.hid (idx_one Tryd.underlying33 hi hz1 xad)
  have QY := Lib.hid (idx_one Tryd.underlying33 hi hz1 yad)
  rw [castL_len, castL_len]
  clear xad yad
  go_wp2
  go_loopw [18, 19, 111] (fun s o i wr => ∃ k : Nat, k ≤ X.length ∧ i = .int .i64 k ∧ s = .int .i64 (((X.take k).foldl (· + ·) 0 : Nat) : Int) ∧ Below w10.heap.size w10 wr ∧ OwnI w10.heap.size wr o (castL (wantN (X.take k) Y))) (fun _ _ i _ => X.length - (intOf i).toNat)
  case atStart => exact ⟨0, Nat.zero_le _, rfl, rfl, .refl _ _, World.ownsRow_nil _ _ _ _⟩
  case round =>
    obtain ⟨k, hk, rfl, rfl, hbr, ho⟩ := hrel
    by_cases hlt : k < X.length
    · have q := QX.out k hlt
      obtain ⟨c, hc32, hcm, hcn, hcg⟩ := castL_get X32.out hlt
      have p := ints_cell (hXi.ext hbr) (by simpa using hlt) hcn
      have HSS : Hid ((X.take (k + 1)).foldl (· + ·) 0 = (X.take k).foldl (· + ·) 0 + c) := Lib.hid (by rw [sum_snoc hlt]; rw [List.getElem?_eq_getElem hlt] at hcg; injection hcg with hcg; rw [hcg])
      have hss := sum_small X32.out k
      obtain ⟨sk, hsk⟩ : ∃ sk, sk = (X.take k).foldl (· + ·) 0 := ⟨_, rfl⟩
      have HWN : Hid (wantN (X.take (k + 1)) Y = wantN (X.take k) Y ++ (Y.map fun d => c &&& d).filter fun e => e != 0) := Lib.hid (by rw [want_next hlt]; rw [List.getElem?_eq_getElem hlt] at hcg; injection hcg with hcg; rw [hcg])
      rw [← hsk] at HSS hss ⊢
      obtain ⟨W0, hW0⟩ : ∃ W0, W0 = wantN (X.take k) Y := ⟨_, rfl⟩
      have hwl : W0.length ≤ k * Y.length := by
        have := want_len (X.take k) Y
        rw [hW0]
        simp at this
        rw [Nat.min_eq_left (by omega)] at this
        exact this
      have hwl2 : W0.length ≤ 25 := by
        have h5 := HX5.out
        have h6 := HY5.out
        have : k * Y.length ≤ 5 * 5 := Nat.mul_le_mul (by omega) h6
        omega
      rw [← hW0] at HWN ho
      clear hsk hW0 hwl hcn hcg hcm
      obtain ⟨wo, rfl⟩ : ∃ wo : World, wo = wr := ⟨_, rfl⟩
      have hX5' := HX5.out
      go_wp2
      go_loopw [19, 120] (fun o i wr => ∃ j : Nat, j ≤ Y.length ∧ i = .int .i64 j ∧ Below w10.heap.size w10 wr ∧ OwnI w10.heap.size wr o (castL (W0 ++ ((Y.take j).map fun d => c &&& d).filter fun e => e != 0))) (fun _ i _ => Y.length - (intOf i).toNat)
      case atStart => exact ⟨0, Nat.zero_le _, rfl, hbr, by simpa using ho⟩
      case round =>
        obtain ⟨j, hj, rfl, hbj, hoj⟩ := hrel
        by_cases hjt : j < Y.length
        · have q2 := QY.out j hjt
          obtain ⟨d, hd32, hdm, hdn, hdg⟩ := castL_get Y32.out hjt
          have p2 := ints_cell (hYi.ext hbj) (by simpa using hjt) hdn
          have hbs := hbj.size
          have hY5' := HY5.out
          have HST : Hid (((Y.take (j + 1)).map fun d => c &&& d).filter (fun e => e != 0) = ((Y.take j).map fun d => c &&& d).filter (fun e => e != 0) ++ (if c &&& d = 0 then [] else [c &&& d])) := Lib.hid (by
            rw [List.take_succ_eq_append_getElem hjt, List.map_append, List.filter_append]
            rw [List.getElem?_eq_getElem hjt] at hdg; injection hdg with hdg; rw [hdg]
            by_cases h : c &&& d = 0
            · simp [h]
            · simp [h])
          have hfl : (((Y.take j).map fun d => c &&& d).filter fun e => e != 0).length ≤ 5 := by
            refine Nat.le_trans (List.length_filter_le _ _) ?_
            simp; omega
          obtain ⟨G, hG⟩ : ∃ G, G = ((Y.take j).map fun d => c &&& d).filter fun e => e != 0 := ⟨_, rfl⟩
          rw [← hG] at HST hoj hfl
          have hGl : (castL (W0 ++ G)).length ≤ 30 := by simp; omega
          clear hG hdn hdg hdm
          by_cases h0 : c &&& d = 0
          · have e0 := and_dec (c := c) (s := d) (by omega) (by omega) (b := false) (by simp [h0])
            have HE : Hid (W0 ++ ((Y.take (j + 1)).map fun d => c &&& d).filter (fun e => e != 0) = W0 ++ G) := Lib.hid (by rw [HST.out, if_pos h0, List.append_nil])
            clear h0
            go_wp2
            go_roundw
            case rel => exact ⟨j + 1, by omega, by go_num, hbj, by rw [HE.out]; exact hoj⟩
            case measure => simp [intOf]; omega
          · have e0 := and_dec (c := c) (s := d) (by omega) (by omega) (b := true) (by simp [h0])
            have HE : Hid (castL (W0 ++ ((Y.take (j + 1)).map fun d => c &&& d).filter (fun e => e != 0)) = castL (W0 ++ G) ++ [((c &&& d : Nat) : Int)]) := Lib.hid (by rw [HST.out, if_neg h0, ← List.append_assoc, castL_append (W0 ++ G)]; rfl)
            have HAN := Lib.hid (and_nat (a := c) (b := d) (by omega) (by omega))
            unfold OwnI at hoj
            clear h0
            go_wp2_with (at_builtin; refine wpList_push rfl (.tmp 128) (.tmp 132) 33 rfl 3 _ 8 Tryd.underlying33 info_int rfl w10.heap.size _ _ _ rfl hoj (.int .i64 (bits .and .i64 (c : Int) (d : Int))) rfl rfl (by omega) (by omega) (by omega) ?_; intro g3 c3 w3 hown3 hbel3 hag3 hblk3)
            go_roundw
            case rel =>
              refine ⟨j + 1, by omega, by go_num, hbj.trans hbel3, ?_⟩
              unfold OwnI
              rw [HE.out]
              rw [HAN.out] at hown3
              simpa using hown3
            case measure => simp [intOf]; omega
        · obtain rfl : j = Y.length := by omega
          rw [List.take_length, ← HWN.out] at hoj
          go_wp2
          go_roundw
          case rel => exact ⟨k + 1, by omega, by go_num, by rw [HSS.out]; go_num, hbj, hoj⟩
          case measure => simp [intOf]; omega
    · obtain rfl : k = X.length := by omega
      rw [List.take_length] at ho
      rw [List.take_length, HSUM.out]
      have hwl : (castL (wantN X Y)).length ≤ 100000 := by
        rw [castL_len]
        have h5 := HX5.out
        have h6 := HY5.out
        have : X.length * Y.length ≤ 5 * 5 := Nat.mul_le_mul h5 h6
        have := want_len X Y
        omega
      have hMo3 := hMo2.ext hbr
      have hJo3 := hJo.ext hbr
      have hXr := hXi.ext hbr
      have hYr := hYi.ext hbr
      have WW := Lib.hid (want_small (Y := Y) X32.out)
      have KS1 := Lib.hid (sortI_calls ho hwl (castL_wf WW.out))
      have HWlt := Lib.hid ho.lt
      have HS8 : Hid (w8.heap.size ≤ w10.heap.size ∧ w9.heap.size ≤ w10.heap.size) := Lib.hid ⟨by omega, hs9⟩
      have hbrs := hbr.size
      clear ho hXi hYi hMo2 hJo hwl
      go_wp2_with fail
      refine KS1.out.mono ?_
      rintro _ s1 ⟨rfl, hW1, hag1, hbl1⟩
      have hxs1 := (hx10.trans ((hbr.mono (by have := hx10.size; omega)).trans (hbl1.mono (by have := hx10.size; omega))))
      have hMo4 : OwnI w8.heap.size s1 vm2 (castL M) := owns_agree hMo3 hag1 fun k hk e1 => by
        have := (hMlt.out k hk).2
        have := (HWlt.out k e1).1
        have := hs9
        omega
      have hJo4 : OwnI w9.heap.size s1 vj2 (castL J) := owns_agree hJo3 hag1 fun k hk e1 => by
        have := (hJlt.out k hk).2
        have := (HWlt.out k e1).1
        omega
      have hXr := (hXr.mono (S' := fun b => b < w8.heap.size) fun b hb => hb.2).agree (hag1.mono fun b hb e1 => by
        have := (HWlt.out b e1).1
        have := HS8.out
        omega)
      have hYr := (hYr.mono (S' := fun b => b < w8.heap.size) fun b hb => hb.2).agree (hag1.mono fun b hb e1 => by
        have := (HWlt.out b e1).1
        have := HS8.out
        omega)
      have KS2 := Lib.hid (sortI_calls hMo4 (by rw [castL_len]; omega) (castL_wf M32.out))
      have hMl4 := Lib.hid hMo4.lt
      clear KS1 hMo3 hJo3 hag1 hbl1 hMo4
      go_wp2_with fail
      refine KS2.out.mono ?_
      rintro _ s2 ⟨rfl, hM2, hag2, hbl2⟩
      have hxs2 := hxs1.trans (hbl2.mono (by have := hx10.size; have := HS8.out; have h8 := hx8s.out; omega))
      have hW2 := hW1.agree (hag2.mono fun b hb e1 => by
        have := (hMlt.out b e1).2
        have := HS8.out
        omega)
      have hXr := hXr.agree (hag2.mono fun b hb e1 => by
        have := (hMlt.out b e1).1
        omega)
      have hYr := hYr.agree (hag2.mono fun b hb e1 => by
        have := (hMlt.out b e1).1
        omega)
      have hJr := ((show OwnI w9.heap.size s2 vj2 (castL J) from owns_agree hJo4 hag2 fun k hk e1 => by
        have := (hMlt.out k e1).2
        have := (hJlt.out k hk).1
        omega).ints (castL_wf J32.out)).all
      have HEQ : sortL (castL (wantN X Y)) = sortL (castL M) := perm_sort (HPM2.out.map _)
      rw [HEQ] at hW2
      obtain ⟨sm, hsm⟩ : ∃ l, l = sortL (castL M) := ⟨_, rfl⟩
      rw [← hsm] at hW2 hM2
      have KE := Lib.hid (equal_calls hW2 hM2)
      obtain ⟨oa, oc, eo, _⟩ := hW2.form
      obtain ⟨ma, mc, em, _⟩ := hM2.form
      subst eo em
      have dd : (((2 ^ n - 1 : Nat) : Int) != ((2 ^ n - 1 : Nat) : Int)) = false := by simp
      have de : decide (sm = sm) = true := by simp
      rw [de] at KE
      clear HEQ hsm de KS2 hW1 hag2 hbl2 hJo4 hW2 hM2 hMl4
      go_wp2_with fail
      refine KE.out.mono ?_
      rintro _ s3 ⟨_, rfl, hb3, rfl⟩
      have hxs3 := ext_trans hxs2 hb3
      have hXr := hXr.ext hb3
      have hYr := hYr.ext hb3
      have hJr := hJr.ext hb3
      obtain ⟨ja, jc, rfl, jad, _⟩ := hJr.form
      rw [castL_len] at hJr jad
      have QJ := Lib.hid (idx_one Tryd.underlying33 hi hz1 jad)
      obtain ⟨FL, hFL⟩ : ∃ FL, FL = [castL X, castL Y].flatten := ⟨_, rfl⟩
      have HFC : Hid (∀ k, k < FL.length → ∃ c : Nat, c < 32 ∧ nth FL k = (c : Int) ∧ ∀ s ∈ J, c &&& s = 0 ∨ c &&& s = c) := Lib.hid fun k hk => by
        have e : FL = castL (X ++ Y) := by rw [hFL, castL_append]; simp
        have hk2 : k < (X ++ Y).length := by rw [e, castL_len] at hk; exact hk
        refine ⟨(X ++ Y)[k], ?_, ?_, ?_⟩
        · rcases List.mem_append.1 (List.getElem_mem hk2) with h | h
          · exact X32.out _ h
          · exact Y32.out _ h
        · rw [e, nth_eq (by simpa using hk2)]; simp only [castL, List.getElem_map]
        · rcases List.mem_append.1 (List.getElem_mem hk2) with h | h
          · exact HIA.out _ h
          · exact HIB.out _ h
      have KCC : Hid (∀ W, Below s3.heap.size s3 W → Calls Tryd.prog 24 #[.slice (some ⟨W.heap.size, 0, none⟩) 2 2] (W.alloc (.cells #[.slice xa X.length xc, .slice ya Y.length yc] 33)) (Post (W.alloc (.cells #[.slice xa X.length xc, .slice ya Y.length yc] 33)) fun w' r => ∃ g cc, r = .slice g FL.length cc ∧ Ints (fun _ => True) w' (.slice g FL.length cc) FL)) := Lib.hid fun W hW => by
        have hL := lit_lists W W.heap.size rfl [.slice xa X.length xc, .slice ya Y.length yc] [castL X, castL Y] 33 ⟨(hXr.ext hW).all, (hYr.ext hW).all, trivial⟩ (by simp)
        have h0 : 0 < [castL X, castL Y].flatten.length := by simp; omega
        have hfl : ∀ x ∈ [castL X, castL Y].flatten, WF x := by
          intro x hx
          simp at hx
          rcases hx with hx | hx
          · exact castL_wf X32.out x hx
          · exact castL_wf Y32.out x hx
        refine (concat_calls hL h0 (by simp; omega) (by simp) hfl).mono ?_
        rintro e w' ⟨r, rfl, hb, ho⟩
        rw [← hFL] at ho hfl
        have hi2 := (ho.ints hfl).all
        obtain ⟨g, cc, rfl, _⟩ := hi2.form
        exact ⟨_, rfl, hb, g, cc, rfl, hi2⟩
      have HQF : Hid (∀ (W : World) g cc, Ints (fun _ => True) W (.slice g FL.length cc) FL → ∀ k : Nat, k < FL.length → ∀ W : World, (Instr.indexAt 33 (.slice g FL.length cc) (.int .i64 k)).run Tryd.prog W = .ok (.pointer (some (adr g k))) W) := Lib.hid fun W g cc h => idx_one Tryd.underlying33 hi hz1 (ints_ad h)
      have hFm : FL.length ≤ 10 := by rw [hFL]; simp; omega
      clear hi hz0 hz1 hz2 jad KE hb3 hxs2 hFL hXr hYr hxs1 hx10 hbr hMlt hJlt HWlt HS8 HSUM
      rw [castL_len]
      go_wp2
      go_loopw [159] (fun i wr => ∃ k : Nat, k ≤ J.length ∧ i = .int .i64 k ∧ Below s3.heap.size s3 wr) (fun i _ => J.length - (intOf i).toNat)
      case atStart => exact ⟨0, Nat.zero_le _, rfl, .refl _ _⟩
      case round =>
        obtain ⟨k, hk, rfl, hb⟩ := hrel
        by_cases hlt : k < J.length
        · have q := QJ.out k hlt
          obtain ⟨s, hs32, hsm, hsn, _⟩ := castL_get J32.out hlt
          have p := ints_cell (hJr.ext hb) (by simpa using hlt) hsn
          have HSM := Lib.hid hsm
          clear hsm hsn
          go_wp2_with fail
          refine (KCC.out _ hb).mono ?_
          rintro _ w4 ⟨_, rfl, hb4, g, cc, rfl, hF⟩
          have hb5 := (hb.alloc hb.size (.cells #[.slice xa X.length xc, .slice ya Y.length yc] 33)).trans (hb4.mono (by have := hb.size; simp; omega))
          have QF := Lib.hid (HQF.out _ _ _ hF)
          clear hb4 q p
          go_wp2
          go_loop [168] (fun i => ∃ k : Nat, k ≤ FL.length ∧ i = .int .i64 k) (fun i => FL.length - (intOf i).toNat)
          case atStart => exact ⟨0, Nat.zero_le _, rfl⟩
          case round =>
            obtain ⟨t, ht, rfl⟩ := hrel
            by_cases htt : t < FL.length
            · have q := QF.out t htt
              obtain ⟨c, hc32, hcn, hcs⟩ := HFC.out t htt
              have p := ints_cell hF htt hcn
              by_cases h0 : c &&& s = 0
              · have e0 := and_dec (c := c) (s := s) (by omega) (by omega) (b := false) (by simp [h0])
                clear h0 hcs hcn
                go_wp2
                go_round
                case rel => exact ⟨t + 1, by omega, by go_num⟩
                case measure => simp [intOf]; omega
              · have e0 := and_dec (c := c) (s := s) (by omega) (by omega) (b := true) (by simp [h0])
                have e1 := without_zero (c := c) (s := s) (by omega) (by omega) ((hcs s HSM.out).resolve_left h0)
                clear h0 hcs hcn
                go_wp2
                go_round
                case rel => exact ⟨t + 1, by omega, by go_num⟩
                case measure => simp [intOf]; omega
            · obtain rfl : t = FL.length := by omega
              go_wp2
              go_roundw
              case rel => exact ⟨k + 1, by omega, by go_num, hb5⟩
              case measure => simp [intOf]; omega
        · obtain rfl : k = J.length := by omega
          go_wp2
          go_ret
          exact .mk (ext_trans hxs3 hb) rfl

theorem walkTopClassesDivide {S S' : Nat → Prop} {w : World} {va vb : Value} {a b : List Int} (TB : Tab w) (ha : Ints S w va a) (hb : Ints S' w vb b) :
    Calls Tryd.prog 5 #[va, vb] w (Post w fun _ r => r = .bool true) := by
  by_cases h : 1 ≤ a.length ∧ a.length ≤ 5 ∧ b.length = a.length
  · by_cases hg : Good a ∧ Good b
    · exact divide_ok TB ha hb h.1 h.2.1 h.2.2 hg.1 hg.2
    · exact check_out TB ha hb h hg
  · exact guard_out TB ha hb h
end Go.Proofs.YtmlgbaogkbfklaaDoor
