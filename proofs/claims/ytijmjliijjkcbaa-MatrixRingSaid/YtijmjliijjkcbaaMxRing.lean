/- Products, sums and transposes: plain data. -/
import Derived.Test.YtijmjliijjkcbaaMxMul
import Derived.Test.YtijmjliijjkcbaaMxRank
import Derived.Test.YtijmjliijjkcbaaMxAdd
import Derived.Test.YtijmjliijjkcbaaMxLaw1
namespace Go.Proofs.Ytijmjliijjkcbaa
set_option linter.unusedVariables false
open Go.RowKit

def timesM (a b : Mx) : Mx := ⟨b.cols, timesRows a.rows b.rows⟩
def addM (a b : Mx) : Mx := ⟨a.cols, addRows a.rows b.rows⟩
theorem timesRows_len (a b : List (List Int)) : (timesRows a b).length = a.length := by unfold timesRows; rw [List.length_map]
theorem nthL_times {a b : List (List Int)} (k : Nat) : nthL (timesRows a b) k = sumRows b (nthL a k) := by
  rcases Nat.lt_or_ge k a.length with h | h
  · simp [nthL, timesRows, h]
  · simp [nthL, timesRows, List.getElem?_eq_none h, sumRows_nil]
theorem times_ok {a b : Mx} (ha : MOk a) (hb : MOk b) : MOk (timesM a b) := by
  refine checkM_zero.1 (checkM_ok ⟨hb.c0, hb.c1⟩ (by show (timesRows a.rows b.rows).length ≤ 4096; rw [timesRows_len]; exact ha.r1) (fun r hr => ?_) fun r hr z hz => ?_)
  · obtain ⟨y, _, rfl⟩ := List.mem_map.1 hr
    exact sumRows_ord hb.ord y
  · obtain ⟨y, _, rfl⟩ := List.mem_map.1 hr
    exact sumRows_rng hb.rok y z hz
theorem nthL_add {a b : List (List Int)} (h : a.length = b.length) (k : Nat) : nthL (addRows a b) k = xorL (nthL a k) (nthL b k) := by
  rcases Nat.lt_or_ge k a.length with h1 | h1
  · rw [nthL_eq (show k < (addRows a b).length by rw [addRows_length h]; exact h1), nthL_eq h1, nthL_eq (show k < b.length by omega)]
    unfold addRows
    rw [List.getElem_zipWith]
  · have hn : (addRows a b).length ≤ k := by rw [addRows_length h]; exact h1
    simp [nthL, List.getElem?_eq_none h1, List.getElem?_eq_none (show b.length ≤ k by omega), List.getElem?_eq_none hn, xorL_nil_left]
theorem add_ok {a b : Mx} (ha : MOk a) (hb : MOk b) (h1 : a.cols = b.cols) (h2 : a.rows.length = b.rows.length) : MOk (addM a b) := by
  have key : ∀ r ∈ addRows a.rows b.rows, ∃ k, k < a.rows.length ∧ r = xorL (nthL a.rows k) (nthL b.rows k) := by
    intro r hr
    obtain ⟨k, hk, e⟩ := List.getElem_of_mem hr
    rw [addRows_length h2] at hk
    refine ⟨k, hk, ?_⟩
    rw [← nthL_add h2, ← e, nthL_eq]
  refine checkM_zero.1 (checkM_ok ⟨ha.c0, ha.c1⟩ (by show (addRows a.rows b.rows).length ≤ 4096; rw [addRows_length h2]; exact ha.r1) (fun r hr => ?_) fun r hr z hz => ?_)
  · obtain ⟨k, hk, rfl⟩ := key r hr
    exact xorL_ord (ha.rok.nth_ord k) (hb.rok.nth_ord k)
  · obtain ⟨k, hk, rfl⟩ := key r hr
    rcases xorL_sub z hz with h | h
    · exact ha.rok.nth_rng k z h
    · have := hb.rok.nth_rng k z h
      show 0 ≤ z ∧ z < a.cols
      omega
theorem mul_eq {a b : Mx} (ha : MOk a) (hb : MOk b) (h : a.cols = b.rows.length) : mulS a b = (timesM a b, 0) := mulS_ok (bothM_zero.2 ⟨checkM_zero.2 ha, checkM_zero.2 hb⟩) h
theorem add_eq {a b : Mx} (ha : MOk a) (hb : MOk b) (h1 : a.cols = b.cols) (h2 : a.rows.length = b.rows.length) : addS a b = (addM a b, 0) := addS_ok (bothM_zero.2 ⟨checkM_zero.2 ha, checkM_zero.2 hb⟩) h1 h2
theorem trans_eq {a : Mx} (ha : MOk a) : transS a = (turned a, 0) := transS_ok (checkM_zero.2 ha)
/-- Products are associative. -/
theorem sum_sum {b c : List (List Int)} (hc : Rows c) (y : List Int) : sumRows c (sumRows b y) = sumRows (timesRows b c) y := by
  refine snoc_ind (P := fun y => sumRows c (sumRows b y) = sumRows (timesRows b c) y) rfl (fun y k ih => ?_) y
  rw [sumRows_snoc, sumRows_xor hc, ih, sumRows_snoc, nthL_times]
theorem times_assoc {a b c : Mx} (hc : MOk c) : timesM (timesM a b) c = timesM a (timesM b c) := by
  show (⟨c.cols, timesRows (timesRows a.rows b.rows) c.rows⟩ : Mx) = ⟨c.cols, timesRows a.rows (timesRows b.rows c.rows)⟩
  congr 1
  unfold timesRows
  rw [List.map_map]
  exact List.map_congr_left fun y _ => sum_sum hc.ord y
/-- Products distribute over sums. -/
theorem sum_add {b d : List (List Int)} (hb : Rows b) (hd : Rows d) (hl : b.length = d.length) (y : List Int) : sumRows (addRows b d) y = xorL (sumRows b y) (sumRows d y) := by
  have ho : Rows (addRows b d) := by
    intro r hr
    obtain ⟨k, hk, e⟩ := List.getElem_of_mem hr
    rw [← nthL_eq hk, nthL_add hl] at e
    rw [← e]
    exact xorL_ord (nthL_ord hb k) (nthL_ord hd k)
  refine ord_extB (sumRows_ord ho y) (xorL_ord (sumRows_ord hb y) (sumRows_ord hd y)) fun z => ?_
  rw [memB_xorL (sumRows_ord hb y) (sumRows_ord hd y), memB_sumRows ho, memB_sumRows hb, memB_sumRows hd, ← par_xor]
  exact par_congr fun k _ => by rw [nthL_add hl, memB_xorL (nthL_ord hb _) (nthL_ord hd _)]
theorem times_add {a b d : Mx} (hb : MOk b) (hd : MOk d) (h1 : b.cols = d.cols) (h2 : b.rows.length = d.rows.length) : timesM a (addM b d) = addM (timesM a b) (timesM a d) := by
  show (⟨b.cols, timesRows a.rows (addRows b.rows d.rows)⟩ : Mx) = ⟨b.cols, addRows (timesRows a.rows b.rows) (timesRows a.rows d.rows)⟩
  congr 1
  unfold timesRows
  refine List.ext_getElem (by simp [addRows]) fun i h3 h4 => ?_
  simp only [List.getElem_map, addRows, List.getElem_zipWith]
  exact sum_add hb.ord hd.ord h2 _
/-- The transpose of a product. -/
theorem turned_times {a b : Mx} (ha : MOk a) (hb : MOk b) (h : a.cols = b.rows.length) : timesM (turned b) (turned a) = turned (timesM a b) := by
  have hal := timesRows_len a.rows b.rows
  show (⟨a.rows.length, timesRows (turnedRows b.cols.toNat b.rows) (turnedRows a.cols.toNat a.rows)⟩ : Mx) = ⟨(timesRows a.rows b.rows).length, turnedRows b.cols.toNat (timesRows a.rows b.rows)⟩
  rw [hal]
  congr 1
  unfold turnedRows timesRows
  rw [List.map_map]
  refine List.map_congr_left fun c hc => ?_
  show sumRows (turnedRows a.cols.toNat a.rows) (colV b.rows (c : Int)) = colV (timesRows a.rows b.rows) (c : Int)
  have hto := (turned_ok ha).ord
  have htr := (turned_ok ha).rok
  rw [show (turned a).rows = turnedRows a.cols.toNat a.rows from rfl] at hto htr
  rw [show (turned a).cols = (a.rows.length : Int) from rfl] at htr
  have hlt : (turnedRows a.cols.toNat a.rows).length = b.rows.length := by rw [turnedRows_length, h]; simp
  have h1 : InR a.rows.length (sumRows (turnedRows a.cols.toNat a.rows) (colV b.rows (c : Int))) := ⟨sumRows_ord hto _, fun z hz => sumRows_rng htr _ z hz⟩
  have h2 := colV_inR (timesRows a.rows b.rows) (c : Int)
  rw [hal] at h2
  refine inR_extB h1 h2 fun i hi => ?_
  rw [memB_sumRows hto, memB_colV ⟨by omega, by rw [hal]; omega⟩, Int.toNat_natCast, nthL_times, memB_sumRows hb.ord]
  have e1 : par (fun k => memB (nthL (turnedRows a.cols.toNat a.rows) k.toNat) (i : Int)) (colV b.rows (c : Int)) = oddV (colV b.rows (c : Int)) (nthL a.rows i) := par_congr fun k hk => by
    have hk := (colV_inR b.rows (c : Int)).2 k hk
    rw [nthL_turned (by omega), memB_colV ⟨by omega, by omega⟩, Int.toNat_natCast, show ((k.toNat : Nat) : Int) = k by omega]
  have e2 : par (fun k => memB (nthL b.rows k.toNat) (c : Int)) (nthL a.rows i) = oddV (nthL a.rows i) (colV b.rows (c : Int)) := par_congr fun k hk => by
    have := ha.rok.nth_rng i k hk
    exact (memB_colV ⟨by omega, by omega⟩).symm
  rw [e1, e2, oddV_comm (colV_inR _ _).1 (ha.rok.nth_ord i)]

/-! calls with their answers named -/
theorem addP_gen {S S' : Nat → Prop} {w : World} {va vb : Value} {a b : Mx} {c e : Int} {ll : List (List Int)} (ha : MatV S w va a) (hb : MatV S' w vb b) (h : addS a b = (⟨c, ll⟩, e)) : Calls Try.prog 41 #[va, vb] w (Post w (PMat c ll e)) :=
  (add_calls ha hb).mono fun _ _ h1 => h1.imp fun _ _ h1 => RetM.lit h1 h rfl
theorem refAddP_gen {S S' : Nat → Prop} {w : World} {va vb : Value} {a b : Mx} {c e : Int} {ll : List (List Int)} (ha : MatV S w va a) (hb : MatV S' w vb b) (h : addS a b = (⟨c, ll⟩, e)) : Calls Try.prog 42 #[va, vb] w (Post w (PMat c ll e)) :=
  (refAdd_calls ha hb).mono fun _ _ h1 => h1.imp fun _ _ h1 => RetM.lit h1 h rfl
theorem mulP_gen {S S' : Nat → Prop} {w : World} {va vb : Value} {a b : Mx} {c e : Int} {ll : List (List Int)} (ha : MatV S w va a) (hb : MatV S' w vb b) (h : mulS a b = (⟨c, ll⟩, e)) : Calls Try.prog 43 #[va, vb] w (Post w (PMat c ll e)) :=
  (multiply_calls ha hb).mono fun _ _ h1 => h1.imp fun _ _ h1 => RetM.lit h1 h rfl
theorem refMulP_gen {S S' : Nat → Prop} {w : World} {va vb : Value} {a b : Mx} {c e : Int} {ll : List (List Int)} (ha : MatV S w va a) (hb : MatV S' w vb b) (h : mulS a b = (⟨c, ll⟩, e)) : Calls Try.prog 44 #[va, vb] w (Post w (PMat c ll e)) :=
  (refMultiply_calls ha hb).mono fun _ _ h1 => h1.imp fun _ _ h1 => RetM.lit h1 h rfl
theorem refBothP_gen {S S' : Nat → Prop} {w : World} {va vb : Value} {a b : Mx} {c : Int} (ha : MatV S w va a) (hb : MatV S' w vb b) (h : bothM a b = c) : Calls Try.prog 45 #[va, vb] w (Post w fun _ r => r = .int .i64 c) :=
  (refBoth_calls ha hb).mono fun _ _ h1 => h1.imp fun _ _ h1 => by rw [h1, h]
theorem MatV.rowsOf {S : Nat → Prop} {w : World} {c : Int} {a : Option Addr} {n cap : Nat} {m : Mx} (h : MatV S w (.agg #[.int .i64 c, .slice a n cap]) m) : Lists S w (.slice a n cap) m.rows := by
  obtain ⟨rv, hv, hl⟩ := h
  have hrv : rv = .slice a n cap := by
    have := congrArg (fun v => match v with | .agg xs => xs[1]? | _ => none) hv
    simpa using this.symm
  subst hrv
  exact hl
theorem few2 {S1 S2 : Nat → Prop} {w : World} {B : Nat} {c1 c2 : Int} {a1 a2 : Option Addr} {n1 n2 k1 k2 : Nat} {l1 l2 : List (List Int)} {e : TypeId} {q : Bool} (h1 : MatV S1 w (.agg #[.int .i64 c1, .slice a1 n1 k1]) ⟨c1, l1⟩) (h2 : MatV S2 w (.agg #[.int .i64 c2, .slice a2 n2 k2]) ⟨c2, l2⟩) (hB : B = w.heap.size) (hq : (fewM ⟨c1, l1⟩ && fewM ⟨c2, l2⟩) = q) :
    Calls Try.prog 14 #[.slice (some ⟨B, 0, none⟩) 2 2] (w.alloc (.cells #[.int .i64 c1, .slice a1 n1 k1, .int .i64 c2, .slice a2 n2 k2] e)) (Post (w.alloc (.cells #[.int .i64 c1, .slice a1 n1 k1, .int .i64 c2, .slice a2 n2 k2] e)) fun _ r => r = .bool q) := by
  subst hB hq
  have r := row_new w [.int .i64 c1, .slice a1 n1 k1, .int .i64 c2, .slice a2 n2 k2] e
  have hM : MatsV TT (w.alloc (.cells #[.int .i64 c1, .slice a1 n1 k1, .int .i64 c2, .slice a2 n2 k2] e)) w.heap.size [⟨c1, l1⟩, ⟨c2, l2⟩] := by
    refine ⟨by simp, fun j hj => ?_⟩
    have hj : j < 2 := hj
    rcases (by omega : j = 0 ∨ j = 1) with rfl | rfl
    · exact ⟨_, r.cell (j := 0) rfl, r.cell (j := 1) rfl, (h1.rowsOf.ext (ext_alloc _ _)).mono fun _ _ => trivial⟩
    · exact ⟨_, r.cell (j := 2) rfl, r.cell (j := 3) rfl, (h2.rowsOf.ext (ext_alloc _ _)).mono fun _ _ => trivial⟩
  have := few_calls hM (by simp)
  simpa using this
theorem few3 {S1 S2 S3 : Nat → Prop} {w : World} {B : Nat} {c1 c2 c3 : Int} {a1 a2 a3 : Option Addr} {n1 n2 n3 k1 k2 k3 : Nat} {l1 l2 l3 : List (List Int)} {e : TypeId} {q : Bool} (h1 : MatV S1 w (.agg #[.int .i64 c1, .slice a1 n1 k1]) ⟨c1, l1⟩) (h2 : MatV S2 w (.agg #[.int .i64 c2, .slice a2 n2 k2]) ⟨c2, l2⟩) (h3 : MatV S3 w (.agg #[.int .i64 c3, .slice a3 n3 k3]) ⟨c3, l3⟩) (hB : B = w.heap.size) (hq : (fewM ⟨c1, l1⟩ && (fewM ⟨c2, l2⟩ && fewM ⟨c3, l3⟩)) = q) :
    Calls Try.prog 14 #[.slice (some ⟨B, 0, none⟩) 3 3] (w.alloc (.cells #[.int .i64 c1, .slice a1 n1 k1, .int .i64 c2, .slice a2 n2 k2, .int .i64 c3, .slice a3 n3 k3] e)) (Post (w.alloc (.cells #[.int .i64 c1, .slice a1 n1 k1, .int .i64 c2, .slice a2 n2 k2, .int .i64 c3, .slice a3 n3 k3] e)) fun _ r => r = .bool q) := by
  subst hB hq
  have r := row_new w [.int .i64 c1, .slice a1 n1 k1, .int .i64 c2, .slice a2 n2 k2, .int .i64 c3, .slice a3 n3 k3] e
  have hM : MatsV TT (w.alloc (.cells #[.int .i64 c1, .slice a1 n1 k1, .int .i64 c2, .slice a2 n2 k2, .int .i64 c3, .slice a3 n3 k3] e)) w.heap.size [⟨c1, l1⟩, ⟨c2, l2⟩, ⟨c3, l3⟩] := by
    refine ⟨by simp, fun j hj => ?_⟩
    have hj : j < 3 := hj
    rcases (by omega : j = 0 ∨ j = 1 ∨ j = 2) with rfl | rfl | rfl
    · exact ⟨_, r.cell (j := 0) rfl, r.cell (j := 1) rfl, (h1.rowsOf.ext (ext_alloc _ _)).mono fun _ _ => trivial⟩
    · exact ⟨_, r.cell (j := 2) rfl, r.cell (j := 3) rfl, (h2.rowsOf.ext (ext_alloc _ _)).mono fun _ _ => trivial⟩
    · exact ⟨_, r.cell (j := 4) rfl, r.cell (j := 5) rfl, (h3.rowsOf.ext (ext_alloc _ _)).mono fun _ _ => trivial⟩
  have := few_calls hM (by simp)
  simpa using this
end Go.Proofs.Ytijmjliijjkcbaa
