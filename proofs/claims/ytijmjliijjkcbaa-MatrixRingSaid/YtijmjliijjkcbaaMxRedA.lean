/- The reference's search of a row that has a column. The program's echelon form is the one echelon form with the sums of the rows, and so is that of the rows with a further column. The reference's echelon form: what its loop keeps. Plain data. The reference's rows in memory: a row of the call's own whose cells read as lists. -/
import Derived.Test.YtijmjliijjkcbaaMxRowsA
import Derived.Test.YtijmjliijjkcbaaMxHas
import Derived.Test.YtijmjliijjkcbaaMxSolve
import Derived.Test.YtijmjliijjkcbaaReg
/- The reference's search of a row that has a column. -/
namespace Go.Proofs.Ytijmjliijjkcbaa
set_option linter.unusedVariables false
open Go.RowKit
attribute [local go_sem ↓] Go.wp_at_zero Go.wp_at_succ

def PivR (ll : List (List Int)) (n : Nat) (c z : Int) : Prop :=
  (z = -1 ∧ ∀ j, n ≤ j → j < ll.length → memB (nthL ll j) c = false) ∨ ∃ k : Nat, z = k ∧ n ≤ k ∧ k < ll.length ∧ memB (nthL ll k) c = true

set_option maxRecDepth 100000 in
theorem pivot_calls {S : Nat → Prop} {w : World} {vr : Value} {ll : List (List Int)} (hR : Lists S w vr ll) (n : Nat) (hn : n ≤ ll.length) (c : Int) :
    Calls Try.prog 67 #[vr, .int .i64 n, .int .i64 c] w (Post w fun _ r => ∃ z, r = .int .i64 z ∧ PivR ll n c z) := by
  obtain ⟨aa, acap, rfl, aad, al1, alm⟩ := hR.form
  unfold maxLen at alm
  obtain ⟨i0, hi, hz0, hz1, hz2⟩ := info_parts info_ints
  have HQA := Lib.hid (idx_one Try.underlying22 hi hz1 aad)
  have hr := Below.refl w.heap.size w
  clear hi hz0 hz1 hz2
  go_enter Try.func67, Try.ntmps67
  go_wp2
  go_loopw [7] (fun i wr => ∃ k : Nat, n ≤ k ∧ k ≤ ll.length ∧ i = .int .i64 k ∧ Below w.heap.size w wr ∧ Hid (∀ j, n ≤ j → j < k → memB (nthL ll j) c = false)) (fun i _ => ll.length - (intOf i).toNat)
  case atStart => exact ⟨n, Nat.le_refl _, hn, rfl, hr, Lib.hid (fun j h1 h2 => by omega)⟩
  case round =>
    obtain ⟨k, hnk, hk, rfl, hb, hF⟩ := hrel
    by_cases hlt : k < ll.length
    · have q := HQA.out k hlt
      obtain ⟨u, cu, iu⟩ := hR.at hb hlt
      have HH := Lib.hid (refHas_quiet iu c)
      go_wp2_with fail
      refine (HH.out.mono fun _ _ h => h.post).mono ?_
      rintro _ w3 ⟨_, rfl, hb3, rfl⟩
      have hb3' := ext_trans hb hb3
      cases hm : memB (nthL ll k) c with
      | true =>
        have HP : Hid (PivR ll n c (k : Int)) := Lib.hid (.inr ⟨k, rfl, hnk, hlt, hm⟩)
        clear hm
        go_wp2
        go_ret
        exact .mk hb3' ⟨_, rfl, HP.out⟩
      | false =>
        have HF : Hid (∀ j, n ≤ j → j < k + 1 → memB (nthL ll j) c = false) := Lib.hid (fun j h1 h2 => by
          rcases Nat.lt_or_ge j k with h | h
          · exact hF.out j h1 h
          · obtain rfl : j = k := by omega
            exact hm)
        clear hm
        go_wp2
        go_roundw
        case rel => exact ⟨k + 1, by omega, by omega, by go_num, hb3', HF⟩
        case measure => simp [intOf]; omega
    · have HP : Hid (PivR ll n c (-1)) := Lib.hid (.inl ⟨rfl, fun j h1 h2 => hF.out j h1 (by omega)⟩)
      go_wp2
      go_ret
      exact .mk hb ⟨_, rfl, HP.out⟩
end Go.Proofs.Ytijmjliijjkcbaa
/- The program's echelon form is the one echelon form with the sums of the rows, and so is that of the rows with a further column. -/
namespace Go.Proofs.Ytijmjliijjkcbaa
set_option linter.unusedVariables false

theorem memB_iff {l : List Int} {z : Int} : memB l z = true ↔ z ∈ l := by simp [memB]
theorem ord_extB {l m : List Int} (hl : Ord l) (hm : Ord m) (h : ∀ x, memB l x = memB m x) : l = m := ord_ext hl hm fun x => by rw [← memB_iff, ← memB_iff, h x]
theorem Sp.sum {R : List (List Int)} (hR : Rows R) : ∀ (y acc : List Int), (∀ x ∈ y, 0 ≤ x ∧ x < R.length) → Sp R acc → Sp R (y.foldl (fun acc k => xorL acc (nthL R k.toNat)) acc)
  | [], acc, _, h => h
  | x :: y, acc, hx, h => Sp.sum hR y _ (fun z hz => hx z (by simp [hz])) (h.xor hR (Sp.mem (nthL_mem (by have := hx x (by simp); omega))))
theorem Sp.sumRows {R : List (List Int)} (hR : Rows R) {y : List Int} (h : ∀ x ∈ y, 0 ≤ x ∧ x < R.length) : Sp R (sumRows R y) := Sp.sum hR y [] h .nil

theorem outTo_inc {c : Int} {N : Nat} {M : Int → Option Ln} (g : GM c N M) : ∀ n, (outTo M n).Pairwise fun a b => lead a.1 < lead b.1 := by
  intro n
  induction n with
  | zero => exact List.Pairwise.nil
  | succ n ih =>
    rw [outTo_succ, List.pairwise_append]
    refine ⟨ih, ?_, fun a ha b hb => ?_⟩
    · cases M (n : Nat) <;> simp
    · obtain ⟨z, hz, hm⟩ := mem_outTo.1 ha
      rw [g.ld _ _ hm]
      cases hn : M (n : Nat) with
      | none => rw [hn] at hb; simp at hb
      | some l =>
        rw [hn] at hb
        obtain rfl : b = l := by simpa using hb
        rw [g.ld _ _ hn]
        omega

theorem MOk.inv {m : Mx} (h : MOk m) : EInv m.rows m.cols.toNat m.rows.length (echTo m.rows m.rows.length) :=
  EInv.all (R := m.rows) (n := m.cols.toNat) (by rw [show ((m.cols.toNat : Nat) : Int) = m.cols from by have := h.c0; omega]; exact h.rok) m.rows.length (Nat.le_refl _)
theorem MOk.cast {m : Mx} (h : MOk m) : ((m.cols.toNat : Nat) : Int) = m.cols := by have := h.c0; omega

/-- The rows with a further column, in which b is. -/
def wideR (m : Mx) (b : List Int) : List (List Int) := (List.range m.rows.length).map fun (j : Nat) => tagL m.cols b (nthL m.rows j, [(j : Int)])
def tagE (m : Mx) (b : List Int) : List (List Int) := (linesE m).map (tagL m.cols b)
theorem wideR_len (m : Mx) (b : List Int) : (wideR m b).length = m.rows.length := by simp [wideR]
theorem wideR_nth {m : Mx} {b : List Int} {j : Nat} (hj : j < m.rows.length) : nthL (wideR m b) j = tagL m.cols b (nthL m.rows j, [(j : Int)]) := by simp [nthL, wideR, hj]
theorem MOk.gl1 {m : Mx} (h : MOk m) {j : Nat} (hj : j < m.rows.length) : GL m.cols m.rows.length (nthL m.rows j, [(j : Int)]) :=
  ⟨h.rok.nth_ord j, h.rok.nth_rng j, List.pairwise_singleton _ _, fun x hx => by rw [List.mem_singleton.1 hx]; omega⟩
theorem MOk.wide_ord {m : Mx} (h : MOk m) (b : List Int) : Rows (wideR m b) := by
  intro r hr
  obtain ⟨j, hj, rfl⟩ := List.mem_map.1 hr
  exact tagL_ord (h.gl1 (List.mem_range.1 hj))

theorem MOk.lines {m : Mx} (h : MOk m) {l : Ln} (hl : l ∈ linesE m) : ∃ z : Nat, (echTo m.rows m.rows.length).1 (z : Nat) = some l ∧ lead l.1 = z ∧ l.1 ≠ [] ∧ GL m.cols m.rows.length l ∧ sumRows m.rows l.2 = l.1 := by
  obtain ⟨z, hz, hm⟩ := mem_outTo.1 hl
  have hi := h.inv
  have hg := hi.gm.gl _ _ hm
  rw [h.cast] at hg
  exact ⟨z, hm, hi.gm.ld _ _ hm, hi.gm.ne _ _ hm, hg, hi.sum _ _ hm⟩
theorem lead_tag {c : Int} {b : List Int} {l : Ln} (h : l.1 ≠ []) : lead (tagL c b l) = lead l.1 := by
  obtain ⟨x, y⟩ := l
  cases x with
  | nil => exact absurd rfl h
  | cons z x => simp [tagL, lead]

theorem tag_rref {m : Mx} (h : MOk m) (b : List Int) : Rref (tagE m b) := by
  have hi := h.inv
  refine ⟨fun r hr => ?_, fun r hr => ?_, ?_, fun r hr s hs hrs => ?_⟩
  · obtain ⟨l, hl, rfl⟩ := List.mem_map.1 hr
    obtain ⟨z, _, _, _, hg, _⟩ := h.lines hl
    exact tagL_ord hg
  · obtain ⟨l, hl, rfl⟩ := List.mem_map.1 hr
    obtain ⟨z, _, _, hne, _, _⟩ := h.lines hl
    intro e
    unfold tagL at e
    exact hne (List.append_eq_nil_iff.1 e).1
  · unfold tagE
    rw [List.pairwise_map]
    refine List.Pairwise.imp_of_mem ?_ (outTo_inc hi.gm m.cols.toNat)
    intro a c ha hc hlt
    obtain ⟨_, _, _, hna, _, _⟩ := h.lines ha
    obtain ⟨_, _, _, hnc, _, _⟩ := h.lines hc
    rw [lead_tag hna, lead_tag hnc]
    exact hlt
  · obtain ⟨l, hl, rfl⟩ := List.mem_map.1 hr
    obtain ⟨k, hk, rfl⟩ := List.mem_map.1 hs
    obtain ⟨z, hz, hlz, hne, hg, _⟩ := h.lines hl
    obtain ⟨z', hz', hlz', hne', hg', _⟩ := h.lines hk
    rw [lead_tag hne] at hrs
    rcases (mem_tagL hg' (lead l.1)).1 hrs with h1 | ⟨h1, _⟩
    · rw [hlz] at h1
      have := hi.own _ _ _ hz' h1 (by rw [hz]; rfl)
      have hzz : z = z' := by omega
      subst hzz
      rw [hz] at hz'
      rw [Option.some.inj hz']
    · have := hg.r1 _ (lead_mem hne)
      omega

theorem tag_sp1 {m : Mx} (h : MOk m) {b : List Int} (hd : ∀ d ∈ depsE m, oddV d b = false) : ∀ r ∈ wideR m b, Sp (tagE m b) r := by
  intro r hr
  obtain ⟨j, hj, rfl⟩ := List.mem_map.1 hr
  have hs := h.inv.span b j (List.mem_range.1 hj)
  rw [h.cast] at hs
  refine hs.trans (tag_rref h b).ord fun v hv => ?_
  unfold gensE at hv
  rw [List.mem_append] at hv
  rcases hv with hv | hv
  · rw [h.cast] at hv
    exact Sp.mem hv
  · obtain ⟨d, hdm, rfl⟩ := List.mem_map.1 hv
    have := hd d hdm
    unfold tagL
    rw [if_neg (by rw [this]; simp)]
    exact .nil

theorem sum_wide {m : Mx} (h : MOk m) (b : List Int) {y : List Int} (hy : ∀ x ∈ y, 0 ≤ x ∧ x < m.rows.length) (ho : Ord y) : sumRows (wideR m b) y = tagL m.cols b (sumRows m.rows y, y) := by
  have hg : GL m.cols m.rows.length (sumRows m.rows y, y) := ⟨sumRows_ord h.ord y, sumRows_rng h.rok y, ho, hy⟩
  refine ord_extB (sumRows_ord (h.wide_ord b) y) (tagL_ord hg) fun z => ?_
  rw [memB_sumRows (h.wide_ord b), memB_tagL hg]
  have key : ∀ k ∈ y, memB (nthL (wideR m b) k.toNat) z = if z = m.cols then memB b k else memB (nthL m.rows k.toNat) z := by
    intro k hk
    have := hy k hk
    rw [wideR_nth (by omega), memB_tagL (h.gl1 (by omega))]
    have e : ((k.toNat : Nat) : Int) = k := by omega
    rw [e]
    have e2 : oddV [k] b = memB b k := by unfold oddV; rw [par_cons, par_nil, Bool.xor_false]
    dsimp only
    rw [e2]
  rw [par_congr key]
  by_cases hz : z = m.cols
  · simp only [hz, if_true]
    rfl
  · simp only [hz, if_false]
    rw [memB_sumRows h.ord]

theorem tag_sp2 {m : Mx} (h : MOk m) (b : List Int) : ∀ r ∈ tagE m b, Sp (wideR m b) r := by
  intro r hr
  obtain ⟨l, hl, rfl⟩ := List.mem_map.1 hr
  obtain ⟨_, _, _, _, hg, hs⟩ := h.lines hl
  have := sum_wide h b hg.r2 hg.o2
  rw [hs] at this
  rw [show tagL m.cols b l = tagL m.cols b (l.1, l.2) from rfl, ← this]
  exact Sp.sumRows (h.wide_ord b) (by rw [wideR_len]; exact hg.r2)

theorem wideR_nil {m : Mx} : wideR m [] = m.rows := by
  refine List.ext_getElem (by simp [wideR]) fun i h1 h2 => ?_
  simp [wideR, tagL_nil, nthL, h2]
theorem tagE_nil {m : Mx} : tagE m [] = rowsE m := by
  unfold tagE rowsE
  exact List.map_congr_left fun l _ => tagL_nil
theorem rowsE_rref {m : Mx} (h : MOk m) : Rref (rowsE m) := by rw [← tagE_nil]; exact tag_rref h []
theorem rowsE_sp1 {m : Mx} (h : MOk m) : ∀ r ∈ m.rows, Sp (rowsE m) r := by
  have := tag_sp1 h (b := []) fun d _ => oddV_nil_right d
  rwa [wideR_nil, tagE_nil] at this
theorem rowsE_sp2 {m : Mx} (h : MOk m) : ∀ r ∈ rowsE m, Sp m.rows r := by
  have := tag_sp2 h []
  rwa [wideR_nil, tagE_nil] at this
/-- An echelon form with the sums of the rows is the program's. -/
theorem rowsE_unique {m : Mx} (h : MOk m) {E : List (List Int)} (hE : Rref E) (h1 : ∀ r ∈ m.rows, Sp E r) (h2 : ∀ r ∈ E, Sp m.rows r) : E = rowsE m :=
  hE.unique (rowsE_rref h) (fun r hr => (h2 r hr).trans (rowsE_rref h).ord (rowsE_sp1 h)) (fun r hr => (rowsE_sp2 h r hr).trans hE.ord h1)
theorem tagE_unique {m : Mx} (h : MOk m) {b : List Int} (hd : ∀ d ∈ depsE m, oddV d b = false) {E : List (List Int)} (hE : Rref E) (h1 : ∀ r ∈ wideR m b, Sp E r) (h2 : ∀ r ∈ E, Sp (wideR m b) r) : E = tagE m b :=
  hE.unique (tag_rref h b) (fun r hr => (h2 r hr).trans (tag_rref h b).ord (tag_sp1 h hd)) (fun r hr => (tag_sp2 h b r hr).trans hE.ord h1)

/-- The solution of the reference: the leading columns of the rows that have the further column. -/
theorem solX_tag {m : Mx} (h : MOk m) (b : List Int) : ((tagE m b).filter fun r => memB r m.cols).map lead = solX m b := by
  unfold tagE solX
  have key : ∀ L : List Ln, (∀ l ∈ L, l ∈ linesE m) → ((L.map (tagL m.cols b)).filter fun r => memB r m.cols).map lead = (L.filter fun l => oddV l.2 b).map fun l => lead l.1 := by
    intro L
    induction L with
    | nil => intro _; rfl
    | cons l L ih =>
      intro hL
      obtain ⟨_, _, _, hne, hg, _⟩ := h.lines (hL l (by simp))
      have ih := ih fun x hx => hL x (by simp [hx])
      have hm : memB (tagL m.cols b l) m.cols = oddV l.2 b := by rw [memB_tagL hg, if_pos rfl]
      rw [List.map_cons, List.filter_cons, List.filter_cons, hm]
      split
      · rw [List.map_cons, List.map_cons, lead_tag hne, ih]
      · exact ih
  exact key _ fun l hl => hl
/-- Without an odd dependency no row leads in the further column; with one some row does. -/
theorem wide_even {m : Mx} (h : MOk m) {b : List Int} (r : List Int) (hr : r ∈ tagE m b) : lead r ≠ m.cols := by
  obtain ⟨l, hl, rfl⟩ := List.mem_map.1 hr
  obtain ⟨_, _, _, hne, hg, _⟩ := h.lines hl
  rw [lead_tag hne]
  have := hg.r1 _ (lead_mem hne)
  omega
theorem wide_odd {m : Mx} (h : MOk m) {b : List Int} {d : List Int} (hd : d ∈ depsE m) (ho : oddV d b = true) {E : List (List Int)} (hE : Rref E) (h1 : ∀ r ∈ wideR m b, Sp E r) : ∃ r ∈ E, lead r = m.cols := by
  obtain ⟨hr, hne, hs⟩ := h.inv.dep d hd
  have h2 : Sp (wideR m b) [m.cols] := by
    have := sum_wide h b hr.2 hr.1
    rw [hs] at this
    have e : tagL m.cols b ([], d) = [m.cols] := by unfold tagL; rw [if_pos ho]; rfl
    rw [e] at this
    rw [← this]
    exact Sp.sumRows (h.wide_ord b) (by rw [wideR_len]; exact hr.2)
  exact hE.first (h2.trans hE.ord h1) (by simp)
end Go.Proofs.Ytijmjliijjkcbaa
/- The reference's echelon form: what its loop keeps. Plain data. -/
namespace Go.Proofs.Ytijmjliijjkcbaa
set_option linter.unusedVariables false

def rowsF (N : Nat) (F : Nat → List Int) : List (List Int) := (List.range N).map F
theorem mem_rowsF {N : Nat} {F : Nat → List Int} {r : List Int} : r ∈ rowsF N F ↔ ∃ j, j < N ∧ F j = r := by simp [rowsF]
def swapF (F : Nat → List Int) (n k : Nat) : Nat → List Int := fun j => if j = n then F k else if j = k then F n else F j
def elimF (G : Nat → List Int) (n : Nat) (c : Int) (i : Nat) : Nat → List Int := fun j => if j < i ∧ j ≠ n ∧ memB (G j) c = true then xorL (G j) (G n) else G j
theorem lead_eq {l : List Int} {z : Int} (ho : Ord l) (hz : z ∈ l) (h : ∀ x ∈ l, z ≤ x) : lead l = z := by
  have h1 := lead_le ho hz
  have h2 := h _ (lead_mem (List.ne_nil_of_mem hz))
  omega

/-- What holds behind c columns, n of them leading. -/
structure RInv (m : Mx) (c n : Nat) (F : Nat → List Int) : Prop where
  ord : ∀ j, j < m.rows.length → Ord (F j)
  rng : ∀ j, j < m.rows.length → ∀ x ∈ F j, 0 ≤ x ∧ x < m.cols
  sp1 : ∀ r ∈ m.rows, Sp (rowsF m.rows.length F) r
  sp2 : ∀ j, j < m.rows.length → Sp m.rows (F j)
  le : n ≤ m.rows.length
  low : ∀ j, n ≤ j → j < m.rows.length → ∀ x ∈ F j, (c : Int) ≤ x
  ne : ∀ i, i < n → F i ≠ []
  lt : ∀ i, i < n → lead (F i) < c
  own : ∀ i, i < n → ∀ j, j < m.rows.length → lead (F i) ∈ F j → j = i
  inc : ∀ i j, i < j → j < n → lead (F i) < lead (F j)

theorem RInv.rows {m : Mx} {c n : Nat} {F : Nat → List Int} (h : RInv m c n F) : Rows (rowsF m.rows.length F) := by
  intro r hr
  obtain ⟨j, hj, rfl⟩ := mem_rowsF.1 hr
  exact h.ord j hj
theorem RInv.start {m : Mx} (h : MOk m) : RInv m 0 0 (nthL m.rows) := by
  refine ⟨fun j hj => h.rok.nth_ord j, fun j hj => h.rok.nth_rng j, fun r hr => ?_, fun j hj => Sp.mem (nthL_mem hj), Nat.zero_le _, fun j _ hj x hx => ?_, fun i hi => by omega, fun i hi => by omega, fun i hi => by omega, fun i j _ hj => by omega⟩
  · obtain ⟨j, hj, rfl⟩ := List.getElem_of_mem hr
    exact Sp.mem (mem_rowsF.2 ⟨j, hj, nthL_eq hj⟩)
  · have := h.rok.nth_rng j x hx; omega
theorem RInv.skip {m : Mx} {c n : Nat} {F : Nat → List Int} (h : RInv m c n F) (hc : ∀ j, n ≤ j → j < m.rows.length → memB (F j) (c : Int) = false) : RInv m (c + 1) n F := by
  refine ⟨h.ord, h.rng, h.sp1, h.sp2, h.le, fun j h1 h2 x hx => ?_, h.ne, fun i hi => by have := h.lt i hi; omega, h.own, h.inc⟩
  have h3 := h.low j h1 h2 x hx
  have h4 : x ≠ (c : Int) := fun e => by
    have := hc j h1 h2
    rw [e] at hx
    rw [memB_iff.2 hx] at this
    cases this
  omega

theorem swapF_n {F : Nat → List Int} {n k : Nat} : swapF F n k n = F k := by simp [swapF]
theorem swapF_lt {F : Nat → List Int} {n k j : Nat} (hk : n ≤ k) (hj : j < n) : swapF F n k j = F j := by
  unfold swapF; rw [if_neg (by omega), if_neg (by omega)]
theorem swapF_ge {F : Nat → List Int} {n k N j : Nat} (hk : n ≤ k) (hkN : k < N) (hj : n ≤ j) (hjN : j < N) : ∃ i, n ≤ i ∧ i < N ∧ swapF F n k j = F i := by
  unfold swapF
  by_cases h1 : j = n
  · exact ⟨k, hk, hkN, by rw [if_pos h1]⟩
  · by_cases h2 : j = k
    · exact ⟨n, Nat.le_refl _, by omega, by rw [if_neg h1, if_pos h2]⟩
    · exact ⟨j, hj, hjN, by rw [if_neg h1, if_neg h2]⟩
theorem swapF_inv {F : Nat → List Int} {n k N j : Nat} (hk : n ≤ k) (hkN : k < N) (hjN : j < N) : ∃ i, i < N ∧ swapF F n k i = F j := by
  unfold swapF
  by_cases h1 : j = k
  · exact ⟨n, by omega, by rw [if_pos rfl, h1]⟩
  · by_cases h2 : j = n
    · refine ⟨k, hkN, ?_⟩
      by_cases h3 : k = n
      · omega
      · rw [if_neg h3, if_pos rfl, h2]
    · exact ⟨j, hjN, by rw [if_neg h2, if_neg h1]⟩

theorem RInv.swap_any {m : Mx} {c n k : Nat} {F : Nat → List Int} (h : RInv m c n F) (hk : n ≤ k) (hkN : k < m.rows.length) {j : Nat} (hj : j < m.rows.length) : ∃ i, i < m.rows.length ∧ swapF F n k j = F i := by
  rcases Nat.lt_or_ge j n with h1 | h1
  · exact ⟨j, hj, swapF_lt hk h1⟩
  · obtain ⟨i, _, h2, h3⟩ := swapF_ge (F := F) hk hkN h1 hj
    exact ⟨i, h2, h3⟩

theorem RInv.step {m : Mx} {c n k : Nat} {F : Nat → List Int} (hm : MOk m) (h : RInv m c n F) (hk : n ≤ k) (hkN : k < m.rows.length) (hc : memB (F k) (c : Int) = true) :
    RInv m (c + 1) (n + 1) (elimF (swapF F n k) n (c : Int) m.rows.length) := by
  obtain ⟨G, hG⟩ : ∃ G, G = swapF F n k := ⟨_, rfl⟩
  rw [← hG]
  have gany : ∀ j, j < m.rows.length → ∃ i, i < m.rows.length ∧ G j = F i := fun j hj => by rw [hG]; exact h.swap_any hk hkN hj
  have gn : G n = F k := by rw [hG]; exact swapF_n
  have glt : ∀ j, j < n → G j = F j := fun j hj => by rw [hG]; exact swapF_lt hk hj
  have gord : ∀ j, j < m.rows.length → Ord (G j) := fun j hj => by obtain ⟨i, hi, e⟩ := gany j hj; rw [e]; exact h.ord i hi
  have grng : ∀ j, j < m.rows.length → ∀ x ∈ G j, 0 ≤ x ∧ x < m.cols := fun j hj => by obtain ⟨i, hi, e⟩ := gany j hj; rw [e]; exact h.rng i hi
  have gsp : ∀ j, j < m.rows.length → Sp m.rows (G j) := fun j hj => by obtain ⟨i, hi, e⟩ := gany j hj; rw [e]; exact h.sp2 i hi
  have glow : ∀ j, n ≤ j → j < m.rows.length → ∀ x ∈ G j, (c : Int) ≤ x := fun j h1 h2 => by
    obtain ⟨i, hi, hi2, e⟩ := swapF_ge (F := F) hk hkN h1 h2
    rw [hG, e]; exact h.low i hi hi2
  have hnN : n < m.rows.length := by omega
  have hno := gord n hnN
  obtain ⟨H, hH⟩ : ∃ H, H = elimF G n (c : Int) m.rows.length := ⟨_, rfl⟩
  rw [← hH]
  have hn : H n = G n := by rw [hH]; unfold elimF; rw [if_neg (by omega)]
  have hyes : ∀ j, j < m.rows.length → j ≠ n → memB (G j) (c : Int) = true → H j = xorL (G j) (G n) := fun j h1 h2 h3 => by rw [hH]; unfold elimF; rw [if_pos ⟨h1, h2, h3⟩]
  have hno2 : ∀ j, (j = n ∨ memB (G j) (c : Int) = false) → H j = G j := fun j h1 => by
    rw [hH]; unfold elimF; rw [if_neg]
    rintro ⟨_, h2, h3⟩
    rcases h1 with h1 | h1
    · exact h2 h1
    · rw [h1] at h3; cases h3
  have hcase : ∀ j, j < m.rows.length → (H j = G j ∧ (j = n ∨ memB (G j) (c : Int) = false)) ∨ (H j = xorL (G j) (G n) ∧ j ≠ n ∧ memB (G j) (c : Int) = true) := fun j hj => by
    by_cases h1 : j = n
    · exact .inl ⟨hno2 j (.inl h1), .inl h1⟩
    · cases h2 : memB (G j) (c : Int) with
      | false => exact .inl ⟨hno2 j (.inr h2), .inr rfl⟩
      | true => exact .inr ⟨hyes j hj h1 h2, h1, rfl⟩
  have hcn : memB (G n) (c : Int) = true := by rw [gn]; exact hc
  have hord : ∀ j, j < m.rows.length → Ord (H j) := fun j hj => by
    rcases hcase j hj with ⟨e, _⟩ | ⟨e, _⟩
    · rw [e]; exact gord j hj
    · rw [e]; exact xorL_ord (gord j hj) hno
  have hsub : ∀ j, j < m.rows.length → ∀ x ∈ H j, x ∈ G j ∨ x ∈ G n := fun j hj x hx => by
    rcases hcase j hj with ⟨e, _⟩ | ⟨e, _⟩
    · rw [e] at hx; exact .inl hx
    · rw [e] at hx; exact xorL_sub x hx
  have hnoc : ∀ j, j < m.rows.length → j ≠ n → memB (H j) (c : Int) = false := fun j hj hjn => by
    rcases hcase j hj with ⟨e, h1 | h1⟩ | ⟨e, _, h1⟩
    · exact absurd h1 hjn
    · rw [e]; exact h1
    · rw [e, memB_xorL (gord j hj) hno, h1, hcn]; rfl
  have hleadn : lead (H n) = c := by
    rw [hn]
    exact lead_eq hno (memB_iff.1 hcn) (glow n (Nat.le_refl _) hnN)
  have hnotk : ∀ i, i < n → memB (G n) (lead (F i)) = false := fun i hi => by
    cases e : memB (G n) (lead (F i)) with
    | false => rfl
    | true =>
      rw [gn] at e
      have := h.own i hi k hkN (memB_iff.1 e)
      omega
  have hmemi : ∀ i, i < n → ∀ j, j < m.rows.length → memB (H j) (lead (F i)) = memB (G j) (lead (F i)) := fun i hi j hj => by
    rcases hcase j hj with ⟨e, _⟩ | ⟨e, _⟩
    · rw [e]
    · rw [e, memB_xorL (gord j hj) hno, hnotk i hi, Bool.xor_false]
  have hmii : ∀ i, i < n → lead (F i) ∈ H i := fun i hi => by
    rw [← memB_iff, hmemi i hi i (by omega), glt i hi, memB_iff]
    exact lead_mem (h.ne i hi)
  have hlead : ∀ i, i < n → lead (H i) = lead (F i) := fun i hi => by
    refine lead_eq (hord i (by omega)) (hmii i hi) fun x hx => ?_
    rcases hsub i (by omega) x hx with h1 | h1
    · rw [glt i hi] at h1
      exact lead_le (h.ord i (by omega)) h1
    · have h2 := glow n (Nat.le_refl _) hnN x h1
      have h3 := h.lt i hi
      omega
  refine ⟨hord, fun j hj x hx => ?_, fun r hr => ?_, fun j hj => ?_, by omega, fun j h1 hj x hx => ?_, fun i hi => ?_, fun i hi => ?_, fun i hi j hj hx => ?_, fun i j hij hj => ?_⟩
  · rcases hsub j hj x hx with h1 | h1
    · exact grng j hj x h1
    · exact grng n hnN x h1
  · have hrH : Rows (rowsF m.rows.length H) := fun r hr => by
      obtain ⟨j, hj, rfl⟩ := mem_rowsF.1 hr
      exact hord j hj
    refine (h.sp1 r hr).trans hrH fun v hv => ?_
    obtain ⟨j, hj, rfl⟩ := mem_rowsF.1 hv
    obtain ⟨i, hi, e⟩ := swapF_inv (F := F) hk hkN hj
    rw [← hG] at e
    rw [← e]
    rcases hcase i hi with ⟨e1, _⟩ | ⟨e1, _⟩
    · rw [← e1]; exact Sp.mem (mem_rowsF.2 ⟨i, hi, rfl⟩)
    · have e2 : G i = xorL (H i) (H n) := by
        rw [e1, hn, xorL_assoc (gord i hi) hno hno, xorL_self hno, xorL_nil_right]
      rw [e2]
      exact (Sp.mem (mem_rowsF.2 ⟨i, hi, rfl⟩)).xor hrH (Sp.mem (mem_rowsF.2 ⟨n, hnN, rfl⟩))
  · rcases hcase j hj with ⟨e, _⟩ | ⟨e, _⟩
    · rw [e]; exact gsp j hj
    · rw [e]
      exact (gsp j hj).xor hm.ord (gsp n hnN)
  · have h2 := hsub j hj x hx
    have h3 : (c : Int) ≤ x := by
      rcases h2 with h2 | h2
      · exact glow j (by omega) hj x h2
      · exact glow n (Nat.le_refl _) hnN x h2
    have h4 : x ≠ (c : Int) := fun e => by
      have := hnoc j hj (by omega)
      rw [e] at hx
      rw [memB_iff.2 hx] at this
      cases this
    omega
  · rcases Nat.lt_or_ge i n with h1 | h1
    · exact List.ne_nil_of_mem (hmii i h1)
    · obtain rfl : i = n := by omega
      rw [hn]
      exact List.ne_nil_of_mem (memB_iff.1 hcn)
  · rcases Nat.lt_or_ge i n with h1 | h1
    · rw [hlead i h1]; have := h.lt i h1; omega
    · obtain rfl : i = n := by omega
      rw [hleadn]; omega
  · rcases Nat.lt_or_ge i n with h1 | h1
    · rw [hlead i h1, ← memB_iff, hmemi i h1 j hj, memB_iff] at hx
      rcases Nat.lt_or_ge j n with h2 | h2
      · rw [glt j h2] at hx
        exact h.own i h1 j hj hx
      · have h3 := glow j h2 hj _ hx
        have h4 := h.lt i h1
        omega
    · obtain rfl : i = n := by omega
      rw [hleadn] at hx
      by_cases hji : j = i
      · exact hji
      · have := hnoc j hj hji
        rw [memB_iff.2 hx] at this
        cases this
  · rcases Nat.lt_or_ge j n with h1 | h1
    · rw [hlead i (by omega), hlead j h1]
      exact h.inc i j hij h1
    · obtain rfl : j = n := by omega
      rw [hlead i hij, hleadn]
      exact h.lt i hij

theorem RInv.done {m : Mx} {c n : Nat} {F : Nat → List Int} (hm : MOk m) (h : RInv m c n F) (hc : m.cols ≤ c) : (List.range n).map F = rowsE m := by
  have hle := h.le
  have hz : ∀ j, n ≤ j → j < m.rows.length → F j = [] := fun j h1 h2 => by
    cases e : F j with
    | nil => rfl
    | cons x l =>
      have hx : x ∈ F j := by rw [e]; simp
      have := h.low j h1 h2 x hx
      have := h.rng j h2 x hx
      omega
  have hE : Rref ((List.range n).map F) := by
    refine ⟨fun r hr => ?_, fun r hr => ?_, ?_, fun r hr s hs hx => ?_⟩
    · obtain ⟨j, hj, rfl⟩ := List.mem_map.1 hr
      exact h.ord j (by have := List.mem_range.1 hj; omega)
    · obtain ⟨j, hj, rfl⟩ := List.mem_map.1 hr
      exact h.ne j (List.mem_range.1 hj)
    · rw [List.pairwise_map]
      refine List.Pairwise.imp_of_mem ?_ (List.pairwise_lt_range (n := n))
      intro a b _ hb hab
      exact h.inc a b hab (List.mem_range.1 hb)
    · obtain ⟨i, hi, rfl⟩ := List.mem_map.1 hr
      obtain ⟨j, hj, rfl⟩ := List.mem_map.1 hs
      rw [h.own i (List.mem_range.1 hi) j (by have := List.mem_range.1 hj; omega) hx]
  refine rowsE_unique hm hE (fun r hr => (h.sp1 r hr).trans hE.ord fun v hv => ?_) (fun r hr => ?_)
  · obtain ⟨j, hj, rfl⟩ := mem_rowsF.1 hv
    rcases Nat.lt_or_ge j n with h1 | h1
    · exact Sp.mem (List.mem_map.2 ⟨j, List.mem_range.2 h1, rfl⟩)
    · rw [hz j h1 hj]; exact .nil
  · obtain ⟨j, hj, rfl⟩ := List.mem_map.1 hr
    exact h.sp2 j (by have := List.mem_range.1 hj; omega)
end Go.Proofs.Ytijmjliijjkcbaa
/- The reference's rows in memory: a row of the call's own whose cells read as lists. -/
namespace Go.Proofs.Ytijmjliijjkcbaa
set_option linter.unusedVariables false
open Go.RowKit

theorem Lists.vals {S : Nat → Prop} {w : World} {a : Option Addr} {cap : Nat} {ll : List (List Int)} (h : Lists S w (.slice a ll.length cap) ll) :
    ∃ vs : List Value, vs.length = ll.length ∧ (∀ j, j < ll.length → w.cell? (adr a j) = some (vs.getD j undef)) ∧ RefsV S w vs ll ∧ (∀ u ∈ vs, u.oneCell' = true) := by
  obtain ⟨a', cap', e, _, _, _, hc⟩ := h
  simp only [Value.slice.injEq, true_and] at e
  obtain ⟨rfl, rfl⟩ := e
  obtain ⟨vs, hvs⟩ : ∃ vs : List Value, vs = (List.range ll.length).map fun j => (w.cell? (adr a j)).getD undef := ⟨_, rfl⟩
  have hat : ∀ j, j < ll.length → vs.getD j undef = (w.cell? (adr a j)).getD undef := fun j hj => by rw [hvs]; simp [hj]
  refine ⟨vs, by rw [hvs]; simp, fun j hj => ?_, ⟨by rw [hvs]; simp, fun j hj => ?_⟩, fun u hu => ?_⟩
  · obtain ⟨u, hu, _⟩ := hc j hj
    rw [hat j hj, hu]; rfl
  · obtain ⟨u, hu, hi⟩ := hc j hj
    have : nthV vs j = u := by unfold nthV; rw [hat j hj, hu]; rfl
    rw [this]; exact hi
  · rw [hvs] at hu
    obtain ⟨j, hj, rfl⟩ := List.mem_map.1 hu
    obtain ⟨u, hu, hi⟩ := hc j (List.mem_range.1 hj)
    obtain ⟨a1, c1, rfl, _⟩ := hi.form
    rw [hu]; rfl

theorem rowsF_len (N : Nat) (F : Nat → List Int) : (rowsF N F).length = N := by simp [rowsF]
theorem rowsF_nth {N : Nat} {F : Nat → List Int} {j : Nat} (h : j < N) : nthL (rowsF N F) j = F j := by simp [nthL, rowsF, h]
theorem rowsF_congr {N : Nat} {F G : Nat → List Int} (h : ∀ j, j < N → F j = G j) : rowsF N F = rowsF N G := List.map_congr_left fun j hj => h j (List.mem_range.1 hj)

structure RedV (T : Nat → Prop) (base : Nat) (w : World) (v : Value) (N : Nat) (vs : List Value) (F : Nat → List Int) : Prop where
  own : w.ownsRow base 38 1 v N vs
  ref : RefsV (fun b => v.ownBlock ≠ some b ∧ T b) w vs (rowsF N F)
theorem RedV.len {T : Nat → Prop} {base : Nat} {w : World} {v : Value} {N : Nat} {vs : List Value} {F : Nat → List Int} (h : RedV T base w v N vs F) : vs.length = N := by rw [h.ref.1, rowsF_len]
theorem RedV.ext {T : Nat → Prop} {base : Nat} {w w' : World} {v : Value} {N : Nat} {vs : List Value} {F : Nat → List Int} (h : RedV T base w v N vs F) (hb : Below w.heap.size w w') : RedV T base w' v N vs F :=
  ⟨owns_ext h.own hb, h.ref.agree (.of_ext hb)⟩
theorem RedV.congr {T : Nat → Prop} {base : Nat} {w : World} {v : Value} {N : Nat} {vs : List Value} {F G : Nat → List Int} (h : RedV T base w v N vs F) (hg : ∀ j, j < N → F j = G j) : RedV T base w v N vs G :=
  ⟨h.own, by rw [← rowsF_congr hg]; exact h.ref⟩
theorem RedV.lists {T : Nat → Prop} {base : Nat} {w : World} {v : Value} {N : Nat} {vs : List Value} {F : Nat → List Int} (h : RedV T base w v N vs F) : Lists (fun _ => True) w v (rowsF N F) :=
  Lists.of_own (by rw [rowsF_len]; exact h.own) ⟨h.ref.1, fun j hj => (h.ref.2 j hj).mono fun _ _ => trivial⟩ fun _ _ => trivial
theorem RedV.lists2 {T : Nat → Prop} {base : Nat} {w : World} {v : Value} {N : Nat} {vs : List Value} {F : Nat → List Int} (h : RedV T base w v N vs F) (hT : ∀ b, base ≤ b → T b) : Lists T w v (rowsF N F) :=
  Lists.of_own (by rw [rowsF_len]; exact h.own) ⟨h.ref.1, fun j hj => (h.ref.2 j hj).mono fun _ hb => hb.2⟩ hT
theorem RedV.at {T : Nat → Prop} {base : Nat} {w : World} {g cp : Nat} {N : Nat} {vs : List Value} {F : Nat → List Int} (h : RedV T base w (.slice (some ⟨g, 0, none⟩) N cp) N vs F) {j : Nat} (hj : j < N) :
    w.cell? ⟨g, j, none⟩ = some (nthV vs j) ∧ w.frozen? ⟨g, j, none⟩ = false ∧ Ints (fun b => b ≠ g ∧ T b) w (nthV vs j) (F j) := by
  refine ⟨?_, h.own.frozenAt j, ?_⟩
  · rw [h.own.cellAt j (by omega), nthV_get (by rw [h.len]; exact hj)]
  · have := h.ref.2 j (by rw [rowsF_len]; exact hj)
    rw [rowsF_nth hj] at this
    exact this.mono fun b hb => ⟨fun e => hb.1 (by subst e; rfl), hb.2⟩
theorem RedV.store {T : Nat → Prop} {base : Nat} {w : World} {g cp : Nat} {N : Nat} {vs : List Value} {F : Nat → List Int} (h : RedV T base w (.slice (some ⟨g, 0, none⟩) N cp) N vs F) {j : Nat} (hj : j < N) {u : Value} {l : List Int} (hu : Ints (fun b => b ≠ g ∧ T b) w u l) :
    RedV T base (w.setCell ⟨g, j, none⟩ u) (.slice (some ⟨g, 0, none⟩) N cp) N (vs.set j u) (fun i => if i = j then l else F i) := by
  have hs := h.own.stored j u
  have ha : Agree (fun b => b ≠ g ∧ T b) w (w.setCell ⟨g, j, none⟩ u) := .of_grown hs.2 fun b hb e => hb.1 (by cases e; rfl)
  have hlen := h.len
  refine ⟨hs.1, by rw [rowsF_len]; simp [hlen], fun i hi => ?_⟩
  rw [rowsF_len] at hi
  rw [rowsF_nth hi]
  have go : ∀ v' l', Ints (fun b => b ≠ g ∧ T b) w v' l' → Ints (fun b => (Value.slice (some ⟨g, 0, none⟩) N cp).ownBlock ≠ some b ∧ T b) (w.setCell ⟨g, j, none⟩ u) v' l' := fun v' l' h' =>
    (h'.agree ha).mono fun b hb => ⟨fun e => hb.1 (by simp [Value.ownBlock] at e; exact e.symm), hb.2⟩
  by_cases hij : i = j
  · subst hij
    rw [if_pos rfl, show nthV (vs.set i u) i = u from by simp [nthV, hlen, hi]]
    exact go _ _ hu
  · rw [if_neg hij, show nthV (vs.set j u) i = nthV vs i from by simp [nthV, List.getElem?_set_ne (fun e : j = i => hij e.symm)]]
    exact go _ _ (h.at hi).2.2
end Go.Proofs.Ytijmjliijjkcbaa
