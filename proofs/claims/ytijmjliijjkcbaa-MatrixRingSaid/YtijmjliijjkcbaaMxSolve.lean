/- The program's rank, solutions and refutations. -/
import Derived.Test.YtijmjliijjkcbaaMxEchE
import Derived.Test.YtijmjliijjkcbaaMxTrA
namespace Go.Proofs.Ytijmjliijjkcbaa
set_option linter.unusedVariables false
open Go.RowKit Go.Maps
attribute [local go_sem ↓] Go.wp_at_zero Go.wp_at_succ

set_option maxRecDepth 100000 in
theorem rank_calls {S : Nat → Prop} {w : World} {va : Value} {m : Mx} (ha : MatV S w va m) :
    Calls Try.prog 18 #[va] w (Post w fun _ r => r = .tuple #[.int .i64 (echS m).1.rows.length, .int .i64 (echS m).2]) := by
  obtain ⟨cols, ll⟩ := m
  obtain ⟨ra, rfl, la⟩ := ha
  obtain ⟨aa, acap, rfl, aad, al1, alm⟩ := la.form
  dsimp only at la al1 aad ⊢
  have ex : Below w.heap.size w (w.alloc (.cells #[.int .i64 cols, .slice aa ll.length acap] 24)) := ext_alloc w _
  have KE := Lib.hid (echelonM_calls (va := .agg #[.int .i64 cols, .slice aa ll.length acap]) (m := ⟨cols, ll⟩) ⟨_, rfl, la.ext ex⟩)
  go_enter Try.func18, Try.ntmps18
  go_wp2_with fail
  refine KE.out.mono ?_
  rintro _ w1 ⟨_, rfl, hb1, mv, rfl, rv, rfl, hl⟩
  obtain ⟨a1, c1, rfl, _⟩ := hl.form
  have hx1 := ext_trans ex hb1
  go_wp2
  go_ret2
  exact .mk (ext_alloc' hx1 _) rfl

/-- The solution with leading columns only. -/
def solX (m : Mx) (b : List Int) : List Int := ((linesE m).filter fun l => oddV l.2 b).map fun l => lead l.1
def solD (m : Mx) (b : List Int) : Option (List Int) := (depsE m).find? fun d => oddV d b
theorem MOk.vec {m : Mx} (h : MOk m) {b : List Int} {n : Int} (hn : n ≤ 4096) (hb : vecE n b = 0) : Ord b ∧ b.length ≤ 100000 := by
  have := vecE_zero.1 hb
  exact ⟨this.1, small_len (c := n) (by omega) this.1 this.2⟩
structure EOk (m : Mx) : Prop where
  gl : ∀ l ∈ linesE m, GL m.cols m.rows.length l ∧ l.1 ≠ []
  dep : ∀ d ∈ depsE m, InR m.rows.length d
theorem MOk.eok {m : Mx} (h : MOk m) : EOk m := by
  have hc : ((m.cols.toNat : Nat) : Int) = m.cols := by have := h.c0; omega
  have hi := EInv.all (R := m.rows) (n := m.cols.toNat) (by rw [hc]; exact h.rok) m.rows.length (Nat.le_refl _)
  refine ⟨fun l hl => ?_, fun d hd => (hi.dep d hd).1⟩
  obtain ⟨c, _, hm⟩ := mem_outTo.1 hl
  have := hi.gm.gl _ l hm
  rw [hc] at this
  exact ⟨this, hi.gm.ne _ l hm⟩

def RetS (base : Nat) (x y : List Int) (q : Bool) (e : Int) (w' : World) (r : Value) : Prop := ∃ vx vy, r = .tuple #[vx, vy, .bool q, .int .i64 e] ∧ Ints (fun b => base ≤ b) w' vx x ∧ Ints (fun b => base ≤ b) w' vy y
/-- What Solve returns. -/
def solS (m : Mx) (b : List Int) : (List Int × List Int) × (Bool × Int) :=
  if checkM m ≠ 0 then (([], []), (false, checkM m)) else if vecE m.rows.length b ≠ 0 then (([], []), (false, vecE m.rows.length b)) else match solD m b with | some d => (([], d), (false, 0)) | none => ((solX m b, []), (true, 0))
theorem solS_err {m : Mx} {b : List Int} (h : checkM m ≠ 0) : solS m b = (([], []), (false, checkM m)) := by unfold solS; rw [if_pos h]
theorem solS_vec {m : Mx} {b : List Int} (h : checkM m = 0) (h2 : vecE m.rows.length b ≠ 0) : solS m b = (([], []), (false, vecE m.rows.length b)) := by unfold solS; rw [if_neg (by simp [h]), if_pos h2]
theorem solS_dep {m : Mx} {b d : List Int} (h : checkM m = 0) (h2 : vecE m.rows.length b = 0) (h3 : solD m b = some d) : solS m b = (([], d), (false, 0)) := by unfold solS; rw [if_neg (by simp [h]), if_neg (by simp [h2]), h3]
theorem solS_ok {m : Mx} {b : List Int} (h : checkM m = 0) (h2 : vecE m.rows.length b = 0) (h3 : solD m b = none) : solS m b = ((solX m b, []), (true, 0)) := by unfold solS; rw [if_neg (by simp [h]), if_neg (by simp [h2]), h3]
def RetSol (base : Nat) (t : (List Int × List Int) × (Bool × Int)) : World → Value → Prop := RetS base t.1.1 t.1.2 t.2.1 t.2.2
theorem find_take {D : List (List Int)} {p : List Int → Bool} {k : Nat} (hk : k < D.length) (h0 : (D.take k).find? p = none) (hp : p (nthL D k) = true) : D.find? p = some (nthL D k) := by
  conv => lhs; rw [← List.take_append_drop k D]
  rw [List.find?_append, h0, drop_nthL hk, List.find?_cons, hp]; rfl
theorem find_next {D : List (List Int)} {p : List Int → Bool} {k : Nat} (hk : k < D.length) (h0 : (D.take k).find? p = none) (hp : p (nthL D k) = false) : (D.take (k + 1)).find? p = none := by
  rw [take_nthL hk, List.find?_append, h0, List.find?_cons, hp]; rfl
def solTo (L : List Ln) (b : List Int) (k : Nat) : List Int := ((L.take k).filter fun l => oddV l.2 b).map fun l => lead l.1
theorem solTo_succ {L : List Ln} {b : List Int} {k : Nat} (hk : k < L.length) : solTo L b (k + 1) = solTo L b k ++ (if oddV (nthN L k).2 b = true then [lead (nthN L k).1] else []) := by
  unfold solTo
  have : L.take (k + 1) = L.take k ++ [nthN L k] := by rw [← List.take_append_getElem hk]; congr 2; simp [nthN, hk]
  rw [this, List.filter_append, List.map_append, List.filter_cons]
  split <;> simp
theorem nthN_mem {L : List Ln} {k : Nat} (h : k < L.length) : nthN L k ∈ L := by simp [nthN, h]

set_option maxRecDepth 100000 in
set_option maxHeartbeats 4000000 in
theorem solve_calls {S S' : Nat → Prop} {w : World} {va vb : Value} {m : Mx} {b : List Int} (ha : MatV S w va m) (hbv : Ints S' w vb b) :
    Calls Try.prog 23 #[va, vb] w (Post w (RetSol w.heap.size (solS m b))) := by
  obtain ⟨cols, ll⟩ := m
  obtain ⟨ra, rfl, la⟩ := ha
  obtain ⟨aa, acap, rfl, aad, al1, alm⟩ := la.form
  dsimp only at la al1 aad ⊢
  have ex : Below w.heap.size w (w.alloc (.cells #[.int .i64 cols, .slice aa ll.length acap] 24)) := ext_alloc w _
  have r0 := row_new w [.int .i64 cols, .slice aa ll.length acap] 24
  have KC := Lib.hid (check_calls (v := .agg #[.int .i64 cols, .slice aa ll.length acap]) (m := ⟨cols, ll⟩) ⟨_, rfl, la.ext ex⟩)
  go_enter Try.func23, Try.ntmps23
  go_wp2_with fail
  refine KC.out.mono ?_
  rintro _ w1 ⟨_, rfl, hb1, rfl⟩
  have hx1 := ext_trans ex hb1
  have R0 := r0.ext hb1
  clear KC r0 ex hb1
  by_cases h1 : ¬ checkM ⟨cols, ll⟩ = 0
  · have e1 : (checkM ⟨cols, ll⟩ != 0) = true := by simp [h1]
    have R := Lib.hid (solS_err (b := b) h1)
    clear h1
    go_wp2
    refine bodyPost_ret (v := .tuple #[.slice none 0 0, .slice none 0 0, .bool false, .int .i64 (checkM ⟨cols, ll⟩)]) (by simp [results, Try.results23, go_sem]) rfl ?_
    refine .mk hx1 ?_
    rw [R.out]
    exact ⟨_, _, rfl, .nil _ _, .nil _ _⟩
  have h1 := Classical.not_not.1 h1
  have e1 : (checkM ⟨cols, ll⟩ != 0) = false := by simp [h1]
  have HM := Lib.hid (checkM_zero.1 h1)
  have H1 := Lib.hid h1
  clear h1
  obtain ⟨q0, q1⟩ := R0.two
  have KV := Lib.hid (vector_calls (hbv.ext hx1) (ll.length : Int))
  go_wp2_with fail
  refine KV.out.mono ?_
  rintro _ w2 ⟨_, rfl, hb2, rfl⟩
  have hx2 := ext_trans hx1 hb2
  have R0 := R0.ext hb2
  clear KV hx1 hb2 q0 q1
  by_cases h2 : ¬ vecE (ll.length : Int) b = 0
  · have e2 : (vecE (ll.length : Int) b != 0) = true := by simp [h2]
    have R := Lib.hid (solS_vec (m := ⟨cols, ll⟩) H1.out h2)
    clear h2
    go_wp2
    refine bodyPost_ret (v := .tuple #[.slice none 0 0, .slice none 0 0, .bool false, .int .i64 (vecE (ll.length : Int) b)]) (by simp [results, Try.results23, go_sem]) rfl ?_
    refine .mk hx2 ?_
    rw [R.out]
    exact ⟨_, _, rfl, .nil _ _, .nil _ _⟩
  have h2 := Classical.not_not.1 h2
  have e2 : (vecE (ll.length : Int) b != 0) = false := by simp [h2]
  have HV := Lib.hid (HM.out.vec (by have := HM.out.r1; dsimp only at this; omega) h2)
  have H2 := Lib.hid h2
  clear h2
  obtain ⟨q0, q1⟩ := R0.two
  have KE := Lib.hid (echelon_calls (va := .agg #[.int .i64 cols, .slice aa ll.length acap]) (m := ⟨cols, ll⟩) (w := w2) ⟨_, rfl, la.ext hx2⟩ HM.out)
  go_wp2_with fail
  refine KE.out.mono ?_
  rintro _ w3 ⟨_, rfl, hb3, vl, vd, rfl, hL, hD⟩
  have HEO := Lib.hid HM.out.eok
  obtain ⟨L, hLL⟩ : ∃ L, L = linesE ⟨cols, ll⟩ := ⟨_, rfl⟩
  obtain ⟨D, hDD⟩ : ∃ D, D = depsE ⟨cols, ll⟩ := ⟨_, rfl⟩
  have hL : LinesV (fun b => w2.heap.size ≤ b) w3 vl L := by rw [hLL]; exact hL
  have hD : Lists (fun b => w2.heap.size ≤ b) w3 vd D := by rw [hDD]; exact hD
  have hLn : L.length ≤ 4096 := by rw [hLL]; exact linesE_len _ HM.out
  have HLg : Hid (∀ l ∈ L, GL cols ll.length l ∧ l.1 ≠ []) := Lib.hid (by rw [hLL]; exact HEO.out.gl)
  have HDg : Hid (∀ d ∈ D, InR ll.length d) := Lib.hid (by rw [hDD]; exact HEO.out.dep)
  have HSX : Hid (solX ⟨cols, ll⟩ b = solTo L b L.length) := Lib.hid (by unfold solX solTo; rw [← hLL, List.take_length])
  have HSD : Hid (solD ⟨cols, ll⟩ b = D.find? fun d => oddV d b) := Lib.hid (by unfold solD; rw [← hDD])
  have hls : ll.length ≤ 4096 := HM.out.r1
  have hcs : cols ≤ 4096 := HM.out.c1
  have hx3 := ext_trans hx2 hb3
  have hbs := hx2.size
  clear KE hLL hDD HEO q0 q1 hb3
  obtain ⟨a9, c9, rfl, ad9, l91, l92⟩ := hL.form
  obtain ⟨a8, c8, rfl, ad8, l81, l82⟩ := hD.form
  have HQL := Lib.hid (idx_lines ad9)
  obtain ⟨i0, hi, hz0, hz1, hz2⟩ := info_parts info_ints
  have HQD := Lib.hid (idx_one Try.underlying22 hi hz1 ad8)
  unfold maxLen at l92 l82
  have hr3 := Below.refl w3.heap.size w3
  clear hi hz0 hz1 hz2
  go_wp2
  go_loopw [13, 37] (fun _ i wr => ∃ k : Nat, k ≤ D.length ∧ i = .int .i64 k ∧ Below w3.heap.size w3 wr ∧ Hid ((D.take k).find? (fun d => oddV d b) = none)) (fun _ i _ => D.length - (intOf i).toNat)
  case atStart => exact ⟨0, Nat.zero_le _, rfl, hr3, Lib.hid rfl⟩
  case round =>
    obtain ⟨k, hk, rfl, hb, HF⟩ := hrel
    by_cases hlt : k < D.length
    · have q := HQD.out k hlt
      obtain ⟨u, cu, iu⟩ := hD.at hb hlt
      have hin := HDg.out _ (nthL_mem hlt)
      have hdl := small_len (c := (ll.length : Int)) (by omega) hin.1 hin.2
      have HO := Lib.hid (odd_calls iu ((hbv.ext hx3).ext hb) hin.1 HV.out.1 (by have := HV.out.2; omega))
      obtain ⟨d, hd⟩ : ∃ d, d = nthL D k := ⟨_, rfl⟩
      have HFT := Lib.hid (fun h => find_take (p := fun d => oddV d b) hlt HF.out h)
      have HFN := Lib.hid (fun h => find_next (p := fun d => oddV d b) hlt HF.out h)
      rw [← hd] at HO HFT HFN iu
      obtain ⟨au, cau, rfl, _⟩ := iu.form
      clear hd hin hdl
      go_wp2_with fail
      refine HO.out.mono ?_
      rintro _ w4 ⟨_, rfl, hb4, rfl⟩
      have hbk := ext_trans hb hb4
      cases hod : oddV d b with
      | true =>
        have HR : Hid (solS ⟨cols, ll⟩ b = (([], d), (false, 0))) := Lib.hid (solS_dep H1.out H2.out (HSD.out.trans (HFT.out hod)))
        have hiu := iu.ext hb4
        clear hod
        go_wp2
        refine bodyPost_ret (v := .tuple #[.slice none 0 0, .slice au d.length cau, .bool false, .int .i64 0]) (by simp [results, Try.results23, go_sem]) rfl ?_
        refine .mk (ext_trans hx3 hbk) ?_
        rw [HR.out]
        exact ⟨_, _, rfl, .nil _ _, hiu.mono fun b hb => by have : w2.heap.size ≤ b := hb; omega⟩
      | false =>
        have HF2 := Lib.hid (HFN.out hod)
        clear hod
        go_wp2
        go_roundw
        case rel => exact ⟨k + 1, by omega, by go_num, hbk, HF2⟩
        case measure => simp [intOf]; omega
    · have HN : Hid (solD ⟨cols, ll⟩ b = none) := Lib.hid (by rw [HSD.out]; have := HF.out; rwa [List.take_of_length_le (by omega)] at this)
      have R := Lib.hid (solS_ok H1.out H2.out HN.out)
      obtain ⟨wq, hwq⟩ : ∃ wq : World, wq = wr := ⟨_, rfl⟩
      rw [← hwq] at hb ⊢
      have hrq := Below.refl wq.heap.size wq
      clear hwq HF
      go_wp2
      go_loopw [14, 16, 48] (fun vo _ i wr => ∃ k : Nat, k ≤ L.length ∧ i = .int .i64 k ∧ Below wq.heap.size wq wr ∧ wr.ownsRow wq.heap.size 3 1 vo (solTo L b k).length ((solTo L b k).map (Value.int .i64))) (fun _ _ i _ => L.length - (intOf i).toNat)
      case atStart => exact ⟨0, Nat.zero_le _, rfl, hrq, World.ownsRow_nil _ _ _ _⟩
      case round =>
        obtain ⟨k, hk, rfl, hbr, ho⟩ := hrel
        by_cases hlt : k < L.length
        · have q := HQL.out k hlt
          have hb3r : Below w3.heap.size w3 wr := ext_trans hb hbr
          obtain ⟨a1, c1, b1, d1, e0, e1, i1, i2⟩ := hL.at (.of_ext hb3r) hlt
          have hg := HLg.out _ (nthN_mem hlt)
          have hn2 := small_len (c := (ll.length : Int)) (by omega) hg.1.o2 hg.1.r2
          have hrm := hg.1.r1 _ (lead_mem hg.2)
          have HT := Lib.hid (solTo_succ (b := b) hlt)
          have hol : (solTo L b k).length ≤ 4096 := by
            unfold solTo; rw [List.length_map]; exact Nat.le_trans (List.length_filter_le _ _) (by rw [List.length_take]; omega)
          obtain ⟨l, hl⟩ : ∃ l, l = nthN L k := ⟨_, rfl⟩
          rw [← hl] at e0 e1 i1 i2 hg hn2 hrm HT
          obtain ⟨t, ht⟩ : ∃ t, l.1 = lead l.1 :: t := by
            cases h : l.1 with
            | nil => exact absurd h hg.2
            | cons y t => exact ⟨t, by simp [lead]⟩
          have had := ints_ad i1
          have hlp : 0 < l.1.length := by rw [ht]; simp
          have cp : wr.cell? (adr a1 0) = some (.int .i64 (lead l.1)) := by
            have h1 := i1
            rw [ht] at h1
            rw [show (lead l.1 :: t).length = l.1.length from by rw [← ht]] at h1
            exact ints_head h1 (.refl _ _)
          have qp : ∀ W : World, (Instr.indexAt 38 (.slice a1 l.1.length c1) (.int .i64 0)).run Try.prog W = .ok (.pointer (some (adr a1 0))) W := by
            obtain ⟨i3, hi3, _, hy1, _⟩ := info_parts info_int
            have := idx_one Try.underlying38 hi3 hy1 had 0 hlp
            simpa using this
          have HO := Lib.hid (fun W (hW : Below wr.heap.size wr W) => odd_calls (i2.ext hW) (((hbv.ext hx3).ext hb3r).ext hW) hg.1.o2 HV.out.1 (by have := HV.out.2; omega))
          obtain ⟨p, hp⟩ : ∃ p, p = lead l.1 := ⟨_, rfl⟩
          rw [← hp] at cp hrm HT
          obtain ⟨acc, hacc⟩ : ∃ acc, acc = solTo L b k := ⟨_, rfl⟩
          rw [← hacc] at ho HT hol
          clear hl ht hp hacc hg hn2
          go_upto_region 18 with fail
          obtain ⟨w5, hw5⟩ : ∃ w5, w5 = wr.alloc (.cells #[.slice a1 l.1.length c1, .slice b1 l.2.length d1] 69) := ⟨_, rfl⟩
          obtain ⟨T9, hT9⟩ : ∃ T9, T9 = wr.heap.size := ⟨_, rfl⟩
          rw [← hw5, ← hT9]
          have R9 : Row w5 T9 69 [.slice a1 l.1.length c1, .slice b1 l.2.length d1] := by rw [hw5, hT9]; exact row_new _ _ _
          have hb5 : Below wr.heap.size wr w5 := by rw [hw5]; exact ext_alloc _ _
          clear hw5 hT9 e0 e1
          obtain ⟨p0, p1⟩ := R9.two
          go_wp2_with fail
          refine (HO.out _ hb5).mono ?_
          rintro _ w6 ⟨_, rfl, hb6, rfl⟩
          have hb56 := ext_trans hb5 hb6
          have ho6 := owns_ext ho hb56
          have hbr6 := ext_trans hbr hb56
          have R96 := R9.ext hb6
          have cp6 := cell_ext cp hb56
          obtain ⟨p0, p1⟩ := R96.two
          have hs6 := hbr6.size
          clear ho
          cases hod : oddV l.2 b with
          | false =>
            rw [hod, if_neg (by simp), List.append_nil] at HT
            rw [← HT.out] at ho6
            clear hod
            go_wp2
            go_roundw
            case rel => exact ⟨k + 1, by omega, by go_num, hbr6, ho6⟩
            case measure => simp [intOf]; omega
          | true =>
            rw [hod, if_pos rfl] at HT
            have HO6 := Lib.hid ho6
            clear hod ho6
            go_wp2_with (at_builtin; refine wpList_push rfl _ _ 38 rfl 3 _ 8 Try.underlying38 info_int rfl wq.heap.size _ _ _ rfl HO6.out (.int .i64 p) rfl rfl (by omega) (by omega) hs6 ?_; intro g' c' w7 hown7 hbel7 _ _)
            have hb7 := hbr6.trans hbel7
            have hT2 := Lib.hid (show w7.ownsRow wq.heap.size 3 1 (.slice (some ⟨g', 0, none⟩) (acc.length + 1) c') (solTo L b (k + 1)).length ((solTo L b (k + 1)).map (Value.int .i64)) from by rw [HT.out]; simpa using hown7)
            clear hown7 hbel7
            go_wp2
            go_roundw
            case rel => exact ⟨k + 1, by omega, by go_num, hb7, hT2.out⟩
            case measure => simp [intOf]; omega
        · obtain rfl : k = L.length := by omega
          have hI := Ints.of_own ho (fun x hx => by
            unfold solTo at hx
            rw [List.mem_map] at hx
            obtain ⟨l, hl, rfl⟩ := hx
            rw [List.take_length, List.mem_filter] at hl
            have hg := HLg.out l hl.1
            have := hg.1.r1 _ (lead_mem hg.2)
            exact WF.small (by omega))
          rw [← HSX.out] at hI
          have hfin := ext_trans (ext_trans hx3 hb) hbr
          have hqs := (ext_trans hx3 hb).size
          obtain ⟨ax, cx, rfl, _⟩ := hI.form
          go_wp2
          refine bodyPost_ret (v := .tuple #[.slice ax (solX ⟨cols, ll⟩ b).length cx, .slice none 0 0, .bool true, .int .i64 0]) (by simp [results, Try.results23, go_sem]) rfl ?_
          refine .mk hfin ?_
          rw [R.out]
          exact ⟨_, _, rfl, hI.mono fun b hb => by omega, .nil _ _⟩
end Go.Proofs.Ytijmjliijjkcbaa
