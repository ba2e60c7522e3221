/- The reference's Resolve. -/
import Derived.Test.YtifcgcdbebgahaaClK
namespace Go.Proofs.Ytifcgcdbebgahaa
set_option linter.unusedVariables false
open Go.RowKit
attribute [local go_sem ↓] Go.wp_at_zero Go.wp_at_succ

def resolveS (a b : List Int) (v : Int) : List Int × Int := if clauseE 4096 a ≠ 0 then ([], clauseE 4096 a) else if clauseE 4096 b ≠ 0 then ([], clauseE 4096 b) else if v < 1 ∨ 4096 < v then ([], 2) else
  if memB a v = false ∨ memB b (-v) = false then ([], 6) else match sortedP (withoutP a [-v] ++ withoutP b [v]) with
  | none => ([], 7)
  | some d => (d, 0)
def PPair (t : List Int × Int) (w' : World) (r : Value) : Prop := ∃ a cap, r = .tuple #[.slice a t.1.length cap, .int .i64 t.2] ∧ Ints TT w' (.slice a t.1.length cap) t.1
theorem PPair.none {t : List Int × Int} {w' : World} {e : Int} (h : t = ([], e)) : PPair t w' (.tuple #[.slice none 0 0, .int .i64 e]) := by
  subst h
  exact ⟨Option.none, 0, rfl, Ints.nil _ _⟩

set_option maxRecDepth 100000 in
set_option maxHeartbeats 4000000 in
theorem refResolve_calls {S S' : Nat → Prop} {w : World} {va vb : Value} {x y : List Int} (ha : Ints S w va x) (hb : Ints S' w vb y) (v : Int) :
    Calls Try.prog 29 #[va, vb, .int .i64 v] w (Post w (PPair (resolveS x y v))) := by
  obtain ⟨a, ac, rfl, _⟩ := ha.form
  obtain ⟨b, bc, rfl, _⟩ := hb.form
  have HA := Lib.hid ha
  have HB := Lib.hid hb
  obtain ⟨E, hE⟩ : ∃ E, E = resolveS x y v := ⟨_, rfl⟩
  rw [← hE]
  unfold resolveS at hE
  obtain ⟨c1, hc1⟩ : ∃ c1, c1 = clauseE 4096 x := ⟨_, rfl⟩
  obtain ⟨c2, hc2⟩ : ∃ c2, c2 = clauseE 4096 y := ⟨_, rfl⟩
  have K1 := Lib.hid ((refClause_quiet ha (n := 4096) (by omega)).mono fun _ _ h => h.take)
  have K2 := Lib.hid (fun W (hW : QW w W) => (refClause_quiet (HB.out.ext hW.ext) (n := 4096) (by omega)).mono fun _ _ h => h.take)
  rw [← hc1] at K1 hE
  rw [← hc2] at K2 hE
  have HC1 := Lib.hid hc1.symm
  have HC2 := Lib.hid hc2.symm
  have HE := Lib.hid hE
  clear hE hc1 hc2 ha hb
  go_enter Try.func29, Try.ntmps29
  go_wp2_with fail
  refine K1.out.mono ?_
  rintro _ w1 ⟨_, rfl, hq1, rfl⟩
  clear K1
  by_cases h1 : ¬ c1 = 0
  · have e1 : (c1 != 0) = true := by simp [h1]
    have R : Hid (E = ([], c1)) := Lib.hid (by rw [HE.out, if_pos h1])
    clear h1
    go_wp2
    refine bodyPost_ret (v := .tuple #[.slice none 0 0, .int .i64 c1]) (by simp [results, Try.results29, go_sem]) rfl ?_
    exact .mk hq1.ext (.none R.out)
  have h1 := Classical.not_not.1 h1
  have e1 : (c1 != 0) = false := by simp [h1]
  have HE := Lib.hid (HE.out.trans (if_neg (by simp [h1])))
  have H1 := Lib.hid (HC1.out.trans h1)
  clear h1
  go_wp2_with fail
  refine (K2.out w1 hq1).mono ?_
  rintro _ w2 ⟨_, rfl, hq, rfl⟩
  have hq2 := hq1.trans hq
  clear K2 hq hq1
  by_cases h2 : ¬ c2 = 0
  · have e2 : (c2 != 0) = true := by simp [h2]
    have R : Hid (E = ([], c2)) := Lib.hid (by rw [HE.out, if_pos h2])
    clear h2
    go_wp2
    refine bodyPost_ret (v := .tuple #[.slice none 0 0, .int .i64 c2]) (by simp [results, Try.results29, go_sem]) rfl ?_
    exact .mk hq2.ext (.none R.out)
  have h2 := Classical.not_not.1 h2
  have e2 : (c2 != 0) = false := by simp [h2]
  have HE := Lib.hid (HE.out.trans (if_neg (by simp [h2])))
  have H2 := Lib.hid (HC2.out.trans h2)
  clear h2
  by_cases h3 : v < 1 ∨ 4096 < v
  · have R : Hid (E = ([], 2)) := Lib.hid (by rw [HE.out, if_pos h3])
    by_cases h4 : v < 1
    · clear h3
      go_wp2
      refine bodyPost_ret (v := .tuple #[.slice none 0 0, .int .i64 2]) (by simp [results, Try.results29, go_sem]) rfl ?_
      exact .mk hq2.ext (.none R.out)
    · have h5 : 4096 < v := by omega
      clear h3
      go_wp2
      refine bodyPost_ret (v := .tuple #[.slice none 0 0, .int .i64 2]) (by simp [results, Try.results29, go_sem]) rfl ?_
      exact .mk hq2.ext (.none R.out)
  have HE := Lib.hid (HE.out.trans (if_neg h3))
  have g1 : ¬ v < 1 := by omega
  have g2 : ¬ 4096 < v := by omega
  have hwv : WF v := WF.small (by omega)
  clear h3
  obtain ⟨b1, hb1⟩ : ∃ b1, b1 = memB x v := ⟨_, rfl⟩
  obtain ⟨b2, hb2⟩ : ∃ b2, b2 = memB y (-v) := ⟨_, rfl⟩
  have K1 := Lib.hid ((refHas_quiet (HA.out.ext hq2.ext) v).mono fun _ _ h => h.take)
  have K2 := Lib.hid (fun W (hW : QW w W) => (refHas_quiet (HB.out.ext hW.ext) (-v)).mono fun _ _ h => h.take)
  rw [← hb1] at K1 HE
  rw [← hb2] at K2 HE
  clear hb1 hb2
  go_wp2_with fail
  refine K1.out.mono ?_
  rintro _ w3 ⟨_, rfl, hq, rfl⟩
  have hq3 := hq2.trans hq
  clear hq hq2 K1
  cases b1 with
  | false =>
    have R : Hid (E = ([], 6)) := Lib.hid (by rw [HE.out, if_pos (.inl rfl)])
    go_wp2
    refine bodyPost_ret (v := .tuple #[.slice none 0 0, .int .i64 6]) (by simp [results, Try.results29, go_sem]) rfl ?_
    exact .mk hq3.ext (.none R.out)
  | true =>
    go_wp2_with fail
    refine (K2.out w3 hq3).mono ?_
    rintro _ w4 ⟨_, rfl, hq, rfl⟩
    have hq4 := hq3.trans hq
    clear hq hq3 K2
    cases b2 with
    | false =>
      have R : Hid (E = ([], 6)) := Lib.hid (by rw [HE.out, if_pos (.inr rfl)])
      go_wp2
      refine bodyPost_ret (v := .tuple #[.slice none 0 0, .int .i64 6]) (by simp [results, Try.results29, go_sem]) rfl ?_
      exact .mk hq4.ext (.none R.out)
    | true =>
      have HE := Lib.hid (HE.out.trans (if_neg (by simp)))
      have hl1 := clause_length (n := 4096) (by omega) H1.out
      have hl2 := clause_length (n := 4096) (by omega) H2.out
      obtain ⟨l1, hl1e⟩ : ∃ l1, l1 = withoutP x [-v] := ⟨_, rfl⟩
      obtain ⟨l2, hl2e⟩ : ∃ l2, l2 = withoutP y [v] := ⟨_, rfl⟩
      rw [← hl1e, ← hl2e] at HE
      have hn1 : l1.length ≤ 4096 := by have := without_length x [-v]; rw [← hl1e] at this; omega
      have hn2 : l2.length ≤ 4096 := by have := without_length y [v]; rw [← hl2e] at this; omega
      have L1 := (lit_ints w4 w4.heap.size rfl [-v] 3 (by simp) (by simp; omega))
      simp only [List.map_cons, List.map_nil, List.length_cons, List.length_nil, Nat.zero_add] at L1
      have hx5 := ext_alloc' hq4.ext (.cells #[.int .i64 (-v)] 3)
      have KW1 := Lib.hid (refWithout_calls (HA.out.ext hx5) L1 (by omega))
      rw [← hl1e] at KW1
      have LL2 := Lib.hid (fun (W : World) => (show Ints (fun b => b = W.heap.size) (W.alloc (.cells #[.int .i64 v] 3)) (.slice (some ⟨W.heap.size, 0, none⟩) 1 1) [v] from by simpa using lit_ints W W.heap.size rfl [v] 3 (by simp) (by simp; omega)))
      have KW2 := Lib.hid (fun (W : World) (hW : Below w.heap.size w W) => refWithout_calls (HB.out.ext (ext_alloc' hW (.cells #[.int .i64 v] 3))) (LL2.out W) (show y.length ≤ 1000000 by omega))
      rw [← hl2e] at KW2
      have HX4 := Lib.hid hq4.ext
      clear hl1e hl2e L1 LL2 hq4
      go_wp2_with fail
      refine KW1.out.mono ?_
      rintro _ w5 ⟨u5, rfl, hb5, hI5⟩
      have hx6 := ext_trans hx5 hb5
      obtain ⟨a5, c5, rfl, _⟩ := hI5.form
      have I5 := Lib.hid (hI5.mono (S' := TT) fun _ _ => trivial)
      have hs5 := hx6.size
      have B1 := Lib.hid (show (0 + l1.length) * 8 ≤ 140737488355328 by omega)
      have HX6 := Lib.hid hx6
      clear KW1 hb5 hI5 hx5
      go_wp2_with (at_builtin; refine wpList_appendAll rfl (.tmp 40) (.tmp 45) 25 rfl 3 _ 8 Try.underlying25 info_int rfl w.heap.size (.slice none 0 0) 0 [] rfl (World.ownsRow_nil _ _ _ _) TT _ _ _ (l1.map (Value.int .i64)) rfl (ints_ad I5.out) (by simp) (ints_cells I5.out (.refl _ _)) (oneCell_ints l1) B1.out (by omega) hs5 ?_; intro v6 w6 hown6 hb6 hag6 hv6; have O1 := Lib.hid (show w6.ownsRow w.heap.size 3 1 v6 l1.length (l1.map (Value.int .i64)) from by simpa using hown6); have HX7 := Lib.hid (HX6.out.trans hb6); clear hown6 hb6 hag6 hv6)
      refine (KW2.out w6 HX7.out).mono ?_
      rintro _ w7 ⟨u7, rfl, hb7, hI7⟩
      have hx8 := ext_alloc' HX7.out (.cells #[.int .i64 v] 3)
      have hx9 := ext_trans hx8 hb7
      have O2 := Lib.hid (owns_ext (owns_ext O1.out (ext_alloc w6 (.cells #[.int .i64 v] 3))) hb7)
      obtain ⟨a7, c7, rfl, _⟩ := hI7.form
      have I7 := Lib.hid (hI7.mono (S' := TT) fun _ _ => trivial)
      have hs7 := hx9.size
      have B2 := Lib.hid (show (l1.length + l2.length) * 8 ≤ 140737488355328 by omega)
      have HX9 := Lib.hid hx9
      clear KW2 hb7 hI7 hx8 O1
      go_wp2_with (at_builtin; refine wpList_appendAll rfl (.tmp 47) (.tmp 51) 25 rfl 3 _ 8 Try.underlying25 info_int rfl w.heap.size _ _ _ rfl O2.out TT _ _ _ (l2.map (Value.int .i64)) rfl (ints_ad I7.out) (by simp) (ints_cells I7.out (.refl _ _)) (oneCell_ints l2) B2.out (by omega) hs7 ?_; intro v8 w8 hown8 hb8 hag8 hv8; have O3 := Lib.hid hown8; have HX10 := Lib.hid (HX9.out.trans hb8); clear hown8 hb8 hag8 hv8)
      have hlen : (l1 ++ l2).length = l1.length + l2.length := by simp
      have O4 : w8.ownsRow w.heap.size 3 1 v8 (l1 ++ l2).length ((l1 ++ l2).map (Value.int .i64)) := by rw [hlen]; simpa using O3.out
      have I8 := Ints.of_own O4 (fun z hz => by
        rcases List.mem_append.1 hz with h | h
        · exact I5.out.wf z h
        · exact I7.out.wf z h)
      have KS := Lib.hid (refSorted_calls I8 (by omega))
      obtain ⟨o, ho⟩ : ∃ o, o = sortedP (l1 ++ l2) := ⟨_, rfl⟩
      rw [← ho] at KS HE
      clear ho O4 I8
      go_wp2_with fail
      refine KS.out.mono ?_
      rintro _ w9 ⟨_, rfl, hb9, hp⟩
      have hbb := ext_trans HX10.out hb9
      clear KS hb9
      cases o with
      | none =>
        cases hp
        have R : Hid (E = ([], 7)) := Lib.hid HE.out
        go_wp2
        refine bodyPost_ret (v := .tuple #[.slice none 0 0, .int .i64 7]) (by simp [results, Try.results29, go_sem]) rfl ?_
        exact .mk hbb (.none R.out)
      | some d =>
        obtain ⟨b2, cp2, rfl, he⟩ := hp
        have HEI := Lib.hid he
        have R : Hid (E = (d, 0)) := Lib.hid HE.out
        clear he
        go_wp2
        refine bodyPost_ret (v := .tuple #[.slice b2 d.length cp2, .int .i64 0]) (by simp [results, Try.results29, go_sem]) rfl ?_
        rw [R.out]
        exact .mk hbb ⟨_, _, rfl, HEI.out.mono fun _ _ => trivial⟩
end Go.Proofs.Ytifcgcdbebgahaa
