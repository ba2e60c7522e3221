/- The closure of Normal. -/
import Derived.Test.YtifcgcdbebgahaaClZg
import Derived.Test.YtifcgcdbebgahaaSlices
namespace Go.Proofs.Ytifcgcdbebgahaa
set_option linter.unusedVariables false
open Go.RowKit
attribute [local go_sem ↓] Go.wp_at_zero Go.wp_at_succ

theorem wrongFrom_any {p : List Int → Bool} {l : List (List Int)} : 0 ≤ wrongFrom (fun r => !p r) l 0 ↔ l.any p = true := by
  have key : ∀ m k, l.length - k = m → (0 ≤ wrongFrom (fun r => !p r) l k ↔ ∃ j, k ≤ j ∧ j < l.length ∧ p (nthL l j) = true) := by
    intro m
    induction m with
    | zero =>
      intro k hk
      rw [wrongFrom_eq, if_neg (by omega)]
      exact ⟨fun h => absurd h (by omega), fun ⟨j, h1, h2, _⟩ => by omega⟩
    | succ m ih =>
      intro k hk
      rw [wrongFrom_eq, if_pos (by omega)]
      cases h : p (nthL l k) with
      | true =>
        rw [if_neg (by simp)]
        exact ⟨fun _ => ⟨k, Nat.le_refl _, by omega, h⟩, fun _ => Int.natCast_nonneg k⟩
      | false =>
        rw [if_pos (by simp), ih (k + 1) (by omega)]
        constructor
        · rintro ⟨j, h1, h2, h3⟩; exact ⟨j, by omega, h2, h3⟩
        · rintro ⟨j, h1, h2, h3⟩
          refine ⟨j, ?_, h2, h3⟩
          by_cases e : j = k
          · subst e; rw [h] at h3; cases h3
          · omega
  rw [key _ 0 rfl, List.any_eq_true]
  constructor
  · rintro ⟨j, _, hj, h⟩; exact ⟨_, nthL_mem hj, h⟩
  · rintro ⟨r, hr, h⟩
    obtain ⟨j, hj, rfl⟩ := List.getElem_of_mem hr
    exact ⟨j, Nat.zero_le _, hj, by rw [nthL_eq hj]; exact h⟩
set_option maxRecDepth 100000 in
theorem containsRows_quiet {S : Nat → Prop} {w : World} {va : Value} {l : List (List Int)} (ha : Lists S w va l) {g : Nat} {cp : Value} (p : List Int → Bool)
    (eg : ∀ args w, (callFunc g args).run Try.prog w = .ok (.enter g args) w)
    (hp : ∀ W, QW w W → ∀ k, k < l.length → ∀ u, Ints S W u (nthL l k) → Calls Try.prog g #[u, cp] W (QuietP W (.bool (p (nthL l k))))) :
    Calls Try.prog 69 #[va, .func (.func g) #[] #[cp]] w (QuietP w (.bool (l.any p))) := by
  have K := Lib.hid ((indexRows_quiet ha p eg hp).mono fun _ _ h => h.take)
  have HI := Lib.hid (wrongFrom_any (p := p) (l := l))
  obtain ⟨a, cap, rfl, _⟩ := ha.form
  clear hp ha eg
  obtain ⟨x, hx⟩ : ∃ x, x = wrongFrom (fun r => !p r) l 0 := ⟨_, rfl⟩
  obtain ⟨b, hb⟩ : ∃ b, b = l.any p := ⟨_, rfl⟩
  rw [← hx] at K HI
  rw [← hb] at HI ⊢
  clear hx hb
  go_enter Try.func69, Try.ntmps69
  go_wp2_with fail
  refine K.out.mono ?_
  rintro _ w2 ⟨_, rfl, hq2, rfl⟩
  clear K
  cases b with
  | true =>
    have h0 : 0 ≤ x := HI.out.2 rfl
    go_wp2
    go_ret
    exact .fin (by simp [h0]) hq2
  | false =>
    have h0 : ¬ 0 ≤ x := fun h => by cases HI.out.1 h
    go_wp2
    go_ret
    exact .fin (by simp [h0]) hq2
set_option maxRecDepth 100000 in
theorem norm11_quiet {S S' : Nat → Prop} {w : World} {P : Nat} {vy vz : Value} {y z : List Int} (hy : Ints S w vy y) (hP : w.cell? ⟨P, 0, none⟩ = some vy) (hz : Ints S' w vz z) :
    Calls Try.prog 70 #[vz, .pointer (some ⟨P, 0, none⟩)] w (QuietP w (.bool (decide (y = z)))) := by
  have K := Lib.hid ((equal_quiet hy hz).mono fun _ _ h => h.take)
  obtain ⟨a, cap, rfl, _⟩ := hy.form
  obtain ⟨az, cz, rfl, _⟩ := hz.form
  obtain ⟨e, he⟩ : ∃ e, e = decide (y = z) := ⟨_, rfl⟩
  rw [← he] at K ⊢
  clear hy hz he
  go_enter Try.func70, Try.ntmps70
  go_wp2_with fail
  refine K.out.mono ?_
  rintro _ w2 ⟨_, rfl, hq2, rfl⟩
  clear K
  go_wp2
  go_ret
  exact .fin rfl hq2

/-- The next clause of a normal form. -/
def nextN (acc : List (List Int)) (r : List Int) : Option (List Int) := match sortedP r with
  | none => none
  | some d => if d ∈ acc then none else some d
def normP (rows : List (List Int)) : List (List Int) := rows.foldl (fun acc r => match nextN acc r with | none => acc | some d => acc ++ [d]) []
theorem norm_succ {l : List (List Int)} {k : Nat} (h : k < l.length) : normP (l.take (k + 1)) = match nextN (normP (l.take k)) (nthL l k) with | none => normP (l.take k) | some d => normP (l.take k) ++ [d] := by
  unfold normP
  rw [take_nthL h, List.foldl_append]
  rfl
theorem norm_len (l : List (List Int)) : ∀ k, (normP (l.take k)).length ≤ k := by
  intro k
  induction k with
  | zero => simp [normP]
  | succ k ih =>
    by_cases h : k < l.length
    · rw [norm_succ h]
      split
      · omega
      · simp; omega
    · rw [List.take_of_length_le (by omega), ← List.take_of_length_le (i := k) (by omega : l.length ≤ k)]
      omega
theorem RefsV.all {S : Nat → Prop} {w : World} {vs : List Value} {ll : List (List Int)} (h : RefsV S w vs ll) : RefsV TT w vs ll := ⟨h.1, fun j hj => (h.2 j hj).mono fun _ _ => trivial⟩
/-- What the closure of Normal leaves. -/
def PNorm (P B : Nat) (v1 : Value) (vs : List Value) (ll : List (List Int)) (o : Option (List Int)) (W : World) (e : Ending) (W' : World) : Prop := ∃ r, e = .returned r ∧ Below P W W' ∧ match o with
  | none => r = .tuple #[.slice none 0 0, .bool false] ∧ Below W.heap.size W W'
  | some d => ∃ a cap g c, r = .tuple #[.slice a d.length cap, .bool true] ∧ Ints (fun b => W.heap.size ≤ b ∧ b ≠ g) W' (.slice a d.length cap) d ∧ Row W' P 22 [.slice (some ⟨g, 0, none⟩) (ll.length + 1) c] ∧
      W'.ownsRow B 25 1 (.slice (some ⟨g, 0, none⟩) (ll.length + 1) c) (ll.length + 1) (vs ++ [.slice a d.length cap]) ∧ Agree (fun b => b ≠ P ∧ v1.ownBlock ≠ some b) W W' ∧ (v1.ownBlock = some g ∨ W.heap.size ≤ g)

set_option maxRecDepth 100000 in
set_option maxHeartbeats 4000000 in
theorem norm1_calls {S S' : Nat → Prop} {w : World} {P B : Nat} {v1 u : Value} {vs : List Value} {ll : List (List Int)} {x : List Int} {n : Int} (hu : Ints S w u x) (hx : x.length ≤ 100000) (hn : n ≤ 100000) (hg : ∀ z ∈ x, goodP n z = true)
    (hR : Row w P 22 [v1]) (ho : w.ownsRow B 25 1 v1 ll.length vs) (hr : RefsV S' w vs ll) (hPB : P < B) (hB : B ≤ w.heap.size) (hl : ll.length ≤ 100000) :
    Calls Try.prog 68 #[u, .pointer (some ⟨P, 0, none⟩)] w (PNorm P B v1 vs ll (nextN ll x) w) := by
  obtain ⟨E, hE⟩ : ∃ E, E = nextN ll x := ⟨_, rfl⟩
  rw [← hE]
  have KS := Lib.hid (psorted_calls hu hx hn hg)
  obtain ⟨o, hoo⟩ : ∃ o, o = sortedP x := ⟨_, rfl⟩
  unfold nextN at hE
  rw [← hoo] at KS hE
  have HE := Lib.hid hE
  obtain ⟨au, cu, rfl, _⟩ := hu.form
  have HO := Lib.hid ho
  have HR := Lib.hid hr
  have hLs := Lib.hid (Lists.of_own (S := TT) ho hr.all (fun _ _ => trivial))
  clear hu hoo hE ho hr hg
  go_enter Try.func68, Try.ntmps68
  go_wp2_with fail
  refine KS.out.mono ?_
  rintro _ w1 ⟨_, rfl, hb1, hp1⟩
  have R1 := hR.ext hb1
  have hs1 := hb1.size
  have hPl := hR.lt
  clear KS
  cases o with
  | none =>
    cases hp1
    have R : Hid (E = none) := Lib.hid HE.out
    have hbb := ext_alloc' hb1 (.cells #[.slice none 0 0] 25)
    go_wp2
    refine bodyPost_ret (v := .tuple #[.slice none 0 0, .bool false]) (by simp [results, Try.results68, go_sem]) rfl ?_
    rw [R.out]
    exact ⟨_, rfl, hbb.mono (by omega), rfl, hbb⟩
  | some d =>
    obtain ⟨a, cap, rfl, hd⟩ := hp1
    have hbb := ext_alloc' hb1 (.cells #[.slice a d.length cap] 25)
    have r5 := row_new w1 [.slice a d.length cap] 25
    have hd2 := hd.ext (ext_alloc w1 (.cells #[.slice a d.length cap] 25))
    have R2 := R1.ext (ext_alloc w1 (.cells #[.slice a d.length cap] 25))
    have KC := Lib.hid ((containsRows_quiet (hLs.out.ext hbb) (g := 70) (cp := .pointer (some ⟨w1.heap.size, 0, none⟩)) (fun z => decide (d = z)) (fun args w => by rfl)
      (fun W hW k hk u hu => norm11_quiet (hd2.ext hW.ext) (cell_ext (r5.cell (j := 0) rfl) hW.ext) hu)).mono fun _ _ h => h.take)
    obtain ⟨q, hq⟩ : ∃ q, q = ll.any fun z => decide (d = z) := ⟨_, rfl⟩
    have hqm : q = true ↔ d ∈ ll := by
      rw [hq, List.any_eq_true]
      exact ⟨fun ⟨z, h1, h2⟩ => by rw [of_decide_eq_true h2]; exact h1, fun h => ⟨d, h, by simp⟩⟩
    have HQM := Lib.hid hqm
    rw [← hq] at KC
    have p1 := R1.cell (j := 0) rfl
    have hP1 := R1.lt
    obtain ⟨av, cv, rfl, _⟩ := hLs.out.form
    have HD2 := Lib.hid hd2
    clear hq hqm hd hd2
    go_wp2_with fail
    refine KC.out.mono ?_
    rintro _ w3 ⟨_, rfl, hq3, rfl⟩
    have hb3 := ext_trans hbb hq3.ext
    have R3 := R2.ext hq3.ext
    have r53 := r5.ext hq3.ext
    clear KC
    cases q with
    | true =>
      have R : Hid (E = none) := Lib.hid (by rw [HE.out]; exact if_pos (HQM.out.1 rfl))
      go_wp2
      refine bodyPost_ret (v := .tuple #[.slice none 0 0, .bool false]) (by simp [results, Try.results68, go_sem]) rfl ?_
      rw [R.out]
      exact ⟨_, rfl, hb3.mono (by omega), rfl, hb3⟩
    | false =>
      have R : Hid (E = some d) := Lib.hid (by rw [HE.out]; exact if_neg (fun h => by have := HQM.out.2 h; cases this))
      have p3 := R3.cell (j := 0) rfl
      have f3 := R3.free 0
      have p5 := r53.cell (j := 0) rfl
      have O3 := Lib.hid (owns_ext HO.out hb3)
      have hs3 : B ≤ w3.heap.size := Nat.le_trans hB hb3.size
      have h5l := r53.lt
      have h3l := R3.lt
      have BB := Lib.hid (show (ll.length + 1) * 24 ≤ 140737488355328 by omega)
      have HNE : Hid ((Value.slice av ll.length cv).ownBlock ≠ some P) := Lib.hid (fun h => by have := (O3.out.lt _ h).1; omega)
      have HNE5 : Hid ((Value.slice av ll.length cv).ownBlock ≠ some w1.heap.size) := Lib.hid (fun h => by have := (HO.out.lt _ h).2; omega)
      have HQ3 := Lib.hid hq3.ext
      clear p1 hq3
      go_wp2_with (at_builtin; refine wpList_push rfl (.tmp 19) (.tmp 21) 22 rfl 25 _ 24 Try.underlying22 info_ints rfl B _ _ _ rfl O3.out (.slice a d.length cap) rfl rfl BB.out (by omega) hs3 ?_; intro g7 c7 w7 hown7 hbel7 hag7 hat7; have R7 := R3.agree (hag7 (fun b => b = P) (fun k hk e => HNE.out (e ▸ hk))) rfl; have r57 := r53.agree (hag7 (fun b => b = w1.heap.size) (fun k hk e => HNE5.out (e ▸ hk))) rfl; have p7 := R7.cell (j := 0) rfl; have f7 := R7.free 0; have p57 := r57.cell (j := 0) rfl; have H7 := Lib.hid (And.intro hown7 (And.intro hbel7 (And.intro hag7 hat7))); clear hown7 hbel7 hag7 hat7)
      obtain ⟨hown7, hbel7, hag7, hat7⟩ := H7.out
      have hset := grownBy_setCell w7 P 0 (.slice (some ⟨g7, 0, none⟩) (ll.length + 1) c7)
      have hO9 := owns_agree (S := fun b => B ≤ b) hown7 (.of_grown hset fun b hb e => by cases e; omega) (fun k hk => (hown7.lt k hk).1)
      have hR9 := R7.set 0 (.slice (some ⟨g7, 0, none⟩) (ll.length + 1) c7)
      have hBel : Below P w (w7.setCell ⟨P, 0, none⟩ (.slice (some ⟨g7, 0, none⟩) (ll.length + 1) c7)) := (((hb3.mono (by omega)).trans (hbel7.mono (by omega))).setCell (by simp) _)
      have hlt := HO.out.lt
      have hAg : Agree (fun b => b ≠ P ∧ (Value.slice av ll.length cv).ownBlock ≠ some b) w (w7.setCell ⟨P, 0, none⟩ (.slice (some ⟨g7, 0, none⟩) (ll.length + 1) c7)) :=
        ((Agree.of_ext hb3).trans (hag7 _ fun k hk h => h.2 hk)).trans (.of_grown hset fun b hb e => by cases e; exact hb.1 rfl)
      have hd9 : Ints (fun b => w.heap.size ≤ b ∧ b ≠ g7) (w7.setCell ⟨P, 0, none⟩ (.slice (some ⟨g7, 0, none⟩) (ll.length + 1) c7)) (.slice a d.length cap) d := by
        refine (((((HD2.out.block 0).ext HQ3.out).agree ((hag7 (fun b => w.heap.size ≤ b) fun k hk h => by have := (hlt k hk).2; omega).mono fun b hb => hb.1)).agree (.of_grown hset fun b hb e => by cases e; omega)).mono fun b hb => ?_)
        have h31 := HQ3.out.size
        refine ⟨hb.1, fun e => ?_⟩
        rcases hat7 with h | h
        · have := (hlt g7 h).2; omega
        · omega
      have HFIN := Lib.hid (And.intro hO9 (And.intro hR9 (And.intro hBel (And.intro hAg hd9))))
      clear hO9 hR9 hBel hAg hd9 hset hown7 hbel7 hag7 hlt H7
      go_wp2
      refine bodyPost_ret (v := .tuple #[.slice a d.length cap, .bool true]) (by simp [results, Try.results68, go_sem]) rfl ?_
      rw [R.out]
      obtain ⟨hO9, hR9, hBel, hAg, hd9⟩ := HFIN.out
      exact ⟨_, rfl, hBel, _, _, _, _, rfl, hd9, hR9, hO9, hAg, by
        rcases hat7 with h | h
        · exact .inl h
        · exact .inr (by have := hb3.size; omega)⟩
end Go.Proofs.Ytifcgcdbebgahaa
