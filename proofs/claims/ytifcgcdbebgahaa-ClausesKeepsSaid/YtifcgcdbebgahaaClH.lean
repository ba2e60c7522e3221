/- The reference's propagation. -/
import Derived.Test.YtifcgcdbebgahaaClG
namespace Go.Proofs.Ytifcgcdbebgahaa
set_option linter.unusedVariables false
open Go.RowKit
attribute [local go_sem ↓] Go.wp_at_zero Go.wp_at_succ

/-- Two rows of ints of the call's own. -/
structure Two (base : Nat) (w : World) (v1 : Value) (l1 : List Int) (v2 : Value) (l2 : List Int) : Prop where
  o1 : w.ownsRow base 3 1 v1 l1.length (l1.map (Value.int .i64))
  o2 : w.ownsRow base 3 1 v2 l2.length (l2.map (Value.int .i64))
  ap : ∀ k, v1.ownBlock = some k → v2.ownBlock ≠ some k
theorem Two.nil (base : Nat) (w : World) : Two base w (.slice none 0 0) [] (.slice none 0 0) [] := ⟨World.ownsRow_nil _ _ _ _, World.ownsRow_nil _ _ _ _, fun k hk => by cases hk⟩
theorem Two.ext {base : Nat} {w w' : World} {v1 v2 : Value} {l1 l2 : List Int} (h : Two base w v1 l1 v2 l2) (hw : Below w.heap.size w w') : Two base w' v1 l1 v2 l2 := ⟨owns_ext h.o1 hw, owns_ext h.o2 hw, h.ap⟩
theorem Two.push1 {base : Nat} {w w' : World} {v1 v2 : Value} {l1 l2 : List Int} (h : Two base w v1 l1 v2 l2) {g c : Nat} {x : Int} (ho : w'.ownsRow base 3 1 (.slice (some ⟨g, 0, none⟩) (l1.length + 1) c) (l1.length + 1) (l1.map (Value.int .i64) ++ [.int .i64 x]))
    (hag : ∀ S : Nat → Prop, (∀ k, v1.ownBlock = some k → ¬ S k) → Agree S w w') (hat : v1.ownBlock = some g ∨ w.heap.size ≤ g) : Two base w' (.slice (some ⟨g, 0, none⟩) (l1 ++ [x]).length c) (l1 ++ [x]) v2 l2 := by
  refine ⟨by simpa using ho, owns_agree (S := fun b => v1.ownBlock ≠ some b) h.o2 (hag _ fun k hk h => h hk) (fun k hk e => h.ap k e hk), fun k hk => ?_⟩
  cases hk
  rcases hat with h1 | h1
  · exact h.ap g h1
  · intro e
    have := (h.o2.lt g e).2
    omega
theorem Two.push2 {base : Nat} {w w' : World} {v1 v2 : Value} {l1 l2 : List Int} (h : Two base w v1 l1 v2 l2) {g c : Nat} {x : Int} (ho : w'.ownsRow base 3 1 (.slice (some ⟨g, 0, none⟩) (l2.length + 1) c) (l2.length + 1) (l2.map (Value.int .i64) ++ [.int .i64 x]))
    (hag : ∀ S : Nat → Prop, (∀ k, v2.ownBlock = some k → ¬ S k) → Agree S w w') (hat : v2.ownBlock = some g ∨ w.heap.size ≤ g) : Two base w' v1 l1 (.slice (some ⟨g, 0, none⟩) (l2 ++ [x]).length c) (l2 ++ [x]) := by
  refine ⟨owns_agree (S := fun b => v2.ownBlock ≠ some b) h.o1 (hag _ fun k hk h => h hk) (fun k hk e => h.ap k hk e), by simpa using ho, fun k hk e => ?_⟩
  cases e
  rcases hat with h1 | h1
  · exact h.ap g hk h1
  · have := (h.o1.lt g hk).2
    omega

/-! the plain law -/
def openN (l : List (List Int)) (lits : List Int) : Nat := l.countP fun c => !trueP c lits
theorem trueP_iff {c lits : List Int} : trueP c lits = true ↔ ∃ x ∈ c, x ∈ lits := by
  unfold trueP
  rw [List.any_eq_true]
  exact ⟨fun ⟨x, h1, h2⟩ => ⟨x, h1, memB_iff.1 h2⟩, fun ⟨x, h1, h2⟩ => ⟨x, h1, memB_iff.2 h2⟩⟩
theorem countP_lt {α : Type} {p q : α → Bool} {l : List α} (h : ∀ x ∈ l, p x = true → q x = true) {a : α} (ha : a ∈ l) (h1 : q a = true) (h2 : p a = false) : l.countP p < l.countP q := by
  induction l with
  | nil => cases ha
  | cons y l ih =>
    have hm := List.countP_mono_left (p := p) (q := q) (l := l) fun x hx => h x (by simp [hx])
    rw [List.countP_cons, List.countP_cons]
    rcases List.mem_cons.1 ha with rfl | ha
    · rw [h1, h2]; simp; omega
    · have := ih (fun x hx => h x (by simp [hx])) ha
      have hy := h y (by simp)
      cases hp : p y with
      | false => simp; split <;> omega
      | true => rw [hy hp]; simp; omega
theorem stepFrom_spec {l : List (List Int)} {lits : List Int} : ∀ m k, l.length - k = m → (stepFrom l lits k = (-1, []) ∨ ∃ j, j < l.length ∧ trueP (nthL l j) lits = false ∧ stepFrom l lits k = ((j : Int), withoutP (nthL l j) lits)) := by
  intro m
  induction m with
  | zero => intro k hk; exact .inl (stepFrom_end (by omega))
  | succ m ih =>
    intro k hk
    have hlt : k < l.length := by omega
    cases ht : trueP (nthL l k) lits with
    | true => rw [stepFrom_true hlt ht]; exact ih (k + 1) (by omega)
    | false =>
      by_cases h2 : (withoutP (nthL l k) lits).length < 2
      · exact .inr ⟨k, hlt, ht, stepFrom_hit hlt ht h2⟩
      · rw [stepFrom_more hlt ht h2]; exact ih (k + 1) (by omega)
theorem step_open {l : List (List Int)} {lits : List Int} {x : Int} (h0 : 0 ≤ (stepP l lits).1) (h1 : (stepP l lits).2 = [x]) : openN l (lits ++ [x]) < openN l lits := by
  rcases stepFrom_spec (l := l) (lits := lits) _ 0 rfl with h | ⟨j, hj, ht, h⟩
  · unfold stepP at h0; rw [h] at h0; simp at h0
  · unfold stepP at h1
    rw [h] at h1
    have hx : x ∈ nthL l j := (List.mem_filter.1 (show x ∈ withoutP (nthL l j) lits by rw [show withoutP (nthL l j) lits = [x] from h1]; simp)).1
    refine countP_lt (fun c _ hc => ?_) (nthL_mem hj) (by rw [ht]; rfl) (by rw [show trueP (nthL l j) (lits ++ [x]) = true from trueP_iff.2 ⟨x, hx, by simp⟩]; rfl)
    cases hq : trueP c lits with
    | false => rfl
    | true =>
      obtain ⟨y, h1, h2⟩ := trueP_iff.1 hq
      rw [show trueP c (lits ++ [x]) = true from trueP_iff.2 ⟨y, h1, by simp [h2]⟩] at hc
      cases hc
def unitsN (l : List (List Int)) : Nat → List Int → List Int → (List Int × List Int) × Int
  | 0, lits, rs => ((lits, rs), (stepP l lits).1)
  | f + 1, lits, rs => if 0 ≤ (stepP l lits).1 ∧ (stepP l lits).2.length = 1 then unitsN l f (lits ++ (stepP l lits).2) (rs ++ [(stepP l lits).1]) else ((lits, rs), (stepP l lits).1)
def unitsP (l : List (List Int)) (assumed : List Int) : (List Int × List Int) × Int := unitsN l (l.length + 1) assumed (List.replicate assumed.length (-1))
theorem units_go {l : List (List Int)} {f : Nat} {lits rs : List Int} {i : Int} {x : Int} (hs : stepP l lits = (i, [x])) (h0 : 0 ≤ i) : unitsN l (f + 1) lits rs = unitsN l f (lits ++ [x]) (rs ++ [i]) := by
  rw [unitsN, hs, if_pos ⟨h0, rfl⟩]
theorem units_end {l : List (List Int)} {f : Nat} {lits rs : List Int} (h : ¬ (0 ≤ (stepP l lits).1 ∧ (stepP l lits).2.length = 1)) : unitsN l (f + 1) lits rs = ((lits, rs), (stepP l lits).1) := by
  rw [unitsN, if_neg h]
/-- What propagation leaves. -/
def PUnits (base : Nat) (t : (List Int × List Int) × Int) (w' : World) (r : Value) : Prop := ∃ a c b d, r = .tuple #[.slice a t.1.1.length c, .slice b t.1.2.length d, .int .i64 t.2] ∧ Ints (fun k => base ≤ k) w' (.slice a t.1.1.length c) t.1.1 ∧ Ints (fun k => base ≤ k) w' (.slice b t.1.2.length d) t.1.2
def lenOf : Value → Nat
  | .slice _ n _ => n
  | _ => 0

set_option maxRecDepth 100000 in
set_option maxHeartbeats 4000000 in
theorem refUnits_calls {S S' : Nat → Prop} {w : World} {va vb : Value} {l : List (List Int)} {x : List Int} (ha : Lists S w va l) (hb : Ints S' w vb x) (hl : l.length ≤ 100000) (hx : x.length ≤ 100000) (hn : ∀ r ∈ l, r.length ≤ 1000000) :
    Calls Try.prog 56 #[va, vb] w (Post w (PUnits w.heap.size (unitsP l x))) := by
  have hwf := hb.wf
  obtain ⟨a, cap, rfl, _⟩ := ha.form
  obtain ⟨b, bcap, rfl, bd, b1, bm, bc, _⟩ := hb
  unfold maxLen at bm
  obtain ⟨i0, hi, hz1, hz2, hz3⟩ := info_parts info_int
  have HQ := Lib.hid (idx_one Try.underlying25 hi hz2 bd)
  have HQZ := Lib.hid (fun (W : World) (a : Option Addr) (n cap : Nat) (h : Ad TT W a n cap) => idx_one Try.underlying25 hi hz2 h)
  have HBC := Lib.hid bc
  have HA := Lib.hid ha
  have HN := Lib.hid hn
  have HWF := Lib.hid hwf
  clear hi hz1 hz2 hz3 bc ha hn hwf
  go_enter Try.func56, Try.ntmps56
  go_wp2
  go_loopw [7, 8, 9] (fun v1 v2 i wr => ∃ k : Nat, k ≤ x.length ∧ i = .int .i64 k ∧ Below w.heap.size w wr ∧ Two w.heap.size wr v1 (x.take k) v2 (List.replicate k (-1))) (fun _ _ i _ => x.length - (intOf i).toNat)
  case atStart => exact ⟨0, Nat.zero_le _, rfl, .refl _ _, .nil _ _⟩
  case round =>
    obtain ⟨k, hk, rfl, hbr, hT⟩ := hrel
    by_cases hlt : k < x.length
    · have q := HQ.out k hlt
      have cx := cells_at bd hbr HBC.out k hlt
      have HTK := Lib.hid (take_nth hlt)
      have htl : (x.take k).length = k := by rw [List.length_take]; omega
      obtain ⟨y, hy⟩ : ∃ y, y = nth x k := ⟨_, rfl⟩
      rw [← hy] at cx HTK
      obtain ⟨l1, hl1⟩ : ∃ l1, l1 = x.take k := ⟨_, rfl⟩
      obtain ⟨l2, hl2⟩ : ∃ l2 : List Int, l2 = List.replicate k (-1) := ⟨_, rfl⟩
      have hln : l2.length = k := by rw [hl2]; simp
      rw [← hl1] at hT HTK htl
      rw [← hl2] at hT
      have HL2 : Hid (l2 ++ [-1] = List.replicate (k + 1) (-1)) := Lib.hid (by rw [hl2, List.replicate_succ'])
      have HT := Lib.hid hT
      have O1 := Lib.hid hT.o1
      have hs0 := hbr.size
      have n1 : l1.length ≤ 100000 := by omega
      have n2 : l2.length ≤ 100000 := by omega
      clear hy hl1 hl2 hT htl hln
      go_wp2_with (first
        | (at_builtin; refine wpList_push rfl (.tmp 18) (.tmp 23) 25 rfl 3 _ 8 Try.underlying25 info_int rfl w.heap.size _ _ _ rfl O1.out (.int .i64 y) rfl rfl (by omega) (by omega) hs0 ?_; intro g5 c5 w5 hown5 hbel5 hag5 hat5; have HT5 := Lib.hid (HT.out.push1 hown5 hag5 hat5); have O2 := Lib.hid HT5.out.o2; have hb5 := hbr.trans hbel5; have hs5 := hb5.size; clear hown5 hbel5 hag5 hat5)
        | (at_builtin; refine wpList_push rfl (.tmp 25) (.tmp 26) 25 rfl 3 _ 8 Try.underlying25 info_int rfl w.heap.size _ _ _ rfl O2.out (.int .i64 (-1)) rfl rfl (by omega) (by omega) hs5 ?_; intro g6 c6 w6 hown6 hbel6 hag6 hat6; have HT6 := Lib.hid (HT5.out.push2 hown6 hag6 hat6); have hb6 := hb5.trans hbel6; clear hown6 hbel6 hag6 hat6))
      rw [← HTK.out, HL2.out] at HT6
      have e1 : (x.take (k + 1)).length = l1.length + 1 := by rw [HTK.out]; simp
      have e2 : (List.replicate (k + 1) (-1 : Int)).length = l2.length + 1 := by rw [← HL2.out]; simp
      rw [e1, e2] at HT6
      clear e1 e2
      go_wp2
      go_roundw
      case rel => exact ⟨k + 1, by omega, by go_num, hb6, HT6.out⟩
      case measure => simp [intOf]; omega
    · obtain rfl : k = x.length := by omega
      rw [List.take_length] at hT
      obtain ⟨wo, hwo⟩ : ∃ wo : World, wo = wr := ⟨_, rfl⟩
      rw [← hwo] at hbr hT ⊢
      clear hwo
      obtain ⟨E, hE⟩ : ∃ E, E = unitsP l x := ⟨_, rfl⟩
      have HEP := Lib.hid hE.symm
      have HE0 : Hid (E = unitsN l (l.length + 1) x (List.replicate x.length (-1))) := Lib.hid hE
      obtain ⟨rs0, hrs0⟩ : ∃ rs0 : List Int, rs0 = List.replicate x.length (-1) := ⟨_, rfl⟩
      rw [← hrs0] at HE0 hT
      have hrl : rs0.length = x.length := by rw [hrs0]; simp
      have HWR : Hid (∀ y ∈ rs0, WF y) := Lib.hid (fun y hy => by rw [hrs0] at hy; rw [List.eq_of_mem_replicate hy]; exact WF.small (by omega))
      have I1 := Ints.of_own hT.o1 HWF.out
      have I2 := Ints.of_own hT.o2 HWR.out
      have hfr := hT
      obtain ⟨a1, c1, rfl, _⟩ := I1.form
      have hop : openN l x ≤ l.length := List.countP_le_length
      have hBz : x.length + openN l x ≤ x.length + l.length := by omega
      have hRz : rs0.length ≤ x.length + l.length := by omega
      have KS := Lib.hid (refStep_calls (HA.out.ext hbr) I1 HN.out)
      obtain ⟨⟨si, so⟩, hst⟩ : ∃ s, s = stepP l x := ⟨_, rfl⟩
      rw [← hst] at KS
      have HST := Lib.hid hst.symm
      clear hE hrs0 I1 I2 hfr hst
      have HTW := Lib.hid hT
      clear hT
      go_wp2_with fail
      refine KS.out.mono ?_
      rintro _ w2 ⟨_, rfl, hb2, a3, c3, rfl, hI3⟩
      dsimp only at hI3 ⊢
      have hbw := ext_trans hbr hb2
      have hT2 := HTW.out.ext hb2
      have I3 := Lib.hid (hI3.mono (S' := TT) fun _ _ => trivial)
      have HT2 := Lib.hid hT2
      clear hI3 KS HTW hT2 hb2 hbr
      go_wp2
      go_loopw [7, 8, 10, 11] (fun v1 v2 i v4 wr => ∃ (lits rs : List Int) (f : Nat) (si : Int) (so : List Int) (a4 : Option Addr) (c4 : Nat), i = .int .i64 si ∧ v4 = .slice a4 so.length c4 ∧ Below w.heap.size w wr ∧ Two w.heap.size wr v1 lits v2 rs ∧ Hid (stepP l lits = (si, so)) ∧ Ints TT wr (.slice a4 so.length c4) so ∧ Hid (E = unitsN l (f + 1) lits rs) ∧ openN l lits ≤ f ∧ lits.length + openN l lits ≤ x.length + l.length ∧ rs.length ≤ lits.length ∧ Hid (∀ y ∈ lits, WF y) ∧ Hid (∀ y ∈ rs, WF y)) (fun v1 _ _ _ _ => x.length + l.length + 1 - lenOf v1)
      case atStart => exact ⟨x, rs0, l.length, si, so, a3, c3, rfl, rfl, hbw, HT2.out, HST, I3.out, HE0, hop, hBz, by omega, HWF, HWR⟩
      case round =>
        clear HST HT2 I3 HE0 hop hBz hRz HWR hbw hrl
        obtain ⟨lits, rs, f, si, so, a4, c4, rfl, rfl, hbr, hT, HST, hI, HE, hop, hB, hR, HW1, HW2⟩ := hrel
        have I1 := Ints.of_own hT.o1 HW1.out
        have I2 := Ints.of_own hT.o2 HW2.out
        obtain ⟨a1, c1, rfl, _⟩ := I1.form
        obtain ⟨a2, c2, rfl, _⟩ := I2.form
        by_cases h0 : 0 ≤ si
        · by_cases h1 : so.length = 1
          · obtain ⟨y, rfl⟩ : ∃ y, so = [y] := by
              cases so with
              | nil => cases h1
              | cons y t => cases t with
                | nil => exact ⟨y, rfl⟩
                | cons z t => simp at h1
            have HO := Lib.hid (step_open (l := l) (lits := lits) (by rw [HST.out]; exact h0) (by rw [HST.out]))
            have HU := Lib.hid (units_go (rs := rs) (f := f) HST.out h0)
            have cy := ints_head hI (.refl _ _)
            have qy : ∀ W : World, (Instr.indexAt 25 (.slice a4 1 c4) (.int .i64 0)).run Try.prog W = .ok (.pointer (some (adr a4 0))) W := HQZ.out wr a4 1 c4 (ints_ad hI |>.mono fun _ _ => trivial) 0 (by decide)
            have wfy : WF y := hI.wf y (by simp)
            have HT := Lib.hid hT
            have O1 := Lib.hid hT.o1
            have hs0 := hbr.size
            have n1 : lits.length ≤ 200000 := by omega
            have n2 : rs.length ≤ 200000 := by omega
            have wfs : WF si := by
              rcases stepFrom_spec (l := l) (lits := lits) _ 0 rfl with h | ⟨j, hj, _, h⟩
              · have := HST.out; unfold stepP at this; rw [h] at this; injection this with this _; rw [← this]; exact WF.small (by omega)
              · have := HST.out; unfold stepP at this; rw [h] at this; injection this with this _; rw [← this]; exact WF.small (by omega)
            have HW1' : Hid (∀ z ∈ lits ++ [y], WF z) := Lib.hid (fun z hz => by rcases List.mem_append.1 hz with h | h; exact HW1.out z h; rw [List.mem_singleton.1 h]; exact wfy)
            have HW2' : Hid (∀ z ∈ rs ++ [si], WF z) := Lib.hid (fun z hz => by rcases List.mem_append.1 hz with h | h; exact HW2.out z h; rw [List.mem_singleton.1 h]; exact wfs)
            clear h1 hT I1 I2 hI
            go_wp2_with (first
              | (at_builtin; refine wpList_push rfl (.tmp 41) (.tmp 45) 25 rfl 3 _ 8 Try.underlying25 info_int rfl w.heap.size _ _ _ rfl O1.out (.int .i64 y) rfl rfl (by omega) (by omega) hs0 ?_; intro g5 c5 w5 hown5 hbel5 hag5 hat5; have HT5 := Lib.hid (HT.out.push1 hown5 hag5 hat5); have O2 := Lib.hid HT5.out.o2; have hb5 := hbr.trans hbel5; have hs5 := hb5.size; clear hown5 hbel5 hag5 hat5)
              | (at_builtin; refine wpList_push rfl (.tmp 47) (.tmp 49) 25 rfl 3 _ 8 Try.underlying25 info_int rfl w.heap.size _ _ _ rfl O2.out (.int .i64 si) rfl rfl (by omega) (by omega) hs5 ?_; intro g6 c6 w6 hown6 hbel6 hag6 hat6; have HT6 := Lib.hid (HT5.out.push2 hown6 hag6 hat6); have hb6 := hb5.trans hbel6; clear hown6 hbel6 hag6 hat6))
            have hs6 : openN l (lits ++ [y]) + 1 ≤ f := by have := HO.out; omega
            obtain ⟨f', rfl⟩ : ∃ f', f = f' + 1 := ⟨f - 1, by omega⟩
            obtain ⟨l1, hl1⟩ : ∃ l1, l1 = lits ++ [y] := ⟨_, rfl⟩
            obtain ⟨r1, hr1⟩ : ∃ r1, r1 = rs ++ [si] := ⟨_, rfl⟩
            have n1' : l1.length = lits.length + 1 := by rw [hl1]; simp
            have n2' : r1.length = rs.length + 1 := by rw [hr1]; simp
            have HOO := HO.out
            rw [← hl1] at HT6 HU hs6 HW1' HOO
            rw [← hr1] at HT6 HU HW2'
            rw [n1', n2'] at HT6
            have HE2 : Hid (E = unitsN l (f' + 1) l1 r1) := Lib.hid (HE.out.trans HU.out)
            have I1 := Ints.of_own (n1' ▸ HT6.out.o1) HW1'.out
            obtain ⟨⟨si', so'⟩, hst⟩ : ∃ s, s = stepP l l1 := ⟨_, rfl⟩
            have KS := Lib.hid (refStep_calls (HA.out.ext hb6) I1 HN.out)
            rw [← hst] at KS
            have HST' := Lib.hid hst.symm
            clear hl1 hr1 HO HU hst I1 HT HT5 O1 O2 HST HE HW1 HW2 hs5 hs0 cy qy hb5
            try rw [n1'] at KS
            go_wp2_with fail
            refine KS.out.mono ?_
            rintro _ w7 ⟨_, rfl, hb7, a3, c3, rfl, hI3⟩
            dsimp only at hI3 ⊢
            have hbw := ext_trans hb6 hb7
            have hT7 := HT6.out.ext hb7
            have I3 := Lib.hid (hI3.mono (S' := TT) fun _ _ => trivial)
            have HT7 := Lib.hid hT7
            clear hI3 KS HT6 hT7 hb7 hb6
            go_wp2
            go_roundw
            case rel => exact ⟨l1, r1, f', si', so', a3, c3, rfl, rfl, hbw, HT7.out, HST', I3.out, HE2, by omega, by omega, by omega, HW1', HW2'⟩
            case measure => simp [lenOf]; omega
          · have e2 : ((so.length : Int) == 1) = false := by simp; omega
            have HR := Lib.hid (HE.out.trans (units_end (by rw [HST.out]; exact fun h => h1 h.2)))
            have e3 : (E : _) = ((lits, rs), si) := by rw [HR.out, HST.out]
            clear hI HR
            have HTR := Lib.hid (And.intro e3 (And.intro I1 I2))
            clear I1 I2 hT e3
            go_wp2
            refine bodyPost_ret (v := .tuple #[.slice a1 lits.length c1, .slice a2 rs.length c2, .int .i64 si]) (by simp [results, Try.results56, go_sem]) rfl ?_
            rw [HEP.out, HTR.out.1]
            exact .mk hbr ⟨_, _, _, _, rfl, HTR.out.2.1, HTR.out.2.2⟩
        · have HR := Lib.hid (HE.out.trans (units_end (by rw [HST.out]; exact fun h => h0 h.1)))
          have e3 : (E : _) = ((lits, rs), si) := by rw [HR.out, HST.out]
          clear hI HR
          have HTR := Lib.hid (And.intro e3 (And.intro I1 I2))
          clear I1 I2 hT e3
          go_wp2
          refine bodyPost_ret (v := .tuple #[.slice a1 lits.length c1, .slice a2 rs.length c2, .int .i64 si]) (by simp [results, Try.results56, go_sem]) rfl ?_
          rw [HEP.out, HTR.out.1]
          exact .mk hbr ⟨_, _, _, _, rfl, HTR.out.2.1, HTR.out.2.2⟩
end Go.Proofs.Ytifcgcdbebgahaa
