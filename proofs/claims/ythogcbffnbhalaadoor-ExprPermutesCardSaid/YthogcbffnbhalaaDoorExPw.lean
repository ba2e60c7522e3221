/- Chapter 07: words for the walk of ExprPermutes. -/
import Derived.Test.YthogcbffnbhalaaDoorExPermB
import Derived.Test.YthogcbffnbhalaaDoorExNamed
import Derived.Test.YthogcbffnbhalaaDoorExVal1
import Derived.Test.YthogcbffnbhalaaDoorReg2
import Derived.Test.YthogcbffnbhalaaDoorExEval
namespace Go.Proofs.YthogcbffnbhalaaDoor
set_option linter.unusedVariables false
set_option linter.unusedSimpArgs false
open Go.RowKit

theorem Ints.form {S : Nat → Prop} {w : World} {v : Value} {l : List Int} (h : Ints S w v l) : ∃ a cap, v = .slice a l.length cap ∧ Ad S w a l.length cap ∧ l.length ≤ cap ∧ cap ≤ maxLen := by
  obtain ⟨a, cap, rfl, ha, h1, h2, _⟩ := h
  exact ⟨a, cap, rfl, ha, h1, h2⟩
theorem Ints.cellN {S : Nat → Prop} {w : World} {a : Option Addr} {c n : Nat} {l : List Int} (h : Ints S w (.slice a n c) l) {k : Nat} (hk : k < l.length) : w.cell? (adr a k) = some (.int .i64 (nth l k)) := by
  obtain ⟨_, _, he, ha, _, _, hc, _⟩ := h
  cases he
  exact hc k hk
theorem Ints.idx {S : Nat → Prop} {w : World} {a : Option Addr} {c n : Nat} {l : List Int} (h : Ints S w (.slice a n c) l) {k : Nat} (hk : k < l.length) (W : World) : (Instr.indexAt 25 (.slice a n c) (.int .i64 k)).run Tryd.prog W = .ok (.pointer (some (adr a k))) W := by
  obtain ⟨_, _, he, ad, _⟩ := h.form
  cases he
  obtain ⟨i0, hi, _, hz1, _⟩ := info_parts info_int
  exact idx_one Tryd.underlying25 hi hz1 ad k hk W
theorem idx_arr (b off : Nat) {p : Nat} (hp : p < 5) (W : World) :
    (Instr.indexAt 26 (.pointer (some ⟨b, off, none⟩)) (.int .i64 p)).run Tryd.prog W = .ok (.pointer (some ⟨b, off + p, none⟩)) W := by
  obtain ⟨i, hi, hz1, hz2, hz3⟩ := info_parts info_int
  have hA := Tryd.underlying26
  have hE : Tryd.prog.elem 26 = 3 := by simp [Program.elem, hA]
  have hL : Tryd.prog.arrayLen 26 = 5 := by simp [Program.arrayLen, hA]
  rw [run_indexAt_array W _ _ _ _ (by rw [hE, hL]; exact hA), hL, hE, if_pos (by omega)]
  simp [sizeOf, typeInfo, hi, hz2, Result.andThen, Addr.add]
theorem info_u8 : (Tryd.prog.info? 5).map (fun i => (i.zero, i.size, i.bytes)) = some (some (.int .u8 0), 1, 1) := by kernel_rfl
theorem idx_u8 (b : Nat) {p : Nat} (hp : p < 5) (W : World) :
    (Instr.indexAt 29 (.pointer (some ⟨b, 0, none⟩)) (.int .i64 p)).run Tryd.prog W = .ok (.pointer (some ⟨b, p, none⟩)) W := by
  obtain ⟨i, hi, hz1, hz2, hz3⟩ := info_parts info_u8
  have hA := Tryd.underlying29
  have hE : Tryd.prog.elem 29 = 5 := by simp [Program.elem, hA]
  have hL : Tryd.prog.arrayLen 29 = 5 := by simp [Program.arrayLen, hA]
  rw [run_indexAt_array W _ _ _ _ (by rw [hE, hL]; exact hA), hL, hE, if_pos (by omega)]
  simp [sizeOf, typeInfo, hi, hz2, Result.andThen, Addr.add]
  try omega
theorem idx_own (g n c : Nat) {k : Nat} (hk : k < n) (W : World) : (Instr.indexAt 25 (.slice (some ⟨g, 0, none⟩) n c) (.int .i64 k)).run Tryd.prog W = .ok (.pointer (some ⟨g, k, none⟩)) W := by
  obtain ⟨i, hi, _, h1, _⟩ := info_parts info_int
  rw [run_indexAt_slice W _ _ n c .i64 k (by have : Tryd.prog.elem 25 = 3 := by simp [Program.elem, Tryd.underlying25]
                                             rw [this]; exact Tryd.underlying25), if_pos (by omega)]
  simp [Program.elem, Tryd.underlying25, sizeOf, typeInfo, hi, h1, Result.andThen, Addr.add]
  try omega
theorem rowSet {w : World} {g : Nat} {t : TypeId} {l : List Int} (R : Row w g t (l.map (Value.int .i64))) (k : Nat) (x : Int) : Row (w.setCell ⟨g, k, none⟩ (.int .i64 x)) g t ((l.set k x).map (Value.int .i64)) := by
  rw [List.map_set]; exact R.set k _
theorem rowInt {w : World} {g : Nat} {t : TypeId} {l : List Int} (R : Row w g t (l.map (Value.int .i64))) {k : Nat} (h : k < l.length) : w.cell? ⟨g, k, none⟩ = some (.int .i64 (nth l k)) := R.cell (by rw [List.getElem?_map, get?_nth h]; rfl)
theorem bits_natP {a : Nat} (h : a < 4294967296) : (BitVec.ofInt 64 (a : Int)).toNat = a := by
  rw [BitVec.ofInt_natCast, BitVec.toNat_ofNat, Nat.mod_eq_of_lt (by omega)]
theorem or_natP {a b : Nat} (ha : a < 4294967296) (hb : b < 4294967296) : bits .or .i64 (a : Int) (b : Int) = ((a ||| b : Nat) : Int) := by
  have hx : a ||| b < 2 ^ 32 := Nat.or_lt_two_pow (by omega) (by omega)
  show IntKind.i64.wrap ((BitVec.ofInt 64 (a : Int) ||| BitVec.ofInt 64 (b : Int)).toNat : Int) = _
  rw [BitVec.toNat_or, bits_natP ha, bits_natP hb, IntKind.wrap_i64]
  omega
/-- A swap of two entries below n keeps a permutation. -/
theorem swap_take {L P : List Int} {n k j : Nat} (hL : n ≤ L.length) (h : (L.take n).Perm P) (hk : k < n) (hj : j < n) : (((L.set k (nth L j)).set j (nth L k)).take n).Perm P := by
  have e : ∀ i, i < n → nth (L.take n) i = nth L i := fun i hi => by simp [nth, hi]
  have hl : (L.take n).length = n := by rw [List.length_take]; omega
  have h1 := swap_perm (l := L.take n) (i := k) (k := j) (by omega) (by omega)
  rw [e k hk, e j hj] at h1
  rw [List.take_set, List.take_set]
  exact h1.trans h
theorem u8_at {x0 x1 x2 x3 x4 : Nat} (b0 : x0 < 256) (b1 : x1 < 256) (b2 : x2 < 256) (b3 : x3 < 256) (b4 : x4 < 256) {k : Nat} (hk : k < 5) : ∃ x : Nat, x < 256 ∧ ([.int .u8 (x0 : Int), .int .u8 (x1 : Int), .int .u8 (x2 : Int), .int .u8 (x3 : Int), .int .u8 (x4 : Int)] : List Value)[k]? = some (.int .u8 (x : Int)) := by
  match k, hk with
  | 0, _ => exact ⟨x0, b0, rfl⟩
  | 1, _ => exact ⟨x1, b1, rfl⟩
  | 2, _ => exact ⟨x2, b2, rfl⟩
  | 3, _ => exact ⟨x3, b3, rfl⟩
  | 4, _ => exact ⟨x4, b4, rfl⟩
theorem tmodP (a b : Nat) : Int.tmod (a : Int) (b : Int) = ((a % b : Nat) : Int) := rfl
theorem wrapBP (a : Nat) (h : a < 256) : IntKind.i64.wrap (a : Int) = a := by simp [IntKind.wrap, IntKind.bits, IntKind.signed]; omega
theorem Ints.boundP {S : Nat → Prop} {w : World} {v : Value} {l : List Int} (h : Ints S w v l) : Ints (fun b => S b ∧ b < w.heap.size) w v l := by
  obtain ⟨a, cap, rfl, ha, r⟩ := h
  exact ⟨a, cap, rfl, ha.imp id fun ⟨b, off, e, hb, hs⟩ => ⟨b, off, e, hb, hs, hb⟩, r⟩
/-- The cells of a scene. -/
def scC (n : Nat) (iv ov : Value) (H : List Int) (vv : Value) : List Value := [.int .i64 n, iv, ov] ++ H.map (Value.int .i64) ++ [vv]
theorem five {H : List Int} (h : H.length = 5) : ∃ a b c d e, H = [a, b, c, d, e] := by
  match H, h with
  | [a, b, c, d, e], _ => exact ⟨a, b, c, d, e, rfl⟩
theorem scC_at {n : Nat} {iv ov vv : Value} {H : List Int} (h : H.length = 5) {q : Nat} (hq : q < 5) : (scC n iv ov H vv)[3 + q]? = some (.int .i64 (nth H q)) := by
  obtain ⟨a, b, c, d, e, rfl⟩ := five h
  match q, hq with
  | 0, _ => rfl
  | 1, _ => rfl
  | 2, _ => rfl
  | 3, _ => rfl
  | 4, _ => rfl
theorem scC_set {n : Nat} {iv ov vv : Value} {H : List Int} (h : H.length = 5) {q : Nat} (hq : q < 5) (x : Int) : (scC n iv ov H vv).set (3 + q) (.int .i64 x) = scC n iv ov (H.set q x) vv := by
  obtain ⟨a, b, c, d, e, rfl⟩ := five h
  match q, hq with
  | 0, _ => rfl
  | 1, _ => rfl
  | 2, _ => rfl
  | 3, _ => rfl
  | 4, _ => rfl
theorem PermI.zero {s : Sc} {n : Nat} {pi : List Int} : PermI s n pi 0 (List.replicate n 0) (List.replicate n 0) [0, 0, 0, 0, 0] :=
  ⟨by simp, by simp, rfl, fun i hi => by omega, fun i hi => by omega, fun i hi => by omega, fun i _ _ => by
    match (nth pi i).toNat with
    | 0 => rfl
    | 1 => rfl
    | 2 => rfl
    | 3 => rfl
    | 4 => rfl
    | k + 5 => simp [nth]⟩
theorem set_same {H : List Int} {q : Nat} {x : Int} (h : nth H q = x) : H.set q x = H := by
  apply List.ext_getElem (by simp)
  intro i h1 h2
  by_cases e : q = i
  · subst e
    have : nth H q = H[q] := by simp [nth, h2]
    simp [← h, this]
  · rw [List.getElem_set_ne e]
theorem pi_at {L : List Int} {n : Nat} (hL : n ≤ L.length) (h : (L.take n).Perm ((List.range n).map fun k : Nat => (k : Int))) {p : Nat} (hp : p < n) : ∃ q : Nat, q < n ∧ nth L p = (q : Int) ∧ nth (L.take n) p = (q : Int) := by
  have e : nth (L.take n) p = nth L p := by simp [nth, hp]
  have hm : nth (L.take n) p ∈ L.take n := by
    simp only [nth, List.getElem?_eq_getElem (show p < (L.take n).length by rw [List.length_take]; omega), List.getD_eq_getElem?_getD, Option.getD_some]
    exact List.getElem_mem _
  obtain ⟨q, hq, e2⟩ := List.mem_map.1 (h.mem_iff.1 hm)
  exact ⟨q, List.mem_range.1 hq, by rw [← e, ← e2], e2.symm⟩
theorem perm_ranged {s : Sc} {n : Nat} {pi A B H : List Int} (h : PermI s n pi n A B H) (hp : pi.Perm ((List.range n).map fun k : Nat => (k : Int))) (h1 : s.inl.length = n) (h2 : s.outl.length = n) (hok : ScOk s) : (∀ x ∈ A, small x = true) ∧ (∀ x ∈ B, small x = true) := by
  constructor
  · intro x hx
    obtain ⟨i, hi, rfl⟩ := List.getElem_of_mem hx
    have hl := h.la
    obtain ⟨p, hpn, e⟩ := perm_onto hp (q := i) (by omega)
    have h3 := h.ia p hpn
    rw [e, Int.toNat_natCast] at h3
    have h4 : nth A i = A[i] := by simp [nth, hi]
    rw [← h4, h3]
    exact hok.inl _ (nth_mem (by omega))
  · intro x hx
    obtain ⟨i, hi, rfl⟩ := List.getElem_of_mem hx
    have hl := h.lb
    obtain ⟨p, hpn, e⟩ := perm_onto hp (q := i) (by omega)
    have h3 := h.ib p hpn
    rw [e, Int.toNat_natCast] at h3
    have h4 : nth B i = B[i] := by simp [nth, hi]
    rw [← h4, h3]
    exact hok.outl _ (nth_mem (by omega))
theorem eval_perm {s : Sc} {e : Ex} {n : Nat} {pi A B H : List Int} (h : PermI s n pi n A B H) (hp : pi.Perm ((List.range n).map fun k : Nat => (k : Int))) (h0 : 1 ≤ n) (h5 : n ≤ 5) (hn : s.n = (n : Int)) (h1 : s.inl.length = n) (h2 : s.outl.length = n) (hv : s.vars = []) (hok : ScOk s) (hb : scBad s = false) (hc : checkE e s.vars.length = 0) (hnm : namE e false = true) :
    evalE s e = (valE s e [], 0) ∧ evalE { n := n, inl := A, outl := B, hears := H, vars := [] } e = (valE s e [], 0) := by
  have hc0 : checkE e 0 = 0 := by rw [hv] at hc; exact hc
  obtain ⟨ra, rb⟩ := perm_ranged h hp h1 h2 hok
  have hb2 : scBad { n := n, inl := A, outl := B, hears := H, vars := [] } = false := by
    unfold scBad rangedB
    have e1 : A.all small = true := List.all_eq_true.2 ra
    have e2 : B.all small = true := List.all_eq_true.2 rb
    simp [e1, e2]
    omega
  constructor
  · unfold evalE
    rw [if_neg (by simp [hc]), if_neg (by simp [hb]), hv]
  · unfold evalE
    rw [if_neg (by simp [hc0]), if_neg (by simp [hb2]), val_perm (h.done hp h5 hn h1 h2) hc0 hnm]
/-- Three may come up. -/
theorem anyE_three {P : Program} {Q : Exit → Act → World → Prop} {md : Region.Mode} {S : World → Prop} {X : Nat → Bool} {l : List Oper} (i j k : Nat) {oi oj ok : Oper} {fuel : Nat} {listed : Array Bool} {a : Act} {w : World} (hi : l[i]? = some oi) (hj : l[j]? = some oj) (hk : l[k]? = some ok) (hr : Region.ready md l.toArray listed = [i, j, k])
    (h1 : ∀ K' : Act → World → Prop, Shut (∀ a w, (X i = false → S w) → ((X i = false → S w) → AnyE P md l.toArray Q S X fuel (listed.setIfInBounds i true) a w) → K' a w) → if Region.wanted oi (yielded l.toArray a.tmps) = true then Oper.wp P oi a w K' Q else K' (a.put oi.dst undef) w)
    (h2 : ∀ K' : Act → World → Prop, Shut (∀ a w, (X j = false → S w) → ((X j = false → S w) → AnyE P md l.toArray Q S X fuel (listed.setIfInBounds j true) a w) → K' a w) → if Region.wanted oj (yielded l.toArray a.tmps) = true then Oper.wp P oj a w K' Q else K' (a.put oj.dst undef) w)
    (h3 : ∀ K' : Act → World → Prop, Shut (∀ a w, (X k = false → S w) → ((X k = false → S w) → AnyE P md l.toArray Q S X fuel (listed.setIfInBounds k true) a w) → K' a w) → if Region.wanted ok (yielded l.toArray a.tmps) = true then Oper.wp P ok a w K' Q else K' (a.put ok.dst undef) w) :
    AnyE P md l.toArray Q S X (fuel + 1) listed a w := by
  refine ⟨fun h0 => (by rw [hr] at h0; cases h0), fun m hm => ?_⟩
  rw [hr] at hm
  have : m = i ∨ m = j ∨ m = k := by simpa using hm
  rcases this with rfl | rfl | rfl
  · exact wpOp_step (by simpa using hi) fun K' hK => h1 K' fun a w q1 q2 => hK a w ⟨q1, q2 q1⟩
  · exact wpOp_step (by simpa using hj) fun K' hK => h2 K' fun a w q1 q2 => hK a w ⟨q1, q2 q1⟩
  · exact wpOp_step (by simpa using hk) fun K' hK => h3 K' fun a w q1 q2 => hK a w ⟨q1, q2 q1⟩
end Go.Proofs.YthogcbffnbhalaaDoor
