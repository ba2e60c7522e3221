/- The program's evaluator: its closures. -/
import Derived.Test.YthogcbffnbhalaaDoorExVal3
import Derived.Deep.RegionLawGrows
import Derived.Deep.AppendLies
namespace Go.Proofs.YthogcbffnbhalaaDoor
set_option linter.unusedVariables false
open Go.RowKit

def ptr (B : Nat) : Value := .pointer (some ⟨B, 0, none⟩)
/-- The variables that the evaluator's functions share. -/
structure Env (W : World) (B : Nat) (n : Int) (iv ov : Value) (h0 h1 h2 h3 h4 : Int) (vv : Value) : Prop where
  s : Row W B 28 [.int .i64 n, iv, ov, .int .i64 h0, .int .i64 h1, .int .i64 h2, .int .i64 h3, .int .i64 h4, vv]
  p : Row W (B + 1) 52 [.func (.func 42) #[] #[.pointer (some ⟨B, 0, none⟩)]]
  el : Row W (B + 2) 67 [.func (.func 43) #[] #[.pointer (some ⟨B + 1, 0, none⟩)]]
  ev : Row W (B + 3) 54 [.func (.func 45) #[] #[.pointer (some ⟨B + 4, 0, none⟩), .pointer (some ⟨B, 0, none⟩), .pointer (some ⟨B + 3, 0, none⟩), .pointer (some ⟨B + 2, 0, none⟩), .pointer (some ⟨B + 1, 0, none⟩)]]
  ct : Row W (B + 4) 54 [.func (.func 44) #[] #[.pointer (some ⟨B, 0, none⟩), .pointer (some ⟨B + 3, 0, none⟩)]]
theorem Env.ext {W W1 : World} {B : Nat} {n : Int} {iv ov : Value} {h0 h1 h2 h3 h4 : Int} {vv : Value} (h : Env W B n iv ov h0 h1 h2 h3 h4 vv) (hb : Below W.heap.size W W1) : Env W1 B n iv ov h0 h1 h2 h3 h4 vv :=
  ⟨h.s.ext hb, h.p.ext hb, h.el.ext hb, h.ev.ext hb, h.ct.ext hb⟩

theorem process_quiet {W : World} {B : Nat} {n : Int} (p : Int) (hc : W.cell? ⟨B, 0, none⟩ = some (.int .i64 n)) :
    Calls Tryd.prog 42 #[.int .i64 p, .pointer (some ⟨B, 0, none⟩)] W (QuietP W (.bool (decide (0 ≤ p) && decide (p < n)))) := by
  by_cases h0 : 0 ≤ p
  · have d0 : decide (0 ≤ p) = true := by simpa using h0
    rw [d0, Bool.true_and]
    go_enter Tryd.func42, Tryd.ntmps42
    go_wp2
    go_ret
    exact .of rfl 0
  · have d0 : decide (0 ≤ p) = false := by simpa using h0
    rw [d0, Bool.false_and]
    go_enter Tryd.func42, Tryd.ntmps42
    go_wp2
    go_ret
    exact .of rfl 0

set_option maxRecDepth 100000 in
theorem element_quiet {S : Nat → Prop} {W : World} {B : Nat} {n : Int} {v : Value} {l : List Int} (h : Ints S W v l) (p : Int) (hc : W.cell? ⟨B, 0, none⟩ = some (.int .i64 n))
    (hp : W.cell? ⟨B + 1, 0, none⟩ = some (.func (.func 42) #[] #[.pointer (some ⟨B, 0, none⟩)])) :
    Calls Tryd.prog 43 #[v, .int .i64 p, .pointer (some ⟨B + 1, 0, none⟩)] W (QuietP W (.int .i64 (atS l p n))) := by
  obtain ⟨a, cap, rfl, ha, _, hm, hci, _⟩ := h
  unfold maxLen at hm
  obtain ⟨i0, hi, hz0, hz1, hz2⟩ := info_parts info_int
  have hix := idx_one Tryd.underlying25 hi hz1 ha
  clear hi hz0 hz1 hz2
  have HP := Lib.hid (process_quiet (W := W) (B := B) (n := n) p hc)
  by_cases h0 : 0 ≤ p ∧ p < n
  · have d0 : (decide (0 ≤ p) && decide (p < n)) = true := by simpa using h0
    rw [d0] at HP
    by_cases h2 : (l.length : Int) ≤ p
    · have d2 : decide ((l.length : Int) ≤ p) = true := by simpa using h2
      have HR := Lib.hid (show atS l p n = -1 by unfold atS; rw [if_pos (by omega)])
      clear d0 hci hix
      go_enter Tryd.func43, Tryd.ntmps43
      go_wp2_with fail
      refine HP.out.mono ?_
      rintro _ _ ⟨rfl, m, rfl⟩
      go_wp2
      go_ret
      exact .of (int_eq HR.out.symm) m
    · have d2 : decide ((l.length : Int) ≤ p) = false := by simpa using h2
      have HR := Lib.hid (show atS l p n = nth l p.toNat by unfold atS; rw [if_neg (by omega)])
      obtain ⟨k, rfl⟩ : ∃ k : Nat, p = k := ⟨p.toNat, by omega⟩
      have q := hix k (by omega)
      have c0 := hci k (by omega)
      clear d0 hci hix h0
      go_enter Tryd.func43, Tryd.ntmps43
      go_wp2_with fail
      refine HP.out.mono ?_
      rintro _ _ ⟨rfl, m, rfl⟩
      go_wp2
      go_ret
      exact .of (int_eq HR.out.symm) m
  · have d0 : (decide (0 ≤ p) && decide (p < n)) = false := by simp; omega
    rw [d0] at HP
    have HR := Lib.hid (show atS l p n = -1 by unfold atS; rw [if_pos (by omega)])
    clear d0 hci hix
    go_enter Tryd.func43, Tryd.ntmps43
    go_wp2_with fail
    refine HP.out.mono ?_
    rintro _ _ ⟨rfl, m, rfl⟩
    go_wp2
    go_ret
    exact .of (int_eq HR.out.symm) m

set_option maxRecDepth 100000 in
set_option maxHeartbeats 2000000 in
theorem evCount_calls {S S3 : Nat → Prop} {W : World} {B : Nat} {x : Ex} {u vv : Value} {n : Int} (hu : ExprV S W x u) (s : Sc) (hs : ScOk s) (hn : s.n = n)
    (hB : W.cell? ⟨B, 0, none⟩ = some (.int .i64 n))
    (hE : W.cell? ⟨B + 3, 0, none⟩ = some (.func (.func 45) #[] #[.pointer (some ⟨B + 4, 0, none⟩), .pointer (some ⟨B, 0, none⟩), .pointer (some ⟨B + 3, 0, none⟩), .pointer (some ⟨B + 2, 0, none⟩), .pointer (some ⟨B + 1, 0, none⟩)]))
    {vs : List Int} (hvv : Ints S3 W vv vs) (hlen : vs.length ≤ 1000)
    (hf : ∀ p : Nat, (p : Int) < s.n → valE s x (vs ++ [(p : Int)]) = 0 ∨ valE s x (vs ++ [(p : Int)]) = 1)
    (ih : ∀ W' vv' (p : Nat), Below W.heap.size W W' → (p : Int) < n → Ints (fun _ => True) W' vv' (vs ++ [(p : Int)]) →
      Calls Tryd.prog 45 #[u, vv', .pointer (some ⟨B + 4, 0, none⟩), .pointer (some ⟨B, 0, none⟩), .pointer (some ⟨B + 3, 0, none⟩), .pointer (some ⟨B + 2, 0, none⟩), .pointer (some ⟨B + 1, 0, none⟩)] W' (Post W' fun _ r => r = .int .i64 (valE s x (vs ++ [(p : Int)])))) :
    Calls Tryd.prog 44 #[u, vv, .pointer (some ⟨B, 0, none⟩), .pointer (some ⟨B + 3, 0, none⟩)] W (Post W fun _ r => r = .int .i64 (ones s (valE s x) vs)) := by
  obtain ⟨a, cap, rfl, wo, wn, ad, l1, l2⟩ := hu.parts
  have hn0 := hs.n0
  have hn1 := hs.n1
  rw [hn] at hn0 hn1
  have HN := Lib.hid hn
  have HVV := hvv
  obtain ⟨va, vcap, rfl, vad, vl, vm, vc, vw⟩ := hvv
  unfold maxLen at vm
  have HF := Lib.hid (onesK_range s (valE s x) vs hf)
  have HF2 := Lib.hid hf
  clear hf hn
  have IH := Lib.hid ih
  clear ih
  have hb1 := World.block_lt_of_cell? W _ hB
  have hb2 := World.block_lt_of_cell? W _ hE
  obtain ⟨i0, hi, hz0, hz1, hz2⟩ := info_parts info_int
  go_enter Tryd.func44, Tryd.ntmps44
  go_wp2
  go_loopw [7, 11] (fun n' p wr => ∃ k : Nat, (k : Int) ≤ n ∧ p = .int .i64 k ∧ n' = .int .i64 (onesK s (valE s x) vs k) ∧ Below W.heap.size W wr ∧
      Row wr W.heap.size 24 [.int .i64 x.op, .int .i64 x.num, .slice a x.args.length cap]) (fun _ p _ => n.toNat - (intOf p).toNat)
  case atStart => exact ⟨0, by omega, rfl, rfl, ext_alloc W _, row_new _ _ _⟩
  case round =>
    obtain ⟨k, hk, rfl, rfl, hb, hR⟩ := hrel
    by_cases hlt : (k : Int) < n
    · have hlt' : decide ((k : Int) < n) = true := by simpa using hlt
      obtain ⟨e0, e1, e2⟩ := hR.three
      have hE2 := cell_ext hE hb
      have hlk : k < 10 := by omega
      go_wp2_with fail
      have HNONE := Lib.hid (show va = none → vs.length = 0 ∧ vs.length = 0 from fun h => by rcases vad with ⟨h1, _⟩ | ⟨b, off, h1, _⟩; exact ⟨h1, h1⟩; rw [h] at h1; cases h1)
      have HC := Lib.hid (fun W' (hW' : Below wr.heap.size wr W') => (show ∀ b, va = some b → ∀ j u, (vs.map (Value.int .i64))[j]? = some u → W'.cell? (b.add j) = some u from by
        intro b0 hb0 j u hj
        have hjl : j < vs.length := by have := (List.getElem?_eq_some_iff.1 hj).1; simpa using this
        have h1 := cells_at vad (ext_trans hb hW') vc j hjl
        rcases vad with ⟨h2, _⟩ | ⟨b1, off, h2, _⟩
        · omega
        · rw [h2] at h1 hb0
          cases hb0
          rw [adr_add] at h1
          rw [Addr.add_lit, h1, ← hj, List.getElem?_map, get?_nth hjl]; rfl))
      have HB1 := Lib.hid (show vs.length < vs.length + 1 by omega)
      have HB2 := Lib.hid (show vs.length + 1 ≤ maxLen by unfold maxLen; omega)
      have HB3 := Lib.hid (show (vs.length + 1) * 8 ≤ 140737488355328 by omega)
      have HONE := Lib.hid (show ∀ u ∈ [Value.int .i64 (k : Int)], u.oneCell' = true by simp [Value.oneCell'])
      have HWF := Lib.hid (show ∀ y ∈ vs ++ [(k : Int)], WF y from by intro y hy; rcases List.mem_append.1 hy with hy | hy; exact vw y hy; (obtain rfl : y = k := by simpa using hy); unfold WF; omega)
      have HR1 := HF.out k (by have := HN.out; omega)
      have HR2 := HF2.out k (by have := HN.out; omega)
      have IK := Lib.hid (fun W' base vv' (hW' : Below wr.heap.size wr W') (ho : W'.ownsRow base 3 1 vv' (vs.length + 1) (vs.map (Value.int .i64) ++ [.int .i64 (k : Int)])) => IH.out W' vv' k (ext_trans hb hW') hlt (Ints.of_own (l := vs ++ [(k : Int)]) (by rw [snoc_map]; exact ho) HWF.out).all)
      have HON := Lib.hid (onesK_succ s (valE s x) vs k)
      obtain ⟨z, hz⟩ : ∃ z, z = valE s x (vs ++ [(k : Int)]) := ⟨_, rfl⟩
      rw [← hz] at HR2 IK HON
      have hzz : 0 ≤ z ∧ z ≤ 1 := by omega
      obtain ⟨o, hoo⟩ : ∃ o, o = onesK s (valE s x) vs k := ⟨_, rfl⟩
      rw [← hoo] at HR1 HON ⊢
      obtain ⟨hzz0, hzz1⟩ := hzz
      obtain ⟨ho0, ho1⟩ := HR1
      clear hz hoo HR2
      have HOZ := Lib.hid (show IntKind.i64.wrap (o + z) = o + z from IntWalk.i64_in _ (by omega))
      have hrefl := Below.refl wr.heap.size wr
      have KEEP : ∀ W', Below wr.heap.size wr W' → (fun w' : World => w'.cell? ⟨W.heap.size, 0, none⟩ = some (.int .i64 x.op) ∧ w'.cell? ⟨W.heap.size, 1, none⟩ = some (.int .i64 x.num) ∧ w'.cell? ⟨W.heap.size, 2, none⟩ = some (.slice a x.args.length cap) ∧ w'.cell? ⟨B + 3, 0, none⟩ = some (.func (.func 45) #[] #[.pointer (some ⟨B + 4, 0, none⟩), .pointer (some ⟨B, 0, none⟩), .pointer (some ⟨B + 3, 0, none⟩), .pointer (some ⟨B + 2, 0, none⟩), .pointer (some ⟨B + 1, 0, none⟩)]) ∧ Below wr.heap.size wr w') W' := fun W' hW' => ⟨cell_ext e0 hW', cell_ext e1 hW', cell_ext e2 hW', cell_ext hE2 hW', hW'⟩
      have KEEP := Lib.hid KEEP
      go_region_held3 (fun w' : World => w'.cell? ⟨W.heap.size, 0, none⟩ = some (.int .i64 x.op) ∧ w'.cell? ⟨W.heap.size, 1, none⟩ = some (.int .i64 x.num) ∧ w'.cell? ⟨W.heap.size, 2, none⟩ = some (.slice a x.args.length cap) ∧ w'.cell? ⟨B + 3, 0, none⟩ = some (.func (.func 45) #[] #[.pointer (some ⟨B + 4, 0, none⟩), .pointer (some ⟨B, 0, none⟩), .pointer (some ⟨B + 3, 0, none⟩), .pointer (some ⟨B + 2, 0, none⟩), .pointer (some ⟨B + 1, 0, none⟩)]) ∧ Below wr.heap.size wr w')
        (first | (apply KEEP.out; first | assumption | (apply Below.drew; assumption) | (apply ext_alloc'; assumption) | (apply Below.drew; apply ext_alloc'; assumption) | (apply ext_alloc'; apply Below.drew; assumption)))
        (first
          | (refine step_append_grows (by rfl) _ _ _ (by rfl) 3 i0 _ 1 8 Tryd.underlying25 hi hz0 hz1 hz2 rfl (by omega) va vs.length vs.length (vs.map (Value.int .i64)) (by rfl) HNONE.out (by simp) (HC.out _ (by first | assumption | (apply Below.drew; assumption) | (apply ext_alloc'; assumption) | (apply Below.drew; apply ext_alloc'; assumption) | (apply ext_alloc'; apply Below.drew; assumption)))
              ⟨wr.heap.size, 0, none⟩ 1 1 [.int .i64 (k : Int)] (by rfl) (by rfl) (World.news_of_block (cs := #[.int .i64 (k : Int)]) (t := 3) (fr := (0, 0)) (heap_alloc_new wr _)) HONE.out HB1.out HB2.out HB3.out ?_; intro v' w1 hown1 hgrow1; have hbb : Below wr.heap.size wr w1 := Below.grown (by first | (apply Below.drew; apply ext_alloc'; assumption) | (apply ext_alloc'; apply Below.drew; assumption)) hgrow1 (by simp) (fun k hk => by cases hk))
          | (go_at_call 45; refine (IK.out w1 _ v' hbb hown1).mono ?_; rintro _ w5 ⟨_, rfl, hb5, rfl⟩; have hb2 : Below wr.heap.size wr w5 := ext_trans hbb hb5))
      go_wp2
      go_roundw
      case rel => exact ⟨k + 1, by omega, by go_num, by rw [HON.out, HOZ.out], ext_trans hb hb2, hR.ext hb2⟩
      case measure => simp [intOf]; omega
    · have hk' : k = n.toNat := by omega
      have HK := Lib.hid (show onesK s (valE s x) vs k = ones s (valE s x) vs by rw [hk', ← HN.out]; exact onesK_all s _ vs)
      have hge : decide ((k : Int) < n) = false := by simpa using hlt
      clear hk'
      go_wp2
      go_ret
      exact .mk hb (int_eq HK.out)
end Go.Proofs.YthogcbffnbhalaaDoor

