/- The program's unit. -/
import Derived.Test.YtifcgcdbebgahaaClZ
namespace Go.Proofs.Ytifcgcdbebgahaa
set_option linter.unusedVariables false
open Go.RowKit
attribute [local go_sem ↓] Go.wp_at_zero Go.wp_at_succ

/-- What unit answers. -/
def unitS (l c : List Int) : Int × Bool × Bool := if trueP c l = true then (0, false, false) else match withoutP c l with
  | [] => (0, true, true)
  | [y] => (y, false, true)
  | _ => (0, false, false)
theorem unit_true {l c : List Int} (h : trueP c l = true) : unitS l c = (0, false, false) := by unfold unitS; rw [if_pos h]
theorem unit_many {l c : List Int} (h : 2 ≤ (withoutP c l).length) : unitS l c = (0, false, false) := by
  unfold unitS
  split
  · rfl
  · match hw : withoutP c l with
    | [] => rw [hw] at h; simp at h
    | [y] => rw [hw] at h; simp at h
    | _ :: _ :: _ => rfl
theorem without_take {l c : List Int} (k : Nat) : (withoutP (c.take k) l).length ≤ (withoutP c l).length := by
  unfold withoutP
  exact ((List.take_sublist k c).filter _).length_le
/-- The open literal so far. -/
def openL (o : Int) : List Int := if o = 0 then [] else [o]
theorem unit_end {l c : List Int} {o : Int} (h : trueP c l = false) (h2 : withoutP c l = openL o) : unitS l c = (o, o == 0, true) := by
  unfold unitS
  rw [if_neg (by rw [h]; simp), h2]
  unfold openL
  by_cases e : o = 0
  · rw [if_pos e, e]; rfl
  · rw [if_neg e]; simp [e]

set_option maxRecDepth 100000 in
set_option maxHeartbeats 4000000 in
theorem unit_quiet {S : Nat → Prop} {w : World} {b n : Nat} {cols : Int} {l c : List Int} {u : Value} (hm : MapV keyI w b (litV l) n) (hr : Ints S w u c) (hn : cols ≤ 100000) (hA : AOK cols l) (hg : ∀ y ∈ c, goodP cols y = true) :
    Calls Try.prog 55 #[.map (some b), u] w (QuietP w (.tuple #[.int .i64 (unitS l c).1, .bool (unitS l c).2.1, .bool (unitS l c).2.2])) := by
  obtain ⟨a, cap, rfl, ad, l1, lm, hc, hwf⟩ := hr
  unfold maxLen at lm
  obtain ⟨i, hi, hz1, hz2, hz3⟩ := info_parts info_int
  have HQ := Lib.hid (idx_one Try.underlying25 hi hz2 ad)
  have HC := Lib.hid hc
  obtain ⟨E, hE⟩ : ∃ E, E = unitS l c := ⟨_, rfl⟩
  rw [← hE]
  have HE := Lib.hid hE
  have HG := Lib.hid hg
  have HA := Lib.hid hA
  clear hc hE hwf hi hz1 hz2 hz3 hg hA
  go_enter Try.func55, Try.ntmps55
  go_wp2
  go_loopw [4, 11] (fun vo i wr => ∃ (k : Nat) (o : Int), k ≤ c.length ∧ i = .int .i64 k ∧ vo = .int .i64 o ∧ QW w wr ∧ Hid (∀ y ∈ c.take k, y ∉ l) ∧ Hid (withoutP (c.take k) l = openL o)) (fun _ i _ => c.length - (intOf i).toNat)
  case atStart => exact ⟨0, 0, Nat.zero_le _, rfl, rfl, .refl _, Lib.hid (by simp), Lib.hid rfl⟩
  case round =>
    obtain ⟨k, o, hk, rfl, rfl, hQ, hF, hO⟩ := hrel
    by_cases hlt : k < c.length
    · have q := HQ.out k hlt
      have cx := cells_at ad hQ.ext HC.out k hlt
      have hgx := HG.out _ (nth_mem hlt)
      have hmx := nth_mem hlt
      have HT := Lib.hid (without_succ (lits := l) hlt)
      have HTK := Lib.hid (take_nth hlt)
      obtain ⟨x, hx⟩ : ∃ x, x = nth c k := ⟨_, rfl⟩
      rw [← hx] at cx hgx hmx HT HTK
      have hwv := var_wf hn hgx
      have HVE := Lib.hid (val_eq hn HA.out hgx)
      have HVZ := Lib.hid (val_zero hn HA.out hgx)
      have HNW := Lib.hid (neg_wrap hn hgx)
      have hx0 : x ≠ 0 := (goodP_iff.1 hgx).1
      obtain ⟨v, hv⟩ : ∃ v, v = varP x := ⟨_, rfl⟩
      have HV := Lib.hid (fun W => (hv ▸ (variable_quiet W x).mono fun _ _ h => h.take : Calls Try.prog 43 #[.int .i64 x] W fun e W' => ∃ u, e = .returned u ∧ QW W W' ∧ u = .int .i64 v))
      rw [← hv] at hwv HVE HVZ
      obtain ⟨z, hz⟩ : ∃ z, z = valOf l v := ⟨_, rfl⟩
      have HZ : Hid ((litV l v).getD (.int .i64 0) = .int .i64 z) := Lib.hid (by rw [hz]; exact litV_get l v)
      rw [← hz] at HVE HVZ
      have HGX := Lib.hid hgx
      have HMX := Lib.hid hmx
      have HX0 := Lib.hid hx0
      clear hx hv hz hgx hmx hx0
      go_wp2_with fail
      refine (HV.out _).mono ?_
      rintro _ w2 ⟨_, rfl, hq2, rfl⟩
      have hQ2 := hQ.trans hq2
      have hM2 := hm.ext hQ2.ext
      clear cx hQ hq2
      by_cases h1 : z = x
      · have e1 : (z == x) = true := by simp [h1]
        have hxl : x ∈ l := memB_iff.1 (by rw [← HVE.out]; exact e1)
        have R : Hid (E = (0, false, false)) := Lib.hid (HE.out.trans (unit_true (trueP_iff.2 ⟨x, HMX.out, hxl⟩)))
        clear h1 hxl
        go_wp2_with (at_lookup; refine wpList_get rfl _ _ 72 rfl 3 Try.underlying72 (.int .i64 0) (zeroI _) rfl hM2 v rfl hwv (.int .i64 z) HZ.out ?_)
        refine bodyPost_ret (v := .tuple #[.int .i64 0, .bool false, .bool false]) (by simp [results, Try.results55, go_sem]) rfl ?_
        exact .fin (by rw [R.out]) hQ2
      have e1 : (z == x) = false := by simp [h1]
      have hxl : x ∉ l := fun h => by have := HVE.out; rw [memB_iff.2 h, e1] at this; cases this
      have HF2 : Hid (∀ y ∈ c.take (k + 1), y ∉ l) := Lib.hid (fun y hy => by
        rw [HTK.out] at hy
        rcases List.mem_append.1 hy with h | h
        · exact hF.out y h
        · rw [List.mem_singleton.1 h]; exact hxl)
      clear h1
      by_cases h2 : z = 0
      · have hnx : -x ∉ l := (HVZ.out.1 h2).2
        have HT2 : Hid (withoutP (c.take (k + 1)) l = openL o ++ [x]) := Lib.hid (by
          rw [HT.out, hO.out, if_neg (by rw [HNW.out]; intro h; exact hnx (memB_iff.1 h))])
        have e2 : (z == 0) = true := by simp [h2]
        clear h2 hxl hnx
        by_cases h3 : o = 0
        · have e3 : (o != 0) = false := by simp [h3]
          have HO2 : Hid (withoutP (c.take (k + 1)) l = openL x) := Lib.hid (by rw [HT2.out, h3]; unfold openL; rw [if_pos rfl, if_neg HX0.out]; rfl)
          clear h3 hO HT2
          go_wp2_with (at_lookup; refine wpList_get rfl _ _ 72 rfl 3 Try.underlying72 (.int .i64 0) (zeroI _) rfl hM2 v rfl hwv (.int .i64 z) HZ.out ?_)
          go_roundw
          case rel => exact ⟨k + 1, x, by omega, by go_num, rfl, hQ2, HF2, HO2⟩
          case measure => simp [intOf]; omega
        · have e3 : (o != 0) = true := by simp [h3]
          have R : Hid (E = (0, false, false)) := Lib.hid (HE.out.trans (unit_many (by have := without_take (l := l) (c := c) (k + 1); rw [HT2.out] at this; unfold openL at this; rw [if_neg h3] at this; simpa using this)))
          clear h3
          go_wp2_with (at_lookup; refine wpList_get rfl _ _ 72 rfl 3 Try.underlying72 (.int .i64 0) (zeroI _) rfl hM2 v rfl hwv (.int .i64 z) HZ.out ?_)
          refine bodyPost_ret (v := .tuple #[.int .i64 0, .bool false, .bool false]) (by simp [results, Try.results55, go_sem]) rfl ?_
          exact .fin (by rw [R.out]) hQ2
      · have e2 : (z == 0) = false := by simp [h2]
        have hnx : -x ∈ l := Classical.byContradiction fun h => h2 (HVZ.out.2 ⟨hxl, h⟩)
        have HO2 : Hid (withoutP (c.take (k + 1)) l = openL o) := Lib.hid (by
          rw [HT.out, hO.out, if_pos (by rw [HNW.out]; exact memB_iff.2 hnx), List.append_nil])
        clear h2 hO hxl hnx
        go_wp2_with (at_lookup; refine wpList_get rfl _ _ 72 rfl 3 Try.underlying72 (.int .i64 0) (zeroI _) rfl hM2 v rfl hwv (.int .i64 z) HZ.out ?_)
        go_roundw
        case rel => exact ⟨k + 1, o, by omega, by go_num, rfl, hQ2, HF2, HO2⟩
        case measure => simp [intOf]; omega
    · obtain rfl : k = c.length := by omega
      rw [List.take_length] at hF hO
      have R : Hid (E = (o, o == 0, true)) := Lib.hid (HE.out.trans (unit_end (by cases h : trueP c l with
        | false => rfl
        | true => obtain ⟨y, h1, h2⟩ := trueP_iff.1 h; exact absurd h2 (hF.out y h1)) hO.out))
      clear hF hO
      go_wp2
      refine bodyPost_ret (v := .tuple #[.int .i64 o, .bool (o == 0), .bool true]) (by simp [results, Try.results55, go_sem]) rfl ?_
      exact .fin (by rw [R.out]) hQ
end Go.Proofs.Ytifcgcdbebgahaa
