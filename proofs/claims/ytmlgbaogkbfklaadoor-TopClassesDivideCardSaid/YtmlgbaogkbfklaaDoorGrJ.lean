/- Products of graphs. -/
import Derived.Test.YtmlgbaogkbfklaaDoorGrI
namespace Go.Proofs.YtmlgbaogkbfklaaDoor
set_option linter.unusedVariables false
open Go.RowKit
attribute [local go_sem ↓] Go.wp_at_zero Go.wp_at_succ

theorem pprocs_quiet (w : World) : Calls Tryd.prog 39 #[.int .i64 5] w (QuietP w (.int .i64 0)) := by
  go_enter Tryd.func39, Tryd.ntmps39
  go_wp2
  go_ret
  exact .of rfl 0
theorem pcheck_quiet (w : World) {s : Nat} (hs : s < 32) : Calls Tryd.prog 77 #[.int .i64 5, .int .i64 s] w (QuietP w (.int .i64 0)) := by
  have K := Lib.hid fun W => ((pprocs_quiet W).mono fun _ _ h => h.take)
  have h5 : (s : Int) / 2 ^ Int.toNat 5 = 0 := by show (s : Int) / 32 = 0; omega
  have h6 : (s : Int) / 32 = 0 := by omega
  have h7 : (s : Int) / 2 ^ 5 = 0 := h6
  go_enter Tryd.func77, Tryd.ntmps77
  go_wp2_with fail
  refine (K.out _).mono ?_
  rintro _ w1 ⟨_, rfl, hq1, rfl⟩
  go_wp2
  go_ret
  exact .fin rfl hq1
set_option maxRecDepth 100000 in
theorem members_calls {w : World} (T : Tab w) {s : Nat} (hs : s < 32) : Calls Tryd.prog 75 #[.int .i64 5, .int .i64 s] w (Post w fun w' r => ∃ v, r = .tuple #[v, .int .i64 0] ∧ Ints (fun b => w.heap.size ≤ b) w' v (elemsI s)) := by
  have K1 := Lib.hid fun W => ((pcheck_quiet W hs).mono fun _ _ h => h.take)
  have K2 := Lib.hid fun W => elements_calls W s
  have KC := Lib.hid fun W (h : Below w.heap.size w W) => (collected_calls (w := W.alloc (.cells #[.int .i64 s] 3)) hs ((T.ext h).ext (ext_alloc _ _)) ((row_new W [.int .i64 s] 3).cell (j := 0) rfl) (by simp))
  clear T hs
  go_enter Tryd.func75, Tryd.ntmps75
  go_wp2_with fail
  refine (K1.out _).mono ?_
  rintro _ w1 ⟨_, rfl, hq1, rfl⟩
  go_wp2_with fail
  refine (K2.out _).mono ?_
  rintro _ _ ⟨rfl, rfl⟩
  go_wp2_with fail
  refine (KC.out _ hq1.ext).mono ?_
  rintro _ w3 ⟨v3, rfl, hb3, hI⟩
  have hx := ext_trans (ext_alloc' hq1.ext (.cells #[.int .i64 s] 3)) hb3
  obtain ⟨a3, c3, rfl, _⟩ := hI.form
  have hz := hq1.ext.size
  have HI := Lib.hid (hI.mono (S' := fun b => w.heap.size ≤ b) fun b hb => by have : (w1.alloc (.cells #[.int .i64 s] 3)).heap.size ≤ b := hb; simp at this; omega)
  clear hI K1 K2 KC
  go_wp2
  go_ret2
  exact .mk hx ⟨_, rfl, HI.out⟩
theorem gmembers_calls {w : World} (T : Tab w) {s : Nat} (hs : s < 32) : Calls Tryd.prog 68 #[.int .i64 s] w (Post w fun w' r => Ints (fun b => w.heap.size ≤ b) w' r (elemsI s)) := by
  have K := Lib.hid (members_calls T hs)
  clear T
  go_enter Tryd.func68, Tryd.ntmps68
  go_wp2_with fail
  refine K.out.mono ?_
  rintro _ w1 ⟨_, rfl, hb1, v, rfl, hI⟩
  obtain ⟨a3, c3, rfl, _⟩ := hI.form
  have HI := Lib.hid hI
  clear hI
  go_wp2
  go_ret
  exact .mk hb1 HI.out

/-- What the processes of a set hear together. -/
def orAll (h : Nat → Nat) (l : List Nat) : Nat := l.foldl (fun a m => a ||| h m) 0
theorem orAll_snoc (h : Nat → Nat) (l : List Nat) (m : Nat) : orAll h (l ++ [m]) = orAll h l ||| h m := by simp [orAll, List.foldl_append]
theorem orAll_lt {h : Nat → Nat} (l : List Nat) (hl : ∀ m ∈ l, h m < 32) : orAll h l < 32 := by
  have key : ∀ (l : List Nat) (a : Nat), a < 32 → (∀ m ∈ l, h m < 32) → l.foldl (fun a m => a ||| h m) a < 32 := by
    intro l
    induction l with
    | nil => intro a ha _; exact ha
    | cons m l ih =>
      intro a ha hl
      exact ih _ (Nat.or_lt_two_pow (n := 5) ha (hl m (by simp))) fun x hx => hl x (by simp [hx])
  exact key l 0 (by decide) hl
def gath (h : Nat → Nat) (s : Nat) : Nat := orAll h (elemsN s)
theorem nth_elems {s k : Nat} (hk : k < (elemsI s).length) : ∃ m : Nat, m < 5 ∧ nth (elemsI s) k = (m : Int) ∧ (elemsN s).take (k + 1) = (elemsN s).take k ++ [m] := by
  have hk2 : k < (elemsN s).length := by simpa [elemsI] using hk
  refine ⟨(elemsN s)[k], (mem_elems.1 (List.getElem_mem hk2)).1, ?_, (List.take_append_getElem hk2).symm⟩
  rw [nth_eq hk]
  simp [elemsI]
set_option maxRecDepth 100000 in
set_option maxHeartbeats 2000000 in
theorem gathered_calls {w : World} (T : Tab w) {n s : Nat} (hs : s < 32) {h : Nat → Nat} (hh : ∀ p, p < 5 → h p < 32) : Calls Tryd.prog 52 #[hV n h, .int .i64 s] w (Post w fun _ r => r = .int .i64 (gath h s)) := by
  unfold hV gV
  have ex := ext_alloc w (.cells #[.int .i64 n, .int .i64 (h 0), .int .i64 (h 1), .int .i64 (h 2), .int .i64 (h 3), .int .i64 (h 4)] 24)
  have rg := Row.graph w n fun p => (h p : Int)
  have K := Lib.hid (gmembers_calls (T.ext ex) hs)
  have HH := Lib.hid hh
  have HNE := Lib.hid fun k hk => nth_elems (s := s) (k := k) hk
  have HLT : Hid (∀ k, orAll h ((elemsN s).take k) < 32) := Lib.hid fun k => orAll_lt _ fun m hm => hh m (mem_elems.1 (List.mem_of_mem_take hm)).1
  have HLEN : Hid ((elemsI s).length = (elemsN s).length) := Lib.hid (by simp [elemsI])
  have hln := elemsI_len s
  obtain ⟨l, hl⟩ : ∃ l, l = elemsI s := ⟨_, rfl⟩
  rw [← hl] at K HNE HLEN hln
  have HSN := Lib.hid (orAll_snoc h)
  have HFIN : Hid (gath h s = orAll h ((elemsN s).take l.length)) := Lib.hid (by rw [HLEN.out, List.take_length]; rfl)
  have HZ : Hid (orAll h ((elemsN s).take 0) = 0) := Lib.hid rfl
  obtain ⟨gs, hgs⟩ : ∃ gs, gs = gath h s := ⟨_, rfl⟩
  rw [← hgs] at HFIN ⊢
  clear hgs T hh hl
  go_enter Tryd.func52, Tryd.ntmps52
  go_wp2_with fail
  refine K.out.mono ?_
  rintro _ w1 ⟨v1, rfl, hb1, hI⟩
  have R := rg.ext hb1
  have ex1 := ext_trans ex hb1
  obtain ⟨a, cap, rfl, ad, _⟩ := hI.form
  obtain ⟨i0, hi, hz0, hz1, hz2⟩ := info_parts info_int
  have HQ := Lib.hid (idx_one Tryd.underlying33 hi hz1 ad)
  have HC := Lib.hid hI
  clear K rg ex hb1 hI hi hz0 hz1 hz2 ad
  go_wp2
  go_loopw [5, 7, 11] (fun o _ i wr => ∃ k z : Nat, k ≤ l.length ∧ i = .int .i64 k ∧ o = .int .i64 z ∧ Hid (z = orAll h ((elemsN s).take k)) ∧ QW w1 wr) (fun _ _ i _ => l.length - (intOf i).toNat)
  case atStart => exact ⟨0, 0, Nat.zero_le _, rfl, rfl, Lib.hid HZ.out.symm, .refl _⟩
  case round =>
    obtain ⟨k, z, hk, rfl, rfl, HZK, hQ⟩ := hrel
    by_cases hlt : k < l.length
    · have q := HQ.out k hlt
      have ck := (HC.out.ext hQ.ext)
      have ck2 : wr.cell? (adr a k) = some (.int .i64 (nth l k)) := by
        obtain ⟨a0, cap0, e, _, _, _, hc, _⟩ := ck
        simp only [Value.slice.injEq] at e
        obtain ⟨rfl, _, _⟩ := e
        exact hc k hlt
      obtain ⟨m, hm5, hm, hmt⟩ := HNE.out k hlt
      rw [hm] at ck2
      have q2 := idx_five w.heap.size hm5
      have c2 := (R.ext hQ.ext).hear hm5
      have hzl : z < 32 := by rw [HZK.out]; exact HLT.out k
      have hhl := HH.out m hm5
      have HO := Lib.hid (or_nat (a := z) (b := h m) (by omega) (by omega))
      have HN : Hid (z ||| h m = orAll h ((elemsN s).take (k + 1))) := Lib.hid (by rw [hmt, HSN.out, HZK.out])
      clear ck hm hmt
      go_wp2
      go_roundw
      case rel => exact ⟨k + 1, z ||| h m, by omega, by go_num, int_eq HO.out, HN, hQ⟩
      case measure => simp [intOf]; omega
    · obtain rfl : k = l.length := by omega
      have HE : Hid (z = gs) := Lib.hid (by rw [HZK.out, HFIN.out])
      have hx := ext_trans ex1 hQ.ext
      go_wp2
      go_ret
      exact .mk hx (by rw [HE.out]; rfl)

set_option maxRecDepth 100000 in
set_option maxHeartbeats 2000000 in
theorem product1_calls {w : World} (T : Tab w) {A B n : Nat} {h h' : Nat → Nat} (RA : Row w A 24 (gC n fun p => (h p : Int))) (RB : Row w B 24 (gC n fun p => (h' p : Int))) {p : Nat} (hp : p < 5) (hs : ∀ p, p < 5 → h p < 32) (hs' : h' p < 32) :
    Calls Tryd.prog 51 #[.int .i64 p, .pointer (some ⟨A, 0, none⟩), .pointer (some ⟨B, 0, none⟩)] w (Post w fun _ r => r = .int .i64 ((gath h (h' p) : Nat) : Int)) := by
  have KG := Lib.hid fun W (hW : Below w.heap.size w W) => gathered_calls (w := W) (n := n) (T.ext hW) hs' hs
  unfold hV gV at KG
  have qb := idx_five B hp
  obtain ⟨y, hy⟩ : ∃ y, y = gath h (h' p) := ⟨_, rfl⟩
  rw [← hy] at KG ⊢
  obtain ⟨x, hx⟩ : ∃ x, x = h' p := ⟨_, rfl⟩
  rw [← hx] at KG
  have HX := Lib.hid hx
  clear hx hy hs hs' T
  go_enter Tryd.func51, Tryd.ntmps51
  go_wp2_with fail
  refine region_E (fun w9 : World => Row w9 A 24 (gC n fun p => (h p : Int)) ∧ Row w9 B 24 (gC n fun p => (h' p : Int))) (fun i => false) (by kernel_rfl) ?_ (fun hHeld => ?_)
  · exact ⟨RA.ext (drewN_below _ _ 1), RB.ext (drewN_below _ _ 1)⟩
  refine anyE_take 0 (v := ?_) rfl (by kernel_rfl) (fun _ _ _ h => h) (by rfl) ?hy0 hHeld ?rest0
  case hy0 => (intro w9 hSw; (try dsimp only at hSw); obtain ⟨hS1, hS2⟩ := hSw; obtain ⟨d0, d1, d2, d3, d4, d5⟩ := hS1.six; have dh := hS2.hear hp; (try rw [← HX.out] at dh); clear hS1 hS2; go_simp; try with_reducible rfl)
  try simp only [Act.put, List.setIfInBounds_toArray, List.set_cons_zero, List.set_cons_succ]
  refine anyE_take 1 (v := ?_) rfl (by kernel_rfl) (fun _ _ _ h => h) (by rfl) ?hy1 hHeld ?rest1
  case hy1 => (intro w9 hSw; (try dsimp only at hSw); obtain ⟨hS1, hS2⟩ := hSw; obtain ⟨d0, d1, d2, d3, d4, d5⟩ := hS1.six; have dh := hS2.hear hp; (try rw [← HX.out] at dh); clear hS1 hS2; go_simp; try with_reducible rfl)
  try simp only [Act.put, List.setIfInBounds_toArray, List.set_cons_zero, List.set_cons_succ]
  refine anyE_take 2 (v := ?_) rfl (by kernel_rfl) (fun _ _ _ h => h) (by rfl) ?hy2 hHeld ?rest2
  case hy2 => (intro w9 hSw; (try dsimp only at hSw); obtain ⟨hS1, hS2⟩ := hSw; obtain ⟨d0, d1, d2, d3, d4, d5⟩ := hS1.six; have dh := hS2.hear hp; (try rw [← HX.out] at dh); clear hS1 hS2; go_simp; try with_reducible rfl)
  try simp only [Act.put, List.setIfInBounds_toArray, List.set_cons_zero, List.set_cons_succ]
  refine anyE_take 3 (v := ?_) rfl (by kernel_rfl) (fun _ _ _ h => h) (by rfl) ?hy3 hHeld ?rest3
  case hy3 => (intro w9 hSw; (try dsimp only at hSw); obtain ⟨hS1, hS2⟩ := hSw; obtain ⟨d0, d1, d2, d3, d4, d5⟩ := hS1.six; have dh := hS2.hear hp; (try rw [← HX.out] at dh); clear hS1 hS2; go_simp; try with_reducible rfl)
  try simp only [Act.put, List.setIfInBounds_toArray, List.set_cons_zero, List.set_cons_succ]
  refine anyE_take 4 (v := ?_) rfl (by kernel_rfl) (fun _ _ _ h => h) (by rfl) ?hy4 hHeld ?rest4
  case hy4 => (intro w9 hSw; (try dsimp only at hSw); obtain ⟨hS1, hS2⟩ := hSw; obtain ⟨d0, d1, d2, d3, d4, d5⟩ := hS1.six; have dh := hS2.hear hp; (try rw [← HX.out] at dh); clear hS1 hS2; go_simp; try with_reducible rfl)
  try simp only [Act.put, List.setIfInBounds_toArray, List.set_cons_zero, List.set_cons_succ]
  refine anyE_one 5 rfl (by kernel_rfl) (fun K hK => ?_)
  go_simp; go_at_call 52; refine (KG.out _ (drewN_below _ _ 1)).mono ?_; rintro _ w5 ⟨_, rfl, hb5, rfl⟩
  have hbb := ext_trans (drewN_below _ _ 1) hb5; have RA := RA.ext hbb; have RB := RB.ext hbb; clear hb5
  refine hK.out _ _ (fun _ => ⟨RA, RB⟩) (fun hHeld => ?_); replace hHeld := hHeld rfl
  clear hK K
  try simp only [Act.put, List.setIfInBounds_toArray, List.set_cons_zero, List.set_cons_succ]
  refine anyE_take 6 (v := ?_) rfl (by kernel_rfl) (fun _ _ _ h => h) (by rfl) ?hy6 hHeld ?rest6
  case hy6 => (intro w9 hSw; go_simp; try with_reducible rfl)
  try simp only [Act.put, List.setIfInBounds_toArray, List.set_cons_zero, List.set_cons_succ]
  refine anyE_done (by kernel_rfl) ?_ _
  go_wp2
  go_ret
  exact .mk hbb rfl
end Go.Proofs.YtmlgbaogkbfklaaDoor
