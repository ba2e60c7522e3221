/- slices.Clone, slices.Repeat at rows of ints. -/
import Derived.Test.YtifcgcdbebgahaaClZa
import Derived.Test.YtifcgcdbebgahaaClSh
import Derived.Laws.CopyOwn
import Derived.Lib.SliceRun
namespace Go.Proofs.Ytifcgcdbebgahaa
set_option linter.unusedVariables false
open Go.RowKit
attribute [local go_sem ↓] Go.wp_at_zero Go.wp_at_succ

/-- A new row of the call's own. -/
def OwnInts (base : Nat) (l : List Int) (w' : World) (r : Value) : Prop := w'.ownsRow base 3 1 r l.length (l.map (Value.int .i64))
set_option maxRecDepth 100000 in
set_option maxHeartbeats 1000000 in
theorem cloneI_calls {S : Nat → Prop} {w : World} {v : Value} {l : List Int} (h : Ints S w v l) (hn : l.length ≤ 1000000) :
    Calls Try.prog 53 #[v] w (Post w (OwnInts w.heap.size l)) := by
  obtain ⟨a, cap, rfl, ad, l1, l2⟩ := h.form
  cases a with
  | none =>
    have h0 : l.length = 0 ∧ cap = 0 := by
      rcases ad with h | ⟨b, off, e, _⟩
      · exact h
      · cases e
    obtain ⟨h0, rfl⟩ := h0
    obtain rfl : l = [] := List.length_eq_zero_iff.1 h0
    clear h ad l1 l2 h0
    have hn1 := @Lib.run_eql_slice_nil Try.prog w 25 3 none 0 0 0 0 Try.underlying25
    go_enter Try.func53, Try.ntmps53
    go_wp2
    go_ret
    exact .mk (.refl _ _) (World.ownsRow_nil _ _ _ _)
  | some x =>
    have ex := ext_alloc w (.cells #[] 3)
    have hown0 := (row_new w [] 3).owns (base := w.heap.size) (Nat.le_refl _) (by simp [maxLen])
    have OW := Lib.hid hown0
    have I := Lib.hid (h.ext ex)
    have B1 : Hid ((0 + l.length) * 8 ≤ 140737488355328) := Lib.hid (by omega)
    clear hown0 h ad
    have hn1 := @Lib.run_eql_slice_nil Try.prog w 25 3 (some x) l.length cap 0 0 Try.underlying25
    go_enter Try.func53, Try.ntmps53
    go_wp2_with (at_builtin; refine wpList_appendAll rfl (.tmp 5) (.tmp 6) 25 rfl 3 _ 8 Try.underlying25 info_int rfl w.heap.size (.slice (some ⟨w.heap.size, 0, none⟩) 0 0) 0 [] rfl OW.out S (some x) l.length cap (l.map (Value.int .i64)) rfl (ints_ad I.out) (by simp) (ints_cells I.out (.refl _ _)) (oneCell_ints l) B1.out (by omega) (by simp) ?_; intro v3 w3 hown3 hb3 hag3 hv3)
    rw [Nat.zero_add, List.nil_append] at hown3
    have hbb : Below w.heap.size w w3 := ex.trans hb3
    have HO := Lib.hid hown3
    clear hown3 hag3 hv3 hb3
    go_wp2
    go_ret
    exact .mk hbb HO.out

theorem mul_quiet (w : World) (n : Nat) (hn : n ≤ 100000) : Calls Try.prog 74 #[.int .u64 1, .int .u64 n] w (QuietP w (.tuple #[.int .u64 0, .int .u64 n])) := by
  refine (Try.bits_Mul 1 n (by omega) (by omega) w).mono ?_
  rintro _ _ ⟨rfl, rfl⟩
  rw [show 1 * n / 18446744073709551616 = 0 by omega, show 1 * n % 18446744073709551616 = n by omega]
  exact .same
theorem info_int1 : (Try.prog.info? 3).map (·.size) = some 1 := by kernel_rfl
theorem splice_rep {y z : Value} {k n m : Nat} (h : k + m ≤ n) : splice (List.replicate k y ++ List.replicate (n - k) z) k (List.replicate m y) = List.replicate (k + m) y ++ List.replicate (n - (k + m)) z := by
  unfold splice
  have e1 : (List.replicate k y ++ List.replicate (n - k) z).take k = List.replicate k y := by
    rw [List.take_append_of_le_length (by simp)]; exact List.take_of_length_le (by simp)
  have e2 : (List.replicate k y ++ List.replicate (n - k) z).drop (k + m) = List.replicate (n - (k + m)) z := by
    rw [List.drop_append]
    simp only [List.length_replicate]
    rw [List.drop_eq_nil_of_le (by simp), List.nil_append, List.drop_replicate]
    congr 1
    omega
  rw [List.length_replicate, e1, e2, ← List.append_assoc, List.replicate_append_replicate]

set_option maxRecDepth 100000 in
set_option maxHeartbeats 4000000 in
theorem repeat_calls {S : Nat → Prop} {w : World} {v : Value} {y : Int} (h : Ints S w v [y]) (n : Nat) (hn : n ≤ 100000) :
    Calls Try.prog 54 #[v, .int .i64 n] w (Post w (OwnInts w.heap.size (List.replicate n y))) := by
  obtain ⟨a, cap, rfl, ad, l1, l2⟩ := h.form
  simp only [List.length_cons, List.length_nil, Nat.zero_add] at h ad l1 ⊢
  obtain ⟨pb, po, rfl⟩ : ∃ b o, a = some ⟨b, o, none⟩ := by
    rcases ad with ⟨h0, _⟩ | ⟨b, off, rfl, _⟩
    · cases h0
    · exact ⟨b, off, rfl⟩
  have hcy := ints_head h (.refl _ _)
  rw [adr_add, Nat.add_zero] at hcy
  obtain ⟨i0, hi, hz0, hz1, hz2⟩ := info_parts info_int
  have HCY := Lib.hid hcy
  have KM := Lib.hid ((mul_quiet w n hn).mono fun _ _ h => h.take)
  have hi0 : IntKind.u64.wrap (n : Int) = n := by rw [IntKind.wrap_u64]; omega
  have hi1 : IntKind.i64.wrap (n : Int) = n := IntWalk.i64_in _ (by omega)
  clear h ad l1 l2 hcy
  go_enter Try.func54, Try.ntmps54
  go_wp2_with fail
  refine KM.out.mono ?_
  rintro _ w1 ⟨_, rfl, hq1, rfl⟩
  have hx1 := hq1.ext
  have hcy := Lib.hid (cell_ext HCY.out hx1)
  clear KM hq1 HCY
  have hs1 := hx1.size
  obtain ⟨g, hg⟩ : ∃ g, g = w1.heap.size := ⟨_, rfl⟩
  have HG := Lib.hid hg
  have hmc : Hid ((madeCells #[Value.int .i64 0] (n * 1)).toList = List.replicate n (.int .i64 0)) := Lib.hid (by rw [Nat.mul_one]; exact (toList_madeCells_one _ _))
  have hm0 : min 1 n ≤ n := Nat.min_le_right _ _
  obtain ⟨c0, hc0⟩ : ∃ c0, c0 = List.replicate (min 1 n) (Value.int .i64 y) := ⟨_, rfl⟩
  have HC0 := Lib.hid hc0
  have hcl0 : c0.length = min 1 n := by rw [hc0]; simp
  have HCS : Hid (∀ j v, c0[j]? = some v → v = .int .i64 y ∧ j = 0) := Lib.hid (fun j v hj => by
    rw [hc0, List.getElem?_replicate] at hj
    split at hj
    · injection hj with hj; exact ⟨hj.symm, by omega⟩
    · cases hj)
  have HC1 : Hid (∀ v ∈ c0, v.oneCell' = true) := Lib.hid (fun v hv => by rw [hc0] at hv; rw [List.eq_of_mem_replicate hv]; rfl)
  have hn0 : c0.length = Nat.min 1 n := hcl0
  have hgs : w.heap.size ≤ g := by omega
  obtain ⟨r0, hr0⟩ : ∃ r0, r0 = List.replicate n (Value.int .i64 0) := ⟨_, rfl⟩
  have HR0 := Lib.hid hr0
  have hrl0 : r0.length = n := by rw [hr0]; simp
  rw [← hr0] at hmc
  clear hc0 hr0 hg
  go_wp2_with (first
    | (at_make; refine wpList_make_full _ rfl _ _ 25 rfl w.heap.size 3 i0 (.int .i64 0) 1 Try.underlying25 hi hz0 hz1 .i64 .i64 _ _ n rfl rfl rfl rfl (by rw [hz2]; omega) (by unfold maxLen; omega) hx1.size ?_; intro w2 hown2 hgrow2; have HR2 := Lib.hid ((Row.of_own hown2).1.get hmc.out); rw [← HG.out] at HR2; have hx2 := hx1.grown hgrow2 hs1 (fun j hj => by cases hj); have hcy2 := Lib.hid (cell_ext hcy.out ((Below.refl _ w1).grown hgrow2 (Nat.le_refl _) (fun j hj => by cases hj))); clear hown2 hgrow2)
    | (refine wpList_copy_splice rfl (.tmp 31) (.tmp 32) 25 25 rfl 3 Try.underlying25 info_int1 _ _ n n 1 cap rfl rfl g 0 r0 3 HR2.out c0 hn0 (fun _ => ⟨by rw [HG.out], _, rfl, fun j v hj => by obtain ⟨rfl, rfl⟩ := HCS.out j v hj; exact hcy2.out⟩) (by omega) HC1.out w.heap.size w hx2 hgs ?_; intro w3 hR3 hb3))
  have hR3' := Lib.hid (show Row w3 g 3 (List.replicate (min 1 n) (.int .i64 y) ++ List.replicate (n - min 1 n) (.int .i64 0)) from by
    have h := hR3.out
    rw [HC0.out, HR0.out] at h
    have e := splice_rep (y := Value.int .i64 y) (z := Value.int .i64 0) (k := 0) (n := n) (m := min 1 n) (by omega)
    simp only [List.replicate_zero, List.nil_append, Nat.sub_zero, Nat.zero_add] at e
    rw [e] at h
    exact h)
  rw [← HG.out]
  obtain ⟨k0, hk0⟩ : ∃ k0, k0 = min 1 n := ⟨_, rfl⟩
  rw [← hk0] at hR3' hm0 ⊢
  have hkz : k0 = 0 → n = 0 := by omega
  clear hR3 hk0 hcl0 hn0 HCS HC1 HC0 HR0 hrl0 hmc hx1 hs1
  go_loopw [8] (fun i wr => ∃ k : Nat, k ≤ n ∧ i = .int .i64 k ∧ (k = 0 → n = 0) ∧ Below w.heap.size w wr ∧ Row wr g 3 (List.replicate k (.int .i64 y) ++ List.replicate (n - k) (.int .i64 0))) (fun i _ => n - (intOf i).toNat)
  case atStart => exact ⟨k0, hm0, rfl, hkz, hb3, hR3'.out⟩
  case round =>
    obtain ⟨k, hk, rfl, hkz, hbd, hRd⟩ := hrel
    by_cases hlt : k < n
    · have hk1 : 0 < k := by omega
      have hE : Try.prog.elem 25 = 3 := by simp [Program.elem, Try.underlying25]
      have hs1 : ∀ W : World, (Instr.slice 25 (.slice (some ⟨g, 0, none⟩) n n) (some (.int .i64 k)) none none).run Try.prog W = .ok (.slice (some ⟨g, k, none⟩) (n - k) (n - k)) W := fun W => by
        rw [run_slice_l (w := W) _ _ _ _ (by rw [hE]; exact Try.underlying25) .i64 k (by omega) (by omega), hE]
        simp [sizeOf, typeInfo, hi, hz1, Result.andThen, sliced, show n ≠ k by omega, Addr.add]
        try omega
      have hs2 : ∀ W : World, (Instr.slice 25 (.slice (some ⟨g, 0, none⟩) n n) none (some (.int .i64 k)) none).run Try.prog W = .ok (.slice (some ⟨g, 0, none⟩) k n) W := fun W => by
        rw [run_slice_h (w := W) _ _ _ _ (by rw [hE]; exact Try.underlying25) .i64 k (by omega) (by omega), hE]
        simp [sizeOf, typeInfo, hi, hz1, Result.andThen, sliced, show n ≠ 0 by omega, Addr.add]
        try omega
      obtain ⟨m, hm⟩ : ∃ m, m = min k (n - k) := ⟨_, rfl⟩
      obtain ⟨cs, hcs⟩ : ∃ cs, cs = List.replicate m (Value.int .i64 y) := ⟨_, rfl⟩
      have hcl : cs.length = m := by rw [hcs]; simp
      have HCN : Hid (cs.length = Nat.min k (n - k)) := Lib.hid (hcl.trans hm)
      obtain ⟨rr, hrr⟩ : ∃ rr, rr = List.replicate k (Value.int .i64 y) ++ List.replicate (n - k) (Value.int .i64 0) := ⟨_, rfl⟩
      have HCS : Hid (∀ W, Row W g 3 rr → ∀ j v, cs[j]? = some v → W.cell? ((⟨g, 0, none⟩ : Addr).add j) = some v) := Lib.hid (fun W hW j v hj => by
        have hjm : j < m := by rw [← hcl]; exact (List.getElem?_eq_some_iff.1 hj).1
        rw [Addr.add_lit, Nat.zero_add]
        refine hW.cell ?_
        rw [hrr, List.getElem?_append_left (show j < (List.replicate k (Value.int .i64 y)).length by rw [List.length_replicate]; omega), List.getElem?_replicate, if_pos (by omega)]
        rw [hcs, List.getElem?_replicate, if_pos hjm] at hj
        exact hj)
      have HFT : Hid (k + cs.length ≤ rr.length) := Lib.hid (by rw [hcl, hrr]; simp; omega)
      have HC1 : Hid (∀ v ∈ cs, v.oneCell' = true) := Lib.hid (fun v hv => by rw [hcs] at hv; rw [List.eq_of_mem_replicate hv]; rfl)
      have HSP : Hid (splice rr k cs = List.replicate (k + m) (Value.int .i64 y) ++ List.replicate (n - (k + m)) (Value.int .i64 0)) := Lib.hid (by rw [hrr, hcs]; exact splice_rep (by omega))
      have HCL := Lib.hid hcl
      have hmk : k + m ≤ n := by omega
      have hm1 : 0 < m := by omega
      rw [← hrr] at hRd
      have hRr := Lib.hid hRd
      have hwr : IntKind.i64.wrap ((k : Int) + (m : Int)) = (k : Int) + m := IntWalk.i64_in _ (by omega)
      clear hm hcs hrr hRd hcl
      go_wp2
      rw [← HCL.out] at hwr
      refine region_E (fun _ : World => True) (fun i => false) (by kernel_rfl) ?_ (fun hHeld => ?_)
      · trivial
      refine anyE_take 0 (v := ?_) rfl (by kernel_rfl) (fun _ _ _ h => h) (by rfl) ?hy0 hHeld ?rest0
      case hy0 => (intro w hSw; (try dsimp only at hSw); go_simp; try with_reducible rfl)
      try simp only [Act.put, List.setIfInBounds_toArray, List.set_cons_zero, List.set_cons_succ]
      refine anyE_take 1 (v := ?_) rfl (by kernel_rfl) (fun _ _ _ h => h) (by rfl) ?hy1 hHeld ?rest1
      case hy1 => (intro w hSw; (try dsimp only at hSw); go_simp; try with_reducible rfl)
      try simp only [Act.put, List.setIfInBounds_toArray, List.set_cons_zero, List.set_cons_succ]
      refine anyE_take 2 (v := ?_) rfl (by kernel_rfl) (fun _ _ _ h => h) (by rfl) ?hy2 hHeld ?rest2
      case hy2 => (intro w hSw; (try dsimp only at hSw); go_simp; try with_reducible rfl)
      try simp only [Act.put, List.setIfInBounds_toArray, List.set_cons_zero, List.set_cons_succ]
      refine anyE_take 3 (v := ?_) rfl (by kernel_rfl) (fun _ _ _ h => h) (by rfl) ?hy3 hHeld ?rest3
      case hy3 => (intro w hSw; (try dsimp only at hSw); go_simp; try with_reducible rfl)
      try simp only [Act.put, List.setIfInBounds_toArray, List.set_cons_zero, List.set_cons_succ]
      refine anyE_take 4 (v := ?_) rfl (by kernel_rfl) (fun _ _ _ h => h) (by rfl) ?hy4 hHeld ?rest4
      case hy4 => (intro w hSw; (try dsimp only at hSw); go_simp; try with_reducible rfl)
      try simp only [Act.put, List.setIfInBounds_toArray, List.set_cons_zero, List.set_cons_succ]
      refine anyE_take 5 (v := ?_) rfl (by kernel_rfl) (fun _ _ _ h => h) (by rfl) ?hy5 hHeld ?rest5
      case hy5 => (intro w hSw; (try dsimp only at hSw); go_simp; try with_reducible rfl)
      try simp only [Act.put, List.setIfInBounds_toArray, List.set_cons_zero, List.set_cons_succ]
      refine anyE_take 6 (v := ?_) rfl (by kernel_rfl) (fun _ _ _ h => h) (by rfl) ?hy6 hHeld ?rest6
      case hy6 => (intro w hSw; (try dsimp only at hSw); go_simp; try with_reducible rfl)
      try simp only [Act.put, List.setIfInBounds_toArray, List.set_cons_zero, List.set_cons_succ]
      refine anyE_one 7 rfl (by kernel_rfl) (fun K hK => ?_)
      (refine step_copy_splice rfl (.tmp 41) (.tmp 44) 25 25 rfl 3 Try.underlying25 info_int1 (some ⟨g, k, none⟩) (some ⟨g, 0, none⟩) (n - k) (n - k) k n (by rfl) (by rfl) g k rr 3 hRr.out cs HCN.out (fun _ => ⟨rfl, _, rfl, HCS.out _ hRr.out⟩) HFT.out HC1.out w.heap.size w (ext_drewN hbd 1) hgs ?_; intro w5 hR5 hb5)
      refine hK.out _ _ (fun _ => trivial) (fun hHeld => ?_); replace hHeld := hHeld rfl
      clear hK K
      try simp only [Act.put, List.setIfInBounds_toArray, List.set_cons_zero, List.set_cons_succ]
      refine anyE_take 8 (v := ?_) rfl (by kernel_rfl) (fun _ _ _ h => h) (by rfl) ?hy8 hHeld ?rest8
      case hy8 => (intro w hSw; (try dsimp only at hSw); go_simp; try with_reducible rfl)
      try simp only [Act.put, List.setIfInBounds_toArray, List.set_cons_zero, List.set_cons_succ]
      refine anyE_take 9 (v := ?_) rfl (by kernel_rfl) (fun _ _ _ h => h) (by rfl) ?hy9 hHeld ?rest9
      case hy9 => (intro w hSw; (try dsimp only at hSw); go_simp; try with_reducible rfl)
      try simp only [Act.put, List.setIfInBounds_toArray, List.set_cons_zero, List.set_cons_succ]
      refine anyE_done (by kernel_rfl) ?_ _
      have hRn := hR5.out
      rw [HSP.out] at hRn
      have HRN := Lib.hid hRn
      clear hRn hR5
      go_wp2
      go_roundw
      case rel => exact ⟨k + m, hmk, by simp [HCL.out], by omega, hb5, HRN.out⟩
      case measure =>
        have h1 := HCL.out
        simp only [intOf, h1, goInt]
        omega
    · obtain rfl : k = n := by omega
      have hR' := Lib.hid (show Row wr g 3 ((List.replicate k y).map (Value.int .i64)) from by simpa using hRd)
      have hO := Lib.hid (hR'.out.owns (base := w.heap.size) hgs (by simp [maxLen]; omega))
      clear hRd hR'
      go_wp2
      go_ret
      refine .mk hbd ?_
      have := hO.out
      unfold OwnInts
      simpa using this
end Go.Proofs.Ytifcgcdbebgahaa
