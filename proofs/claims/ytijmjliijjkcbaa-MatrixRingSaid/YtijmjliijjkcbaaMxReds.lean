/- The reference's echelon form: its walk. Printed by red05.py. -/
import Derived.Test.YtijmjliijjkcbaaMxRedA
import Derived.Test.YtijmjliijjkcbaaReg2
import Derived.Test.YtijmjliijjkcbaaMxPlus
import Derived.Test.YtijmjliijjkcbaaMxAwake
namespace Go.Proofs.Ytijmjliijjkcbaa
set_option linter.unusedVariables false
open Go.RowKit
attribute [local go_sem ↓] Go.wp_at_zero Go.wp_at_succ

theorem idx_rows {g cp n : Nat} (k : Nat) (hk : k < n) (W : World) : (Instr.indexAt 22 (.slice (some ⟨g, 0, none⟩) n cp) (.int .i64 k)).run Try.prog W = .ok (.pointer (some ⟨g, k, none⟩)) W := by
  obtain ⟨i, hi, _, h1, _⟩ := info_parts info_ints
  have hE : Try.prog.elem 22 = 38 := by simp [Program.elem, Try.underlying22]
  rw [run_indexAt_slice W 22 _ n cp .i64 k (by rw [hE]; exact Try.underlying22), if_pos (by omega), hE]
  simp [sizeOf, typeInfo, hi, h1, Result.andThen, Addr.add]
  exact fun h => h.symm

theorem step_appendAll {P : Program} {ops : Array Oper} {o : Oper} {a : Act} {w : World} {K : Act → World → Prop} {Q : Exit → Act → World → Prop} {E : Prop} (hgd : o.guard = none) (s x : Operand) (t : TypeId)
    (ho : o.op = .call { callee := .builtin .append, args := #[s, x], argTypes := #[t, t] }) (e : TypeId) (z : Value) (bytes : Nat) (ht : P.underlying t = some (.slice e))
    (hinfo : (P.info? e).map (fun i => (i.zero, i.size, i.bytes)) = some (some z, 1, bytes)) (hz1 : z.cells.size = 1) (base : Nat) (v : Value) (n : Nat) (xs : List Value) (hs : a.eval s = v) (hown : w.ownsRow base e 1 v n xs)
    (S : Nat → Prop) (ad : Option Addr) (m c : Nat) (news : List Value) (hx : a.eval x = .slice ad m c) (had : Ad S w ad m c) (hl : news.length = m) (hcell : ∀ j, j < m → w.cell? (adr ad j) = some (news.getD j undef)) (h1 : ∀ u ∈ news, u.oneCell' = true)
    (hbytes : (n + m) * bytes ≤ 140737488355328) (hn : n + m ≤ 9223372036854775807) (hbase : base ≤ w.heap.size)
    (h : ∀ v' w', w'.ownsRow base e 1 v' (n + m) (xs ++ news) → Below base w w' → (∀ S : Nat → Prop, (∀ k, v.ownBlock = some k → ¬ S k) → Agree S w w') → (∀ k, v'.ownBlock = some k → v.ownBlock = some k ∨ w.heap.size ≤ k) → K (a.put o.dst v') w') :
    if Region.wanted o (yielded ops a.tmps) = true then Oper.wp P o a w K Q else E := by
  have hw : Region.wanted o (yielded ops a.tmps) = true := by simp [Region.wanted, hgd]
  rw [if_pos hw]
  obtain ⟨i, hi, hz, hz2, hz3⟩ := info_parts hinfo
  have hlt := hown.lt
  have fin : ∀ x : Addr, ad = some x → (∀ j u, news[j]? = some u → w.cell? (x.add j) = some u) → o.wp P a w K Q := by
    intro x he hx2
    obtain ⟨v', w', hr, h2, h3, h4⟩ := run_append_own' (P := P) w base t o.type e i z 1 bytes ht hi hz hz2 hz3 hz1 (by decide) v n xs hown x m c news (by omega) hx2 h1 (by unfold maxLen; omega) hbytes hbase
    rw [he] at hx
    unfold Oper.wp
    simp [execOp, ho, resolve, invoke, builtin, hs, hx, hr, Result.andThen]
    exact h v' w' h2 ((Below.refl _ _).grown h3 hbase (fun k hk => (hlt k hk).1)) (fun S hS => .of_grown h3 (fun k hk e1 => hS k e1 hk)) h4
  rcases had with ⟨rfl, rfl⟩ | ⟨b, off, rfl, hb, hS⟩
  · have hn0 : news = [] := List.eq_nil_of_length_eq_zero hl
    cases ad with
    | some x => exact fin x rfl (fun j u hj => by rw [hn0] at hj; simp at hj)
    | none =>
      have hrun := run_append_owned_none (P := P) w base t o.type e i 1 ht hi v n xs hown
      unfold Oper.wp
      simp [execOp, ho, resolve, invoke, builtin, hs, hx, hrun, Result.andThen]
      exact h v w (by rw [hn0]; simpa using hown) (.refl _ _) (fun S _ => .refl _ _) (fun k hk => .inl hk)
  · refine fin _ rfl (fun j u hj => ?_)
    have hjm : j < m := by rw [← hl]; exact (List.getElem?_eq_some_iff.1 hj).1
    have := hcell j hjm
    rw [adr_add] at this
    rw [Addr.add_lit, this, List.getD_eq_getElem?_getD, hj]
    rfl

set_option maxRecDepth 100000 in
set_option maxHeartbeats 8000000 in
theorem reduced_calls {S : Nat → Prop} {w : World} {va : Value} {m : Mx} (ha : MatV S w va m) (hm : MOk m) :
    Calls Try.prog 49 #[va] w (Post w fun w' r => MatV (fun b => S b ∨ w.heap.size ≤ b) w' r ⟨m.cols, rowsE m⟩) := by
  obtain ⟨cols, ll⟩ := m
  obtain ⟨ra, rfl, la⟩ := ha
  obtain ⟨aa, acap, rfl, aad, al1, alm⟩ := la.form
  dsimp only at la al1 aad ⊢
  unfold maxLen at alm
  have hc0 : 0 ≤ cols := hm.c0
  have hc1 : cols ≤ 4096 := hm.c1
  have hr1 : ll.length ≤ 4096 := hm.r1
  have HM := Lib.hid hm
  clear hm
  obtain ⟨vs0, hv0, hvc, hvr, hv1⟩ := la.vals
  obtain ⟨C, rfl⟩ : ∃ C : Nat, cols = C := ⟨cols.toNat, by omega⟩
  have ex : Below w.heap.size w ((w.alloc (.cells #[.int .i64 C, .slice aa ll.length acap] 24)).alloc (.cells #[.int .i64 0, .slice none 0 0] 24)) := ext_alloc' (ext_alloc w _) _
  have r0 := (row_new w [.int .i64 C, .slice aa ll.length acap] 24).alloc (.cells #[.int .i64 0, .slice none 0 0] 24)
  have r1 := row_new (w.alloc (.cells #[.int .i64 C, .slice aa ll.length acap] 24)) [.int .i64 0, .slice none 0 0] 24
  simp only [World.size_alloc] at r1
  obtain ⟨q0, q1⟩ := r0.two
  have B2 : Hid ((0 + ll.length) * 24 ≤ 140737488355328) := Lib.hid (by omega)
  have AD := Lib.hid (aad.agree (.of_ext ex))
  have HCL : Hid (∀ j, j < ll.length → ((w.alloc (.cells #[.int .i64 C, .slice aa ll.length acap] 24)).alloc (.cells #[.int .i64 0, .slice none 0 0] 24)).cell? (adr aa j) = some (vs0.getD j undef)) := Lib.hid (fun j hj => (aad.cell (.of_ext ex) hj).trans (hvc j hj))
  have HV1 := Lib.hid hv1
  have HVR : Hid (RefsV (fun b => S b ∧ b < w.heap.size) ((w.alloc (.cells #[.int .i64 C, .slice aa ll.length acap] 24)).alloc (.cells #[.int .i64 0, .slice none 0 0] 24)) vs0 ll) := Lib.hid ⟨hvr.1, fun j hj => ((hvr.2 j hj).block 0).ext ex⟩
  have HV0 := Lib.hid hv0
  clear hv0 hvc hvr hv1 aad
  go_enter Try.func49, Try.ntmps49
  go_wp2_with (at_builtin; refine wpList_appendAll rfl (.tmp 9) (.tmp 11) 22 rfl 38 _ 24 Try.underlying22 info_ints rfl (w.heap.size + 2) (.slice none 0 0) 0 [] rfl (World.ownsRow_nil _ _ _ _) S aa ll.length acap vs0 rfl AD.out HV0.out HCL.out HV1.out B2.out (by omega) (by simp) ?_; intro rv w2 hown2 hbel2 hag2 hat2)
  have hb2 : Below w.heap.size w w2 := ex.trans (hbel2.mono (by omega))
  have hz2 : w.heap.size + 2 ≤ w2.heap.size := by have := hbel2.size; simpa using this
  have R0 := r0.agree (S := fun b => b = w.heap.size) (.of_below hbel2 fun b hb _ => by omega) rfl
  have R1 := r1.agree (S := fun b => b = w.heap.size + 1) (.of_below hbel2 fun b hb _ => by omega) rfl
  have hV : RedV (fun b => b + 1 ≠ w.heap.size + 2 ∧ (S b ∨ w.heap.size ≤ b)) (w.heap.size + 2) w2 rv ll.length vs0 (nthL ll) := by
    refine ⟨by simpa using hown2, by rw [rowsF_len]; exact HVR.out.1, fun j hj => ?_⟩
    rw [rowsF_len] at hj
    rw [rowsF_nth hj]
    refine ((HVR.out.2 j hj).agree (hag2 _ fun k hk => by cases hk)).mono fun b hb => ⟨fun e => ?_, by omega, .inl hb.1⟩
    rcases hat2 b e with h | h
    · cases h
    · simp at h; omega
  have HI : Hid (RInv ⟨C, ll⟩ 0 0 (nthL ll)) := Lib.hid (.start HM.out)
  have HVV := Lib.hid hV
  clear hown2 hbel2 hag2 hat2 AD HCL HV1 HVR HV0 r0 r1 q0 q1 ex hV
  go_wp2
  go_loopw [4, 5, 6, 7] (fun i4 i5 _ _ wr => ∃ (n c : Nat) (vs : List Value) (F : Nat → List Int), c ≤ C ∧ n ≤ ll.length ∧ i4 = .int .i64 n ∧ i5 = .int .i64 c ∧ Below w.heap.size w wr ∧ w.heap.size + 2 ≤ wr.heap.size ∧ Row wr w.heap.size 24 [.int .i64 C, .slice aa ll.length acap] ∧ Row wr (w.heap.size + 1) 24 [.int .i64 0, .slice none 0 0] ∧ RedV (fun b => b + 1 ≠ w.heap.size + 2 ∧ (S b ∨ w.heap.size ≤ b)) (w.heap.size + 2) wr rv ll.length vs F ∧ Hid (RInv ⟨C, ll⟩ c n F)) (fun _ i5 _ _ _ => C - (intOf i5).toNat)
  case atStart => exact ⟨0, 0, vs0, nthL ll, by omega, by omega, rfl, rfl, hb2, hz2, R0, R1, HVV.out, HI⟩
  case round =>
    obtain ⟨n, c, vs, F, hc, hn, rfl, rfl, hb, hz, R0, R1, hV, hI⟩ := hrel
    obtain ⟨q0, q1⟩ := R0.two
    by_cases hlt : c < C
    · have KV := Lib.hid (pivot_calls hV.lists n (by rw [rowsF_len]; exact hn) (c : Int))
      have HVw := Lib.hid hV
      clear hV
      go_wp2_with fail
      refine KV.out.mono ?_
      rintro _ w3 ⟨_, rfl, hb3, z, rfl, hz3⟩
      have hbw := ext_trans hb hb3
      have hzw := Nat.le_trans hz hb3.size
      have R0 := R0.ext hb3
      have R1 := R1.ext hb3
      have hV := HVw.out.ext hb3
      clear KV q0 q1
      rcases hz3 with ⟨rfl, hno⟩ | ⟨k, rfl, hnk, hkN, hyes⟩
      · have hI2 : Hid (RInv ⟨C, ll⟩ (c + 1) n F) := Lib.hid (hI.out.skip fun j h1 h2 => by
          have := hno j h1 (by rw [rowsF_len]; exact h2)
          rwa [rowsF_nth h2] at this)
        have HV := Lib.hid hV
        clear hno hV
        go_wp2
        go_roundw
        case rel => exact ⟨n, c + 1, vs, F, by omega, hn, rfl, by go_num, hbw, hzw, R0, R1, HV.out, hI2⟩
        case measure => simp [intOf]; omega
      · rw [rowsF_len] at hkN
        rw [rowsF_nth hkN] at hyes
        have hnN : n < ll.length := by omega
        obtain ⟨g, cp, rfl⟩ := owns_pos hV.own (by omega)
        have hI2 := Lib.hid (hI.out.step HM.out hnk hkN hyes)
        have hgB : w.heap.size + 2 ≤ g := (hV.own.lt g rfl).1
        have hgl : g < w3.heap.size := (hV.own.lt g rfl).2
        obtain ⟨cn, fn, un⟩ := hV.at hnN
        obtain ⟨ck, fk, uk⟩ := hV.at hkN
        obtain ⟨vn, hvn⟩ : ∃ vn, vn = nthV vs n := ⟨_, rfl⟩
        obtain ⟨vk, hvk⟩ : ∃ vk, vk = nthV vs k := ⟨_, rfl⟩
        rw [← hvn] at cn un
        rw [← hvk] at ck uk
        clear hvn hvk
        obtain ⟨an, cpn, rfl, _⟩ := un.form
        obtain ⟨ak, cpk, rfl, _⟩ := uk.form
        have qn := @idx_rows g cp ll.length n hnN
        have qk := @idx_rows g cp ll.length k hkN
        have hd3 := drewN_below w3.heap.size w3 1
        have HV4 := Lib.hid (((hV.store hnN uk).ext (drewN_below _ _ 1)).store hkN ((un.agree (.of_grown (grownBy_setCell w3 g n _) fun b hb e => hb.1 (by cases e; rfl))).ext (drewN_below _ _ 1)))
        have HV13 : Hid (RedV (fun b => b + 1 ≠ w.heap.size + 2 ∧ (S b ∨ w.heap.size ≤ b)) (w.heap.size + 2) ((w3.setCell ⟨g, n, none⟩ (.slice ak (F k).length cpk)).drew) (.slice (some ⟨g, 0, none⟩) ll.length cp) ll.length (vs.set n (.slice ak (F k).length cpk)) (fun i => if i = n then F k else F i)) := Lib.hid ((hV.store hnN uk).ext (drewN_below _ _ 1))
        have HLEN : Hid (∀ j, j < ll.length → (swapF F n k j).length ≤ 100000) := Lib.hid (fun j hj => by
          obtain ⟨i, hi, e⟩ := hI.out.swap_any hnk hkN hj
          rw [e]
          exact small_len (c := (C : Int)) (by omega) (hI.out.ord i hi) (hI.out.rng i hi))
        clear hyes hV HVw hI
        go_wp2_with fail
        refine region_D (fun w' : World => w'.cell? ⟨g, n, none⟩ = some (.slice an (F n).length cpn) ∧ w'.cell? ⟨g, k, none⟩ = some (.slice ak (F k).length cpk)) (fun i => i == 13 || i == 15) (by kernel_rfl) ?_ (fun hHeld => ?_)
        · exact ⟨cn, ck⟩
        refine anyD_see 0 (v := ?_) rfl (by kernel_rfl) (fun _ _ _ h => h) (by rfl) ?hy0s (fun _ => hHeld) ?rest0s
        case hy0s => (intro w; go_simp; try with_reducible rfl)
        try simp only [Act.put, List.setIfInBounds_toArray, List.set_cons_zero, List.set_cons_succ]
        refine anyD_see 1 (v := ?_) rfl (by kernel_rfl) (fun _ _ _ h => h) (by rfl) ?hy1s (fun _ => hHeld) ?rest1s
        case hy1s => (intro w; go_simp; try with_reducible rfl)
        try simp only [Act.put, List.setIfInBounds_toArray, List.set_cons_zero, List.set_cons_succ]
        refine anyD_see 2 (v := ?_) rfl (by kernel_rfl) (fun _ _ _ h => h) (by rfl) ?hy2s (fun _ => hHeld) ?rest2s
        case hy2s => (intro w; go_simp; try with_reducible rfl)
        try simp only [Act.put, List.setIfInBounds_toArray, List.set_cons_zero, List.set_cons_succ]
        refine anyD_see 3 (v := ?_) rfl (by kernel_rfl) (fun _ _ _ h => h) (by rfl) ?hy3s (fun _ => hHeld) ?rest3s
        case hy3s => (intro w; go_simp; try with_reducible rfl)
        try simp only [Act.put, List.setIfInBounds_toArray, List.set_cons_zero, List.set_cons_succ]
        refine anyD_see 4 (v := ?_) rfl (by kernel_rfl) (fun _ _ _ h => h) (by rfl) ?hy4s (fun _ => hHeld) ?rest4s
        case hy4s => (intro w; go_simp; try with_reducible rfl)
        try simp only [Act.put, List.setIfInBounds_toArray, List.set_cons_zero, List.set_cons_succ]
        refine anyD_see 5 (v := ?_) rfl (by kernel_rfl) (fun _ _ _ h => h) (by rfl) ?hy5s (fun _ => hHeld) ?rest5s
        case hy5s => (intro w; go_simp; try with_reducible rfl)
        try simp only [Act.put, List.setIfInBounds_toArray, List.set_cons_zero, List.set_cons_succ]
        refine anyD_see 8 (v := ?_) rfl (by kernel_rfl) (fun _ _ _ h => h) (by rfl) ?hy8s (fun _ => hHeld) ?rest8s
        case hy8s => (intro w; go_simp; try with_reducible rfl)
        try simp only [Act.put, List.setIfInBounds_toArray, List.set_cons_zero, List.set_cons_succ]
        refine anyD_see 9 (v := ?_) rfl (by kernel_rfl) (fun _ _ _ h => h) (by rfl) ?hy9s (fun _ => hHeld) ?rest9s
        case hy9s => (intro w; go_simp; try with_reducible rfl)
        try simp only [Act.put, List.setIfInBounds_toArray, List.set_cons_zero, List.set_cons_succ]
        refine anyD_see 6 (v := ?_) rfl (by kernel_rfl) (fun _ _ _ h => h) (by rfl) ?hy6s (fun _ => hHeld) ?rest6s
        case hy6s => (intro w; go_simp; try with_reducible rfl)
        try simp only [Act.put, List.setIfInBounds_toArray, List.set_cons_zero, List.set_cons_succ]
        refine anyD_take 7 (v := ?_) rfl (by kernel_rfl) (fun d hd => by simp at hd ⊢; omega) (fun _ _ _ h => h) (by rfl) ?hy7s hHeld ?rest7s
        case hy7s => (intro w hSw; (try dsimp only at hSw); go_simp; try with_reducible rfl)
        try simp only [Act.put, List.setIfInBounds_toArray, List.set_cons_zero, List.set_cons_succ]
        refine anyD_see 10 (v := ?_) rfl (by kernel_rfl) (fun _ _ _ h => h) (by rfl) ?hy10s (fun _ => hHeld) ?rest10s
        case hy10s => (intro w; go_simp; try with_reducible rfl)
        try simp only [Act.put, List.setIfInBounds_toArray, List.set_cons_zero, List.set_cons_succ]
        refine anyD_take 11 (v := ?_) rfl (by kernel_rfl) (fun d hd => by simp at hd ⊢; omega) (fun _ _ _ h => h) (by rfl) ?hy11s hHeld ?rest11s
        case hy11s => (intro w hSw; (try dsimp only at hSw); go_simp; try with_reducible rfl)
        try simp only [Act.put, List.setIfInBounds_toArray, List.set_cons_zero, List.set_cons_succ]
        refine anyD_see 12 (v := ?_) rfl (by kernel_rfl) (fun _ _ _ h => h) (by rfl) ?hy12s (fun _ => hHeld) ?rest12s
        case hy12s => (intro w; go_simp; try with_reducible rfl)
        try simp only [Act.put, List.setIfInBounds_toArray, List.set_cons_zero, List.set_cons_succ]
        refine anyD_one 13 rfl (by kernel_rfl) (fun K hK => ?_)
        go_simp
        refine hK.out _ _ (fun h => absurd h (noD_done (i := 13) rfl (by kernel_rfl))) (fun _ => ?_)
        clear hK K
        try simp only [Act.put, List.setIfInBounds_toArray, List.set_cons_zero, List.set_cons_succ]
        refine anyD_see 14 (v := ?_) rfl (by kernel_rfl) (fun _ _ _ h => h) (by rfl) ?hy14s (fun h => absurd h (noD_done (i := 13) rfl (by kernel_rfl))) ?rest14s
        case hy14s => (intro w; go_simp; try with_reducible rfl)
        try simp only [Act.put, List.setIfInBounds_toArray, List.set_cons_zero, List.set_cons_succ]
        refine anyD_one 15 rfl (by kernel_rfl) (fun K hK => ?_)
        obtain ⟨w13, hw13⟩ : ∃ x, x = (w3.setCell ⟨g, n, none⟩ (.slice ak (F k).length cpk)).drew := ⟨_, rfl⟩
        rw [← hw13]
        have h13 := HV13.out.at hkN
        rw [← hw13] at h13
        obtain ⟨c15, f15, _⟩ := h13
        have HW13 := Lib.hid hw13
        clear hw13
        go_simp
        refine hK.out _ _ (fun h => absurd h (noD_done (i := 15) rfl (by kernel_rfl))) (fun _ => ?_)
        clear hK K
        try simp only [Act.put, List.setIfInBounds_toArray, List.set_cons_zero, List.set_cons_succ]
        refine anyD_done (by kernel_rfl) ?_ _
        obtain ⟨w4, hw4⟩ : ∃ w4, w4 = w13.setCell ⟨g, k, none⟩ (.slice an (F n).length cpn) := ⟨_, rfl⟩
        rw [← hw4]
        have hV4 : RedV (fun b => b + 1 ≠ w.heap.size + 2 ∧ (S b ∨ w.heap.size ≤ b)) (w.heap.size + 2) w4 (.slice (some ⟨g, 0, none⟩) ll.length cp) ll.length ((vs.set n (.slice ak (F k).length cpk)).set k (.slice an (F n).length cpn)) (elimF (swapF F n k) n (c : Int) 0) := by
          rw [hw4, HW13.out]
          refine HV4.out.congr fun j hj => ?_
          unfold elimF swapF
          rw [if_neg (show ¬ (j < 0 ∧ _) by omega)]
          by_cases h1 : j = k
          · rw [if_pos h1]
            by_cases h2 : j = n
            · rw [if_pos h2, ← h1, h2]
            · rw [if_neg h2, if_pos h1]
          · rw [if_neg h1]
            by_cases h2 : j = n
            · rw [if_pos h2, if_pos h2]
            · rw [if_neg h2, if_neg h2, if_neg h1]
        have hb34 : Below g w3 w4 := by rw [hw4, HW13.out]; exact (((Below.refl _ _).setCell (by simp) _).drew).setCell (by simp) _
        have hbw4 : Below w.heap.size w w4 := hbw.trans (hb34.mono (by omega))
        have hz4 : w.heap.size + 2 ≤ w4.heap.size := Nat.le_trans hzw hb34.size
        have R0 := R0.agree (S := fun b => b = w.heap.size) (.of_below hb34 fun b hb _ => by omega) rfl
        have R1 := R1.agree (S := fun b => b = w.heap.size + 1) (.of_below hb34 fun b hb _ => by omega) rfl
        obtain ⟨G, hG⟩ : ∃ G, G = swapF F n k := ⟨_, rfl⟩
        rw [← hG] at hV4 HLEN hI2
        clear hw4 HW13 hb34 c15 f15 cn ck fn fk un uk HV4 hbw hzw hb3 hG hgl hd3
        obtain ⟨vs4, hvs4⟩ : ∃ v, v = (vs.set n (.slice ak (F k).length cpk)).set k (.slice an (F n).length cpn) := ⟨_, rfl⟩
        rw [← hvs4] at hV4
        clear hvs4
        have HV4 := Lib.hid hV4
        clear hV4
        go_wp2
        go_loopw [7] (fun i7 wi => ∃ (i : Nat) (us : List Value), i ≤ ll.length ∧ i7 = .int .i64 i ∧ Below w.heap.size w wi ∧ w.heap.size + 2 ≤ wi.heap.size ∧ Row wi w.heap.size 24 [.int .i64 C, .slice aa ll.length acap] ∧ Row wi (w.heap.size + 1) 24 [.int .i64 0, .slice none 0 0] ∧ RedV (fun b => b + 1 ≠ w.heap.size + 2 ∧ (S b ∨ w.heap.size ≤ b)) (w.heap.size + 2) wi (.slice (some ⟨g, 0, none⟩) ll.length cp) ll.length us (elimF G n (c : Int) i)) (fun i7 _ => ll.length - (intOf i7).toNat)
        case atStart => exact ⟨0, vs4, by omega, rfl, hbw4, hz4, R0, R1, HV4.out⟩
        case round =>
          rename_i wo _ _ _
          clear R0 R1 hbw4 hz4
          obtain ⟨i, us, hi, rfl, hbi, hzi, R0, R1, hV⟩ := hrel
          by_cases hil : i < ll.length
          · have hgB2 : w.heap.size + 2 ≤ g := hgB
            obtain ⟨ci, fi, ui⟩ := hV.at hil
            obtain ⟨cq, _, uq⟩ := hV.at hnN
            have gi : elimF G n (c : Int) i i = G i := by unfold elimF; rw [if_neg (by omega)]
            have gq : elimF G n (c : Int) i n = G n := by unfold elimF; rw [if_neg (by omega)]
            rw [gi] at ui
            rw [gq] at uq
            have qi := @idx_rows g cp ll.length i hil
            by_cases hin : i = n
            · have e1 : ((i : Int) != (n : Int)) = false := by simp [hin]
              have HV2 := Lib.hid (hV.congr (G := elimF G n (c : Int) (i + 1)) fun j hj => by
                unfold elimF
                by_cases h1 : j < i ∧ j ≠ n ∧ memB (G j) (c : Int) = true
                · rw [if_pos h1, if_pos ⟨by omega, h1.2⟩]
                · rw [if_neg h1, if_neg (fun h2 => h1 ⟨by omega, h2.2⟩)])
              clear hin hV ui uq ci cq fi
              go_wp2
              go_roundw
              case rel => exact ⟨i + 1, us, by omega, by go_num, hbi, hzi, R0, R1, HV2.out⟩
              case measure => simp [intOf]; omega
            · have e1 : ((i : Int) != (n : Int)) = true := by simp; omega
              obtain ⟨vi, hvi⟩ : ∃ vi, vi = nthV us i := ⟨_, rfl⟩
              obtain ⟨vq, hvq⟩ : ∃ vq, vq = nthV us n := ⟨_, rfl⟩
              rw [← hvi] at ci ui
              rw [← hvq] at cq uq
              have HH := Lib.hid (refHas_quiet ui (c : Int))
              have HV := Lib.hid hV
              have HIN := Lib.hid hin
              clear hvi hvq hV hin
              go_wp2_with fail
              refine (HH.out.mono fun _ _ h => h.post).mono ?_
              rintro _ w5 ⟨_, rfl, hb5, rfl⟩
              have hb5w := ext_trans hbi hb5
              have hz5 := Nat.le_trans hzi hb5.size
              have R0 := R0.ext hb5
              have R1 := R1.ext hb5
              clear HH
              cases hod : memB (G i) (c : Int) with
              | false =>
                have HV2 := Lib.hid ((HV.out.ext hb5).congr (G := elimF G n (c : Int) (i + 1)) fun j hj => by
                  unfold elimF
                  by_cases h1 : j < i ∧ j ≠ n ∧ memB (G j) (c : Int) = true
                  · rw [if_pos h1, if_pos ⟨by omega, h1.2⟩]
                  · rw [if_neg h1, if_neg (fun h2 => by
                      rcases Nat.lt_or_ge j i with h3 | h3
                      · exact h1 ⟨h3, h2.2⟩
                      · have : j = i := by omega
                        subst this
                        rw [hod] at h2
                        cases h2.2.2)])
                clear hod ui uq ci cq fi HV
                go_wp2
                go_roundw
                case rel => exact ⟨i + 1, us, by omega, by go_num, hb5w, hz5, R0, R1, HV2.out⟩
                case measure => simp [intOf]; omega
              | true =>
                have ci := (hb5.cell (p := ⟨g, i, none⟩) (HV.out.own.lt g rfl).2).trans ci
                have cq := (hb5.cell (p := ⟨g, n, none⟩) (HV.out.own.lt g rfl).2).trans cq
                have HV5 := Lib.hid (HV.out.ext hb5)
                have KEEP : Hid (∀ W', Below w5.heap.size w5 W' → ((fun w' : World => w'.cell? ⟨g, i, none⟩ = some vi ∧ w'.cell? ⟨g, n, none⟩ = some vq)) W') := Lib.hid (fun W' hW' => ⟨(hW'.cell (p := ⟨g, i, none⟩) (HV5.out.own.lt g rfl).2).trans ci, (hW'.cell (p := ⟨g, n, none⟩) (HV5.out.own.lt g rfl).2).trans cq⟩)
                have KP := Lib.hid (plus_calls (w := w5.drew) ((ui.ext hb5).ext (drewN_below _ _ 1)) ((uq.ext hb5).ext (drewN_below _ _ 1)) (by have := HLEN.out i hil; have := HLEN.out n hnN; omega))
                have HOD := Lib.hid hod
                clear hod ui uq ci cq fi HV
                go_wp2_with fail
                refine region_E (fun w' : World => w'.cell? ⟨g, i, none⟩ = some vi ∧ w'.cell? ⟨g, n, none⟩ = some vq) (fun i => i == 12) (by kernel_rfl) ?_ (fun hHeld => ?_)
                · exact KEEP.out _ (drewN_below _ _ 1)
                refine anyE_take 0 (v := ?_) rfl (by kernel_rfl) (fun _ _ _ h => h) (by rfl) ?hy0p hHeld ?rest0p
                case hy0p => (intro w hSw; (try dsimp only at hSw); go_simp; try with_reducible rfl)
                try simp only [Act.put, List.setIfInBounds_toArray, List.set_cons_zero, List.set_cons_succ]
                refine anyE_take 1 (v := ?_) rfl (by kernel_rfl) (fun _ _ _ h => h) (by rfl) ?hy1p hHeld ?rest1p
                case hy1p => (intro w hSw; (try dsimp only at hSw); go_simp; try with_reducible rfl)
                try simp only [Act.put, List.setIfInBounds_toArray, List.set_cons_zero, List.set_cons_succ]
                refine anyE_take 2 (v := ?_) rfl (by kernel_rfl) (fun _ _ _ h => h) (by rfl) ?hy2p hHeld ?rest2p
                case hy2p => (intro w hSw; (try dsimp only at hSw); go_simp; try with_reducible rfl)
                try simp only [Act.put, List.setIfInBounds_toArray, List.set_cons_zero, List.set_cons_succ]
                refine anyE_take 3 (v := ?_) rfl (by kernel_rfl) (fun _ _ _ h => h) (by rfl) ?hy3p hHeld ?rest3p
                case hy3p => (intro w hSw; (try dsimp only at hSw); go_simp; try with_reducible rfl)
                try simp only [Act.put, List.setIfInBounds_toArray, List.set_cons_zero, List.set_cons_succ]
                refine anyE_take 6 (v := ?_) rfl (by kernel_rfl) (fun _ _ _ h => h) (by rfl) ?hy6p hHeld ?rest6p
                case hy6p => (intro w hSw; (try dsimp only at hSw); go_simp; try with_reducible rfl)
                try simp only [Act.put, List.setIfInBounds_toArray, List.set_cons_zero, List.set_cons_succ]
                refine anyE_take 7 (v := ?_) rfl (by kernel_rfl) (fun _ _ _ h => h) (by rfl) ?hy7p hHeld ?rest7p
                case hy7p => (intro w hSw; (try dsimp only at hSw); go_simp; try with_reducible rfl)
                try simp only [Act.put, List.setIfInBounds_toArray, List.set_cons_zero, List.set_cons_succ]
                refine anyE_take 4 (v := ?_) rfl (by kernel_rfl) (fun _ _ _ h => h) (by rfl) ?hy4p hHeld ?rest4p
                case hy4p => (intro w hSw; (try dsimp only at hSw); go_simp; try with_reducible rfl)
                try simp only [Act.put, List.setIfInBounds_toArray, List.set_cons_zero, List.set_cons_succ]
                refine anyE_take 5 (v := ?_) rfl (by kernel_rfl) (fun _ _ _ h => h) (by rfl) ?hy5p hHeld ?rest5p
                case hy5p => (intro w hSw; (try dsimp only at hSw); go_simp; try with_reducible rfl)
                try simp only [Act.put, List.setIfInBounds_toArray, List.set_cons_zero, List.set_cons_succ]
                refine anyE_take 8 (v := ?_) rfl (by kernel_rfl) (fun _ _ _ h => h) (by rfl) ?hy8p hHeld ?rest8p
                case hy8p => (intro w hSw; (try dsimp only at hSw); go_simp; try with_reducible rfl)
                try simp only [Act.put, List.setIfInBounds_toArray, List.set_cons_zero, List.set_cons_succ]
                refine anyE_take 9 (v := ?_) rfl (by kernel_rfl) (fun _ _ _ h => h) (by rfl) ?hy9p hHeld ?rest9p
                case hy9p => (intro w hSw; (try dsimp only at hSw); go_simp; try with_reducible rfl)
                try simp only [Act.put, List.setIfInBounds_toArray, List.set_cons_zero, List.set_cons_succ]
                refine anyE_one 10 rfl (by kernel_rfl) (fun K hK => ?_)
                go_simp; go_at_call 32; refine (KP.out.mono ?_); rintro _ w6 ⟨v6, rfl, hb6, hx6⟩; obtain ⟨a6, c6, rfl, _⟩ := hx6.form; have f6 : w6.frozen? ⟨g, i, none⟩ = false := ((HV5.out.ext (drewN_below _ _ 1)).ext hb6).own.frozenAt i
                refine hK.out _ _ (fun _ => KEEP.out _ (ext_trans (drewN_below _ _ 1) hb6)) (fun hHeld => ?_); replace hHeld := hHeld rfl
                clear hK K
                try simp only [Act.put, List.setIfInBounds_toArray, List.set_cons_zero, List.set_cons_succ]
                refine anyE_take 11 (v := ?_) rfl (by kernel_rfl) (fun _ _ _ h => h) (by rfl) ?hy11p hHeld ?rest11p
                case hy11p => (intro w hSw; (try dsimp only at hSw); go_simp; try with_reducible rfl)
                try simp only [Act.put, List.setIfInBounds_toArray, List.set_cons_zero, List.set_cons_succ]
                refine anyE_one 12 rfl (by kernel_rfl) (fun K hK => ?_)
                go_simp
                refine hK.out _ _ (fun h => by simp at h) (fun hHeld => ?_)
                clear hK K
                try simp only [Act.put, List.setIfInBounds_toArray, List.set_cons_zero, List.set_cons_succ]
                refine anyE_done (by kernel_rfl) ?_ _
                have HV6 := Lib.hid ((((HV5.out.ext (drewN_below _ _ 1)).ext hb6).store hil (hx6.mono fun b hb => by have := (HV5.out.own.lt g rfl).2; have hb' : w5.drew.heap.size ≤ b := hb; simp at hb'; exact ⟨by omega, by omega, .inr (by omega)⟩)).congr (G := elimF G n (c : Int) (i + 1)) fun j hj => by
                  unfold elimF
                  by_cases h0 : j = i
                  · subst h0
                    rw [if_pos rfl, if_pos ⟨by omega, HIN.out, HOD.out⟩]
                  · rw [if_neg h0]
                    by_cases h1 : j < i ∧ j ≠ n ∧ memB (G j) (c : Int) = true
                    · rw [if_pos h1, if_pos ⟨by omega, h1.2⟩]
                    · rw [if_neg h1, if_neg (fun h2 => h1 ⟨by omega, h2.2⟩)])
                have hb56 : Below g w5 (w6.setCell ⟨g, i, none⟩ (.slice a6 (xorL (G i) (G n)).length c6)) := ((ext_trans (drewN_below _ _ 1) hb6).mono (by have := (HV5.out.own.lt g rfl).2; omega)).setCell (by simp) _
                obtain ⟨w7, hw7⟩ : ∃ w7, w7 = w6.setCell ⟨g, i, none⟩ (.slice a6 (xorL (G i) (G n)).length c6) := ⟨_, rfl⟩
                rw [← hw7] at HV6 hb56 ⊢
                have hb7w := hb5w.trans (hb56.mono (by omega))
                have hz7 := Nat.le_trans hz5 hb56.size
                have R0 := R0.agree (S := fun b => b = w.heap.size) (.of_below hb56 fun b hb _ => by omega) rfl
                have R1 := R1.agree (S := fun b => b = w.heap.size + 1) (.of_below hb56 fun b hb _ => by omega) rfl
                clear hw7 hb56 f6 hb6 hx6 KEEP KP HV5
                go_wp2
                go_roundw
                case rel => exact ⟨i + 1, _, by omega, by go_num, hb7w, hz7, R0, R1, HV6.out⟩
                case measure => simp [intOf]; omega
          · obtain rfl : i = ll.length := by omega
            have HVE := Lib.hid hV
            clear hV
            go_wp2
            go_roundw
            case rel => exact ⟨n + 1, c + 1, us, _, by omega, by omega, by go_num, by go_num, hbi, hzi, R0, R1, HVE.out, hI2⟩
            case measure => simp [intOf]; omega
    · obtain rfl : c = C := by omega
      have HE := Lib.hid (hI.out.done HM.out (Int.le_refl _))
      have hL0 := hV.lists2 fun b hb => ⟨by omega, .inr (by omega)⟩
      obtain ⟨ra, rcap, hrv, rad, rl, rm⟩ := hL0.form
      rw [rowsF_len] at hrv rad rl
      subst hrv
      have hL1 : Lists (fun b => b + 1 ≠ w.heap.size + 2 ∧ (S b ∨ w.heap.size ≤ b)) wr (.slice ra (rowsF ll.length F).length rcap) (rowsF ll.length F) := by rw [rowsF_len]; exact hL0
      obtain ⟨us, hu0, huc, hur, hu1⟩ := hL1.vals
      rw [rowsF_len] at hu0 huc
      have radn : Ad (fun b => b + 1 ≠ w.heap.size + 2 ∧ (S b ∨ w.heap.size ≤ b)) wr ra n rcap := by
        rcases rad with ⟨h0, h1⟩ | h0
        · exact .inl ⟨by omega, h1⟩
        · exact .inr h0
      have hzr := R1.lt
      obtain ⟨w3, hw3⟩ : ∃ w3, w3 = wr.alloc (.cells #[.int .i64 c, .slice none 0 0] 24) := ⟨_, rfl⟩
      have hb3 : Below wr.heap.size wr w3 := by rw [hw3]; exact ext_alloc _ _
      have R8 : Row w3 wr.heap.size 24 [.int .i64 c, .slice none 0 0] := by rw [hw3]; exact row_new _ _ _
      have R1 := R1.ext hb3
      have hbw := ext_trans hb hb3
      have HAD := Lib.hid ((radn.agree (.of_ext hb3)).agree (.of_ext (drewN_below _ _ 1)))
      have HUC : Hid (∀ j, j < n → w3.drew.cell? (adr ra j) = some ((us.take n).getD j undef)) := Lib.hid (fun j hj => by
        have h1 := huc j (by omega)
        have h2 := (rad.cell (.of_ext hb3) (show j < ll.length by omega)).trans h1
        have h3 := ((rad.agree (.of_ext hb3)).cell (.of_ext (drewN_below w3.heap.size w3 1)) (show j < ll.length by omega)).trans h2
        rw [List.getD_eq_getElem?_getD, List.getElem?_take_of_lt hj, ← List.getD_eq_getElem?_getD]
        exact h3)
      have HUL : Hid ((us.take n).length = n) := Lib.hid (by simp; omega)
      have HU1 : Hid (∀ u ∈ us.take n, u.oneCell' = true) := Lib.hid (fun u hu => hu1 u (List.mem_of_mem_take hu))
      have HUR : Hid (RefsV (fun b => b ≠ wr.heap.size ∧ b ≠ w.heap.size + 1 ∧ (S b ∨ w.heap.size ≤ b)) w3.drew (us.take n) (rowsE ⟨c, ll⟩)) := Lib.hid (by
        rw [← HE.out]
        refine ⟨by simp; omega, fun j hj => ?_⟩
        have hjn : j < n := by simpa using hj
        have h1 := (((((hur.2 j (by rw [rowsF_len]; omega)).block 0).mono (S' := fun b => b ≠ wr.heap.size ∧ b ≠ w.heap.size + 1 ∧ (S b ∨ w.heap.size ≤ b)) fun b hb => ⟨by omega, by omega, hb.1.2⟩)).ext hb3).ext (drewN_below w3.heap.size w3 1)
        rw [rowsF_nth (by omega)] at h1
        rw [show nthV (us.take n) j = nthV us j from by unfold nthV; rw [List.getD_eq_getElem?_getD, List.getElem?_take_of_lt hjn, ← List.getD_eq_getElem?_getD], show nthL ((List.range n).map F) j = F j from by simp [nthL, hjn]]
        exact h1)
      have hncp : n ≤ rcap := by omega
      have HB4 : Hid ((0 + n) * 24 ≤ 140737488355328) := Lib.hid (by omega)
      obtain ⟨q80, q81⟩ := R8.two
      have f80 := R8.free 0
      have f81 := R8.free 1
      have HEL : Hid ((rowsE ⟨c, ll⟩).length = n) := Lib.hid (by rw [← HE.out]; simp)
      clear hV hL0 hL1 hu0 huc hur hu1 rad radn hI HE hb3
      go_upto_region 17 with fail
      rw [← hw3]
      have HW3 := Lib.hid hw3
      have hz3 : w3.heap.size = wr.heap.size + 1 := by rw [hw3]; simp
      have HZ3 := Lib.hid hz3
      clear hw3 hz3
      go_wp2_with fail
      refine region_E (fun w' : World => w'.cell? ⟨wr.heap.size, 1, none⟩ = some (.slice none 0 0)) (fun i => i == 7) (by kernel_rfl) ?_ (fun hHeld => ?_)
      · exact q81
      refine anyE_take 0 (v := ?_) rfl (by kernel_rfl) (fun _ _ _ h => h) (by rfl) ?hy0q hHeld ?rest0q
      case hy0q => (intro w hSw; (try dsimp only at hSw); go_simp; try with_reducible rfl)
      try simp only [Act.put, List.setIfInBounds_toArray, List.set_cons_zero, List.set_cons_succ]
      refine anyE_take 1 (v := ?_) rfl (by kernel_rfl) (fun _ _ _ h => h) (by rfl) ?hy1q hHeld ?rest1q
      case hy1q => (intro w hSw; (try dsimp only at hSw); go_simp; try with_reducible rfl)
      try simp only [Act.put, List.setIfInBounds_toArray, List.set_cons_zero, List.set_cons_succ]
      refine anyE_take 2 (v := ?_) rfl (by kernel_rfl) (fun _ _ _ h => h) (by rfl) ?hy2q hHeld ?rest2q
      case hy2q => (intro w hSw; (try dsimp only at hSw); go_simp; try with_reducible rfl)
      try simp only [Act.put, List.setIfInBounds_toArray, List.set_cons_zero, List.set_cons_succ]
      refine anyE_take 3 (v := ?_) rfl (by kernel_rfl) (fun _ _ _ h => h) (by rfl) ?hy3q hHeld ?rest3q
      case hy3q => (intro w hSw; (try dsimp only at hSw); go_simp; try with_reducible rfl)
      try simp only [Act.put, List.setIfInBounds_toArray, List.set_cons_zero, List.set_cons_succ]
      refine anyE_take 4 (v := ?_) rfl (by kernel_rfl) (fun _ _ _ h => h) (by rfl) ?hy4q hHeld ?rest4q
      case hy4q => (intro w hSw; (try dsimp only at hSw); go_simp; try with_reducible rfl)
      try simp only [Act.put, List.setIfInBounds_toArray, List.set_cons_zero, List.set_cons_succ]
      refine anyE_one 5 rfl (by kernel_rfl) (fun K hK => ?_)
      refine step_appendAll (by rfl) (.tmp 74) (.tmp 77) 22 (by rfl) 38 _ 24 Try.underlying22 info_ints rfl w3.heap.size (.slice none 0 0) 0 [] (by rfl) (World.ownsRow_nil _ _ _ _) _ ra n rcap (us.take n) (by rfl) HAD.out HUL.out HUC.out HU1.out HB4.out (by omega) (by simp) ?_; intro v4 w4 hown4 hbel4 hag4 hat4; have hL4 : Lists (fun b => b ≠ wr.heap.size ∧ b ≠ w.heap.size + 1 ∧ (S b ∨ w.heap.size ≤ b)) w4 v4 (rowsE ⟨c, ll⟩) := Lists.of_own (base := w3.heap.size) (vs := us.take n) (by rw [HEL.out]; simpa using hown4) (HUR.out.agree (hag4 _ (fun k hk => by cases hk))) (fun b hb => by have := HZ3.out; exact ⟨by omega, by omega, .inr (by omega)⟩); obtain ⟨a4, c4, rfl, _⟩ := hL4.form; have R84 := (R8.ext (drewN_below w3.heap.size w3 1)).agree (S := fun _ => True) (hag4 _ (fun k hk => by cases hk)) trivial; have R14 := (R1.ext (drewN_below w3.heap.size w3 1)).agree (S := fun _ => True) (hag4 _ (fun k hk => by cases hk)) trivial; have f84 := R84.free 1; have HL4 := Lib.hid hL4; clear hL4
      refine hK.out _ _ (fun _ => cell_agree hHeld (hag4 (fun _ => True) (fun k hk => by cases hk)) trivial) (fun hHeld => ?_); replace hHeld := hHeld rfl
      clear hK K
      try simp only [Act.put, List.setIfInBounds_toArray, List.set_cons_zero, List.set_cons_succ]
      refine anyE_take 6 (v := ?_) rfl (by kernel_rfl) (fun _ _ _ h => h) (by rfl) ?hy6q hHeld ?rest6q
      case hy6q => (intro w hSw; (try dsimp only at hSw); go_simp; try with_reducible rfl)
      try simp only [Act.put, List.setIfInBounds_toArray, List.set_cons_zero, List.set_cons_succ]
      refine anyE_one 7 rfl (by kernel_rfl) (fun K hK => ?_)
      go_simp
      refine hK.out _ _ (fun h => by simp at h) (fun hHeld => ?_)
      clear hK K
      try simp only [Act.put, List.setIfInBounds_toArray, List.set_cons_zero, List.set_cons_succ]
      refine anyE_done (by kernel_rfl) ?_ _
      have R85 := R84.set 1 (.slice a4 (rowsE ⟨c, ll⟩).length c4)
      simp only [List.set_cons_succ, List.set_cons_zero] at R85
      have hgs := grownBy_setCell w4 wr.heap.size 1 (.slice a4 (rowsE ⟨c, ll⟩).length c4)
      have R15 := R14.agree (S := fun b => b = w.heap.size + 1) (.of_grown hgs fun b hb e => by cases e; omega) rfl
      have hL5 : Lists (fun b => b ≠ wr.heap.size ∧ b ≠ w.heap.size + 1 ∧ (S b ∨ w.heap.size ≤ b)) (w4.setCell ⟨wr.heap.size, 1, none⟩ (.slice a4 (rowsE ⟨c, ll⟩).length c4)) (.slice a4 (rowsE ⟨c, ll⟩).length c4) (rowsE ⟨c, ll⟩) :=
        HL4.out.agree (.of_grown hgs fun b hb e => hb.1 (by cases e; rfl))
      have hbw5 : Below w.heap.size w (w4.setCell ⟨wr.heap.size, 1, none⟩ (.slice a4 (rowsE ⟨c, ll⟩).length c4)) := (hbw.trans (((ext_trans (drewN_below w3.heap.size w3 1) (hbel4)).mono (by have := hbw.size; omega)))).setCell (by simp; omega) _
      obtain ⟨w5, hw5⟩ : ∃ w5, w5 = w4.setCell ⟨wr.heap.size, 1, none⟩ (.slice a4 (rowsE ⟨c, ll⟩).length c4) := ⟨_, rfl⟩
      rw [← hw5] at R85 R15 hL5 hbw5 ⊢
      have HL5 := Lib.hid hL5
      have HB5 := Lib.hid hbw5
      clear hw5 hgs hL5 hbw5
      obtain ⟨q80, q81⟩ := R85.two
      obtain ⟨q10, q11⟩ := R15.two
      have f10 := R15.free 0
      have f11 := R15.free 1
      go_wp2
      refine bodyPost_ret (v := .agg #[.int .i64 c, .slice a4 (rowsE ⟨c, ll⟩).length c4]) (by simp [results, Try.results49, go_sem, q10, q11]) rfl ?_
      exact .mk (set2_below _ _ HB5.out (by omega)) ⟨_, rfl, (HL5.out.agree ((Agree.of_grown (grownBy_setCell w5 (w.heap.size + 1) 0 _) fun b hb e => hb.2.1 (by cases e; rfl)).trans (.of_grown (grownBy_setCell _ (w.heap.size + 1) 1 _) fun b hb e => hb.2.1 (by cases e; rfl)))).mono fun _ hb => hb.2.2⟩
end Go.Proofs.Ytijmjliijjkcbaa
