/- The closure that strikes leading columns. -/
import Derived.Test.YtijmjliijjkcbaaMxLd
import Derived.Deep.LoopGhost
import Derived.Deep.DeepCutAuto
namespace Go.Proofs.Ytijmjliijjkcbaa
set_option linter.unusedVariables false
open Go.RowKit Go.Maps
attribute [local go_sem ↓] Go.wp_at_zero Go.wp_at_succ

set_option maxRecDepth 100000 in
set_option maxHeartbeats 4000000 in
theorem reduce_calls {S Sm : Nat → Prop} {w : World} {v0 : Value} {x0 : Ln} {LB mb n N N' : Nat} {c : Int} {M : Int → Option Ln} {MV : Int → Option Value} (hx : LnV S w v0 x0) (hLB : w.cell? ⟨LB, 0, none⟩ = some (.map (some mb)))
    (hM : LeadV Sm w mb M n MV) (gm : GM c N M) (hN : N ≤ N') (gx : GL c N' x0) (hc : c ≤ 100000) (hN' : N' ≤ 100000) :
    Calls Try.prog 65 #[v0, .pointer (some ⟨LB, 0, none⟩)] w (Post w fun w' r => LnV (fun b => S b ∨ w.heap.size ≤ b) w' r (redP M fuelP 0 x0)) := by
  obtain ⟨a0, ca0, b0, cb0, rfl, ia, ib⟩ := hx.form
  have hbk : ∀ {v : Value} {l : List Int}, Ints S w v l → Ints (fun b => (S b ∧ b < w.heap.size) ∨ w.heap.size + 1 < b) w v l := fun h => (h.block 0).mono fun b hb => .inl hb
  have ex : Below w.heap.size w ((w.alloc (.cells #[.slice a0 x0.1.length ca0, .slice b0 x0.2.length cb0] 69)).alloc (.cells #[.slice none 0 0, .slice none 0 0] 69)) := ext_alloc' (ext_alloc w _) _
  have r0 := (row_new w [.slice a0 x0.1.length ca0, .slice b0 x0.2.length cb0] 69).alloc (.cells #[.slice none 0 0, .slice none 0 0] 69)
  have r1 := row_new (w.alloc (.cells #[.slice a0 x0.1.length ca0, .slice b0 x0.2.length cb0] 69)) [.slice none 0 0, .slice none 0 0] 69
  simp only [World.size_alloc] at r1
  have hLBl := World.block_lt_of_cell? w _ hLB
  dsimp only at hLBl
  obtain ⟨i0, hi, hz0, hz1, hz2⟩ := info_parts info_int
  have IA := (hbk ia).ext ex
  have IB := (hbk ib).ext ex
  have hexs : w.heap.size + 1 + 1 ≤ ((w.alloc (.cells #[.slice a0 x0.1.length ca0, .slice b0 x0.2.length cb0] 69)).alloc (.cells #[.slice none 0 0, .slice none 0 0] 69)).heap.size := by simp
  obtain ⟨TG, hTG⟩ : ∃ TG, TG = redP M fuelP 0 x0 := ⟨_, rfl⟩
  rw [← hTG]
  have HT0 := Lib.hid hTG
  have HF0 := Lib.hid (show muP c 0 x0 < fuelP from by
    unfold muP fuelP
    split
    · rename_i h; have := gx.r1 _ (nth_mem h); omega
    · omega)
  have GMH := Lib.hid gm
  clear hTG gm hbk ia ib hx
  go_enter Try.func65, Try.ntmps65
  go_wp2
  go_loopg [4, 5, 6, 12] (muP c 0 x0) (fun g i _ _ _ wr => ∃ (k f : Nat) (y : Ln) (ya yb : Value), i = .int .i64 k ∧ k ≤ y.1.length ∧ Below w.heap.size w wr ∧ w.heap.size + 1 + 1 ≤ wr.heap.size ∧ Row wr w.heap.size 69 [ya, yb] ∧ Row wr (w.heap.size + 1) 69 [.slice none 0 0, .slice none 0 0] ∧
      Ints (fun b => (S b ∧ b < w.heap.size) ∨ w.heap.size + 1 < b) wr ya y.1 ∧ Ints (fun b => (S b ∧ b < w.heap.size) ∨ w.heap.size + 1 < b) wr yb y.2 ∧ GL c N' y ∧ Hid (TG = redP M f k y) ∧ Hid (muP c k y < f) ∧ Hid (muP c k y ≤ g))
  case atStart => exact ⟨0, fuelP, x0, _, _, rfl, Nat.zero_le _, ex, hexs, r0, r1, IA, IB, gx, HT0, HF0, Lib.hid (Nat.le_refl _)⟩
  case round =>
    obtain ⟨k, f, y, ya, yb, rfl, hk, hb, hzr, R0, R1, IA, IB, gy, HT, HF, HG⟩ := hrel
    obtain ⟨aa, ca, rfl, ada, la1, la2⟩ := IA.form
    obtain ⟨ab, cb, rfl, adb, lb1, lb2⟩ := IB.form
    unfold maxLen at la2 lb2
    obtain ⟨q00, q01⟩ := R0.two
    have hL := cell_ext hLB hb
    by_cases hlt : k < y.1.length
    · have q := idx_one Try.underlying38 hi hz1 ada k hlt
      obtain ⟨_, _, ey, _, _, _, hyc, _⟩ := id IA
      simp only [Value.slice.injEq, true_and] at ey
      obtain ⟨rfl, rfl⟩ := ey
      have cy := hyc k hlt
      have hr := gy.r1 _ (nth_mem hlt)
      have hadl := adr_block ada hlt
      clear hyc
      have hMr := hM.ext hb
      have HW : WF (nth y.1 k) := WF.small (by omega)
      have hl1 := small_len hc gy.o1 gy.r1
      have hl2 := small_len (c := (N' : Int)) (by omega) gy.o2 gy.r2
      have hsk := fun h => redP_skip (M := M) (n := f - 1) (x := y) hlt h
      have hst := fun l h => redP_step (M := M) (n := f - 1) (x := y) (l := l) hlt h
      have hms := mu_skip gy hlt
      have hmt := fun l h => mu_step GMH.out (l := l) gy hlt h
      have hf1 : f - 1 + 1 = f := by have := HF.out; omega
      rw [hf1] at hsk hst
      obtain ⟨z, hz⟩ : ∃ z, z = nth y.1 k := ⟨_, rfl⟩
      rw [← hz] at cy HW hsk hst hmt hr
      have HZ := Lib.hid hz
      have HSK := Lib.hid hsk
      have HST := Lib.hid hst
      have HMS := Lib.hid hms
      have HMT := Lib.hid hmt
      have GY := Lib.hid gy
      have HA0 : Agree (fun b => b < wr.heap.size) wr wr := .refl _ _
      have KEEP : Hid (∀ W', Agree (fun b => b < wr.heap.size) wr W' → (fun w' : World => w'.cell? ⟨LB, 0, none⟩ = some (.map (some mb)) ∧ w'.cell? ⟨w.heap.size, 0, none⟩ = some (.slice aa y.1.length ca) ∧ w'.cell? (adr aa k) = some (.int .i64 z) ∧ MapV KI w' mb MV n) W') := Lib.hid (fun W' hW' => ⟨cell_agree hL hW' (show _ < _ by dsimp only; omega), cell_agree q00 hW' (show _ < _ by dsimp only; omega), cell_agree cy hW' hadl, hMr.map.agree hW' hMr.map.lt⟩)
      clear hz hsk hst hms hmt gy hf1
      cases hm : M z with
      | none =>
        have HMV := Lib.hid (hMr.non z hm)
        have HR := Lib.hid (HT.out.trans (HSK.out hm))
        clear hm
        go_wp2
        refine region_E (fun w' : World => w'.cell? ⟨LB, 0, none⟩ = some (.map (some mb)) ∧ w'.cell? ⟨w.heap.size, 0, none⟩ = some (.slice aa y.1.length ca) ∧ w'.cell? (adr aa k) = some (.int .i64 z) ∧ MapV KI w' mb MV n) (fun i => false) (by kernel_rfl) ?_ (fun hHeld => ?_)
        · exact KEEP.out _ HA0.drew
        refine anyE_take 0 (v := ?_) rfl (by kernel_rfl) (fun _ _ _ h => h) (by rfl) ?hy0n hHeld ?rest0n
        case hy0n => (intro w hSw; (try dsimp only at hSw); go_simp; try with_reducible rfl)
        try simp only [Act.put, List.setIfInBounds_toArray, List.set_cons_zero, List.set_cons_succ]
        refine anyE_take 1 (v := ?_) rfl (by kernel_rfl) (fun _ _ _ h => h) (by rfl) ?hy1n hHeld ?rest1n
        case hy1n => (intro w hSw; (try dsimp only at hSw); go_simp; try with_reducible rfl)
        try simp only [Act.put, List.setIfInBounds_toArray, List.set_cons_zero, List.set_cons_succ]
        refine anyE_take 2 (v := ?_) rfl (by kernel_rfl) (fun _ _ _ h => h) (by rfl) ?hy2n hHeld ?rest2n
        case hy2n => (intro w hSw; (try dsimp only at hSw); go_simp; try with_reducible rfl)
        try simp only [Act.put, List.setIfInBounds_toArray, List.set_cons_zero, List.set_cons_succ]
        refine anyE_take 3 (v := ?_) rfl (by kernel_rfl) (fun _ _ _ h => h) (by rfl) ?hy3n hHeld ?rest3n
        case hy3n => (intro w hSw; (try dsimp only at hSw); go_simp; try with_reducible rfl)
        try simp only [Act.put, List.setIfInBounds_toArray, List.set_cons_zero, List.set_cons_succ]
        refine anyE_take 4 (v := ?_) rfl (by kernel_rfl) (fun _ _ _ h => h) (by rfl) ?hy4n hHeld ?rest4n
        case hy4n => (intro w hSw; (try dsimp only at hSw); go_simp; try with_reducible rfl)
        try simp only [Act.put, List.setIfInBounds_toArray, List.set_cons_zero, List.set_cons_succ]
        refine anyE_take 5 (v := ?_) rfl (by kernel_rfl) (fun _ _ _ h => h) (by rfl) ?hy5n hHeld ?rest5n
        case hy5n => (intro w hSw; (try dsimp only at hSw); go_simp; try with_reducible rfl)
        try simp only [Act.put, List.setIfInBounds_toArray, List.set_cons_zero, List.set_cons_succ]
        refine anyE_take 6 (v := ?_) rfl (by kernel_rfl) (fun _ _ _ h => h) (by rfl) ?hy6n hHeld ?rest6n
        case hy6n => (intro w hSw; refine yields_look (B := KI) (.tmp 13) (.tmp 18) 83 ?_ 69 Try.underlying83 _ (zero_line w) ?_ hSw.2.2.2 z ?_ HW (.agg #[.slice none 0 0, .slice none 0 0]) false ?_ ?_; rfl; rfl; rfl; (rw [HMV.out]; rfl); (rw [HMV.out]; rfl))
        try simp only [Act.put, List.setIfInBounds_toArray, List.set_cons_zero, List.set_cons_succ]
        refine anyE_take 7 (v := ?_) rfl (by kernel_rfl) (fun _ _ _ h => h) (by rfl) ?hy7n hHeld ?rest7n
        case hy7n => (intro w hSw; (try dsimp only at hSw); go_simp; try with_reducible rfl)
        try simp only [Act.put, List.setIfInBounds_toArray, List.set_cons_zero, List.set_cons_succ]
        refine anyE_take 8 (v := ?_) rfl (by kernel_rfl) (fun _ _ _ h => h) (by rfl) ?hy8n hHeld ?rest8n
        case hy8n => (intro w hSw; (try dsimp only at hSw); go_simp; try with_reducible rfl)
        try simp only [Act.put, List.setIfInBounds_toArray, List.set_cons_zero, List.set_cons_succ]
        refine anyE_take 9 (v := ?_) rfl (by kernel_rfl) (fun _ _ _ h => h) (by rfl) ?hy9n hHeld ?rest9n
        case hy9n => (intro w hSw; (try dsimp only at hSw); go_simp; try with_reducible rfl)
        try simp only [Act.put, List.setIfInBounds_toArray, List.set_cons_zero, List.set_cons_succ]
        refine anyE_one 10 rfl (by kernel_rfl) (fun K hK => ?_)
        go_simp
        refine hK.out _ _ (fun _ => KEEP.out _ (HA0.drew.alloc _)) (fun hHeld => ?_); replace hHeld := hHeld rfl
        clear hK K
        try simp only [Act.put, List.setIfInBounds_toArray, List.set_cons_zero, List.set_cons_succ]
        refine anyE_one 11 rfl (by kernel_rfl) (fun K hK => ?_)
        go_simp
        refine hK.out _ _ (fun _ => KEEP.out _ (HA0.drew.alloc _)) (fun hHeld => ?_); replace hHeld := hHeld rfl
        clear hK K
        try simp only [Act.put, List.setIfInBounds_toArray, List.set_cons_zero, List.set_cons_succ]
        refine anyE_take 12 (v := ?_) rfl (by kernel_rfl) (fun _ _ _ h => h) (by rfl) ?hy12n hHeld ?rest12n
        case hy12n => (intro w hSw; (try dsimp only at hSw); go_simp; try with_reducible rfl)
        try simp only [Act.put, List.setIfInBounds_toArray, List.set_cons_zero, List.set_cons_succ]
        refine anyE_done (by kernel_rfl) ?_ _
        go_wp2
        go_roundg (muP c (k + 1) y)
        case measure => have := HG.out; have := HMS.out; omega
        case rel => exact ⟨k + 1, f - 1, y, _, _, by go_num, by omega, ext_alloc' (ext_drewN hb 1) _, by simp; omega, (R0.ext (drewN_below _ _ 1)).alloc _, (R1.ext (drewN_below _ _ 1)).alloc _, (IA.ext (drewN_below _ _ 1)).ext (ext_alloc _ _), (IB.ext (drewN_below _ _ 1)).ext (ext_alloc _ _), GY.out, HR, Lib.hid (by have := HF.out; have := HMS.out; omega), Lib.hid (Nat.le_refl _)⟩
      | some l =>
        obtain ⟨lv, hlv, hll⟩ := hMr.som z l hm
        obtain ⟨a1, c1, b1, d1, rfl, il1, il2⟩ := hll.form
        have HMV := Lib.hid hlv
        have HR := Lib.hid (HT.out.trans (HST.out l hm))
        have HMU := Lib.hid (HMT.out l hm)
        have gl := GMH.out.gl z l hm
        have hl3 := small_len hc gl.o1 gl.r1
        have hl4 := small_len (c := (N : Int)) (by omega) gl.o2 gl.r2
        have HGA := Lib.hid (GY.out.add (gl.mono hN))
        have HKL := Lib.hid (show k ≤ (addL y l).1.length from by
          have h9 := (add_at GMH.out GY.out.o1 hlt (HZ.out ▸ hm)).1
          have h8 := congrArg List.length h9
          rw [List.length_take, List.length_take] at h8
          omega)
        clear hm hlv hll gl
        go_wp2
        refine region_E (fun w' : World => w'.cell? ⟨LB, 0, none⟩ = some (.map (some mb)) ∧ w'.cell? ⟨w.heap.size, 0, none⟩ = some (.slice aa y.1.length ca) ∧ w'.cell? (adr aa k) = some (.int .i64 z) ∧ MapV KI w' mb MV n) (fun i => false) (by kernel_rfl) ?_ (fun hHeld => ?_)
        · exact KEEP.out _ HA0.drew
        refine anyE_take 0 (v := ?_) rfl (by kernel_rfl) (fun _ _ _ h => h) (by rfl) ?hy0s hHeld ?rest0s
        case hy0s => (intro w hSw; (try dsimp only at hSw); go_simp; try with_reducible rfl)
        try simp only [Act.put, List.setIfInBounds_toArray, List.set_cons_zero, List.set_cons_succ]
        refine anyE_take 1 (v := ?_) rfl (by kernel_rfl) (fun _ _ _ h => h) (by rfl) ?hy1s hHeld ?rest1s
        case hy1s => (intro w hSw; (try dsimp only at hSw); go_simp; try with_reducible rfl)
        try simp only [Act.put, List.setIfInBounds_toArray, List.set_cons_zero, List.set_cons_succ]
        refine anyE_take 2 (v := ?_) rfl (by kernel_rfl) (fun _ _ _ h => h) (by rfl) ?hy2s hHeld ?rest2s
        case hy2s => (intro w hSw; (try dsimp only at hSw); go_simp; try with_reducible rfl)
        try simp only [Act.put, List.setIfInBounds_toArray, List.set_cons_zero, List.set_cons_succ]
        refine anyE_take 3 (v := ?_) rfl (by kernel_rfl) (fun _ _ _ h => h) (by rfl) ?hy3s hHeld ?rest3s
        case hy3s => (intro w hSw; (try dsimp only at hSw); go_simp; try with_reducible rfl)
        try simp only [Act.put, List.setIfInBounds_toArray, List.set_cons_zero, List.set_cons_succ]
        refine anyE_take 4 (v := ?_) rfl (by kernel_rfl) (fun _ _ _ h => h) (by rfl) ?hy4s hHeld ?rest4s
        case hy4s => (intro w hSw; (try dsimp only at hSw); go_simp; try with_reducible rfl)
        try simp only [Act.put, List.setIfInBounds_toArray, List.set_cons_zero, List.set_cons_succ]
        refine anyE_take 5 (v := ?_) rfl (by kernel_rfl) (fun _ _ _ h => h) (by rfl) ?hy5s hHeld ?rest5s
        case hy5s => (intro w hSw; (try dsimp only at hSw); go_simp; try with_reducible rfl)
        try simp only [Act.put, List.setIfInBounds_toArray, List.set_cons_zero, List.set_cons_succ]
        refine anyE_take 6 (v := ?_) rfl (by kernel_rfl) (fun _ _ _ h => h) (by rfl) ?hy6s hHeld ?rest6s
        case hy6s => (intro w hSw; refine yields_look (B := KI) (.tmp 13) (.tmp 18) 83 ?_ 69 Try.underlying83 _ (zero_line w) ?_ hSw.2.2.2 z ?_ HW (.agg #[.slice a1 l.1.length c1, .slice b1 l.2.length d1]) true ?_ ?_; rfl; rfl; rfl; (rw [HMV.out]; rfl); (rw [HMV.out]; rfl))
        try simp only [Act.put, List.setIfInBounds_toArray, List.set_cons_zero, List.set_cons_succ]
        refine anyE_take 7 (v := ?_) rfl (by kernel_rfl) (fun _ _ _ h => h) (by rfl) ?hy7s hHeld ?rest7s
        case hy7s => (intro w hSw; (try dsimp only at hSw); go_simp; try with_reducible rfl)
        try simp only [Act.put, List.setIfInBounds_toArray, List.set_cons_zero, List.set_cons_succ]
        refine anyE_take 8 (v := ?_) rfl (by kernel_rfl) (fun _ _ _ h => h) (by rfl) ?hy8s hHeld ?rest8s
        case hy8s => (intro w hSw; (try dsimp only at hSw); go_simp; try with_reducible rfl)
        try simp only [Act.put, List.setIfInBounds_toArray, List.set_cons_zero, List.set_cons_succ]
        refine anyE_take 9 (v := ?_) rfl (by kernel_rfl) (fun _ _ _ h => h) (by rfl) ?hy9s hHeld ?rest9s
        case hy9s => (intro w hSw; (try dsimp only at hSw); go_simp; try with_reducible rfl)
        try simp only [Act.put, List.setIfInBounds_toArray, List.set_cons_zero, List.set_cons_succ]
        refine anyE_one 10 rfl (by kernel_rfl) (fun K hK => ?_)
        go_simp
        refine hK.out _ _ (fun _ => KEEP.out _ (HA0.drew.alloc _)) (fun hHeld => ?_); replace hHeld := hHeld rfl
        clear hK K
        try simp only [Act.put, List.setIfInBounds_toArray, List.set_cons_zero, List.set_cons_succ]
        refine anyE_one 11 rfl (by kernel_rfl) (fun K hK => ?_)
        go_simp
        refine hK.out _ _ (fun _ => KEEP.out _ (HA0.drew.alloc _)) (fun hHeld => ?_); replace hHeld := hHeld rfl
        clear hK K
        try simp only [Act.put, List.setIfInBounds_toArray, List.set_cons_zero, List.set_cons_succ]
        refine anyE_take 12 (v := ?_) rfl (by kernel_rfl) (fun _ _ _ h => h) (by rfl) ?hy12s hHeld ?rest12s
        case hy12s => (intro w hSw; (try dsimp only at hSw); go_simp; try with_reducible rfl)
        try simp only [Act.put, List.setIfInBounds_toArray, List.set_cons_zero, List.set_cons_succ]
        refine anyE_done (by kernel_rfl) ?_ _
        go_wp2
        go_upto_region 6 with fail
        obtain ⟨w2, hw2⟩ : ∃ w2, w2 = (wr.alloc (.cells #[.slice a1 l.1.length c1, .slice b1 l.2.length d1] 69)).drew := ⟨_, rfl⟩
        rw [← hw2]
        have hb1 : Below wr.heap.size wr w2 := by rw [hw2]; exact (ext_alloc wr _).drew
        have RC : Row w2 wr.heap.size 69 [.slice a1 l.1.length c1, .slice b1 l.2.length d1] := by rw [hw2]; exact (row_new wr _ _).agree (S := fun _ => True) ((Agree.refl _ _).drew) trivial
        have hw2s : wr.heap.size < w2.heap.size := RC.lt
        have R0 := R0.ext hb1
        have R1 := R1.ext hb1
        have IA := IA.ext hb1
        have IB := IB.ext hb1
        have il1 := il1.ext hb1
        have il2 := il2.ext hb1
        have hb2 := ext_trans hb hb1
        clear hw2 KEEP HA0 hL q q00 q01 cy hMr hb1
        obtain ⟨q00, q01⟩ := R0.two
        obtain ⟨p0, p1⟩ := RC.two
        have h0w := R0.lt
        have HS1 := Lib.hid (fun W (hW : Below w2.heap.size w2 W) => sum_calls (IA.ext hW) (il1.ext hW) (by omega))
        have HS2 := Lib.hid (fun W (hW : Below w2.heap.size w2 W) => sum_calls (IB.ext hW) (il2.ext hW) (by omega))
        have HA0 : Agree (fun b => b < w2.heap.size) w2 w2 := .refl _ _
        have KEEP : Hid (∀ W', Agree (fun b => b < w2.heap.size) w2 W' → (fun w' : World => w'.cell? ⟨w.heap.size, 0, none⟩ = some (.slice aa y.1.length ca) ∧ w'.cell? ⟨w.heap.size, 1, none⟩ = some (.slice ab y.2.length cb) ∧ w'.cell? ⟨wr.heap.size, 0, none⟩ = some (.slice a1 l.1.length c1) ∧ w'.cell? ⟨wr.heap.size, 1, none⟩ = some (.slice b1 l.2.length d1)) W') := Lib.hid (fun W' hW' => ⟨cell_agree q00 hW' (show _ < _ by dsimp only; omega), cell_agree q01 hW' (show _ < _ by dsimp only; omega), cell_agree p0 hW' (show _ < _ by dsimp only; omega), cell_agree p1 hW' (show _ < _ by dsimp only; omega)⟩)
        refine region_E (fun w' : World => w'.cell? ⟨w.heap.size, 0, none⟩ = some (.slice aa y.1.length ca) ∧ w'.cell? ⟨w.heap.size, 1, none⟩ = some (.slice ab y.2.length cb) ∧ w'.cell? ⟨wr.heap.size, 0, none⟩ = some (.slice a1 l.1.length c1) ∧ w'.cell? ⟨wr.heap.size, 1, none⟩ = some (.slice b1 l.2.length d1)) (fun i => i == 11) (by kernel_rfl) ?_ (fun hHeld => ?_)
        · exact KEEP.out _ HA0.drew
        refine anyE_take 0 (v := ?_) rfl (by kernel_rfl) (fun _ _ _ h => h) (by rfl) ?hy0q hHeld ?rest0q
        case hy0q => (intro w hSw; (try dsimp only at hSw); go_simp; try with_reducible rfl)
        try simp only [Act.put, List.setIfInBounds_toArray, List.set_cons_zero, List.set_cons_succ]
        refine anyE_take 1 (v := ?_) rfl (by kernel_rfl) (fun _ _ _ h => h) (by rfl) ?hy1q hHeld ?rest1q
        case hy1q => (intro w hSw; (try dsimp only at hSw); go_simp; try with_reducible rfl)
        try simp only [Act.put, List.setIfInBounds_toArray, List.set_cons_zero, List.set_cons_succ]
        refine anyE_take 2 (v := ?_) rfl (by kernel_rfl) (fun _ _ _ h => h) (by rfl) ?hy2q hHeld ?rest2q
        case hy2q => (intro w hSw; (try dsimp only at hSw); go_simp; try with_reducible rfl)
        try simp only [Act.put, List.setIfInBounds_toArray, List.set_cons_zero, List.set_cons_succ]
        refine anyE_take 3 (v := ?_) rfl (by kernel_rfl) (fun _ _ _ h => h) (by rfl) ?hy3q hHeld ?rest3q
        case hy3q => (intro w hSw; (try dsimp only at hSw); go_simp; try with_reducible rfl)
        try simp only [Act.put, List.setIfInBounds_toArray, List.set_cons_zero, List.set_cons_succ]
        refine anyE_take 5 (v := ?_) rfl (by kernel_rfl) (fun _ _ _ h => h) (by rfl) ?hy5q hHeld ?rest5q
        case hy5q => (intro w hSw; (try dsimp only at hSw); go_simp; try with_reducible rfl)
        try simp only [Act.put, List.setIfInBounds_toArray, List.set_cons_zero, List.set_cons_succ]
        refine anyE_take 6 (v := ?_) rfl (by kernel_rfl) (fun _ _ _ h => h) (by rfl) ?hy6q hHeld ?rest6q
        case hy6q => (intro w hSw; (try dsimp only at hSw); go_simp; try with_reducible rfl)
        try simp only [Act.put, List.setIfInBounds_toArray, List.set_cons_zero, List.set_cons_succ]
        refine anyE_take 7 (v := ?_) rfl (by kernel_rfl) (fun _ _ _ h => h) (by rfl) ?hy7q hHeld ?rest7q
        case hy7q => (intro w hSw; (try dsimp only at hSw); go_simp; try with_reducible rfl)
        try simp only [Act.put, List.setIfInBounds_toArray, List.set_cons_zero, List.set_cons_succ]
        refine anyE_take 8 (v := ?_) rfl (by kernel_rfl) (fun _ _ _ h => h) (by rfl) ?hy8q hHeld ?rest8q
        case hy8q => (intro w hSw; (try dsimp only at hSw); go_simp; try with_reducible rfl)
        try simp only [Act.put, List.setIfInBounds_toArray, List.set_cons_zero, List.set_cons_succ]
        refine anyE_one 4 rfl (by kernel_rfl) (fun K hK => ?_)
        go_simp; go_at_call 58; refine (HS1.out _ (drewN_below _ _ 1)).mono ?_; rintro _ w5 ⟨v5, rfl, hb5, hx5⟩; obtain ⟨a5, c5, rfl, _⟩ := hx5.form; have hbb : Below w2.heap.size w2 w5 := ext_trans (drewN_below _ _ 1) hb5; have HA5 : Agree (fun b => b < w2.heap.size) w2 w5 := .of_ext hbb
        refine hK.out _ _ (fun _ => KEEP.out _ HA5) (fun hHeld => ?_); replace hHeld := hHeld rfl
        clear hK K
        try simp only [Act.put, List.setIfInBounds_toArray, List.set_cons_zero, List.set_cons_succ]
        refine anyE_one 9 rfl (by kernel_rfl) (fun K hK => ?_)
        go_simp; go_at_call 58; refine (HS2.out _ hbb).mono ?_; rintro _ w6 ⟨v6, rfl, hb5', hx6⟩; obtain ⟨a6, c6, rfl, _⟩ := hx6.form; have HA6 : Agree (fun b => b < w2.heap.size) w2 w6 := HA5.trans (.of_below hb5' fun b hb hl => hl); have R0' := (R0.ext hbb).ext hb5'; obtain ⟨r00, r01⟩ := R0'.two; have f00 := R0'.free 0; have f01 := R0'.free 1; have h6w := R0'.lt
        refine hK.out _ _ (fun _ => KEEP.out _ HA6) (fun hHeld => ?_); replace hHeld := hHeld rfl
        clear hK K
        try simp only [Act.put, List.setIfInBounds_toArray, List.set_cons_zero, List.set_cons_succ]
        refine anyE_take 10 (v := ?_) rfl (by kernel_rfl) (fun _ _ _ h => h) (by rfl) ?hy10q hHeld ?rest10q
        case hy10q => (intro w hSw; (try dsimp only at hSw); go_simp; try with_reducible rfl)
        try simp only [Act.put, List.setIfInBounds_toArray, List.set_cons_zero, List.set_cons_succ]
        refine anyE_one 11 rfl (by kernel_rfl) (fun K hK => ?_)
        go_simp
        refine hK.out _ _ (fun h => by simp at h) (fun hHeld => ?_)
        clear hK K
        try simp only [Act.put, List.setIfInBounds_toArray, List.set_cons_zero, List.set_cons_succ]
        refine anyE_done (by kernel_rfl) ?_ _
        have hb6 := ext_trans hbb hb5'
        have hs6 := hb6.size
        have R0s := by simpa using (R0'.set 0 (.slice a5 (xorL y.1 l.1).length c5)).set 1 (.slice a6 (xorL y.2 l.2).length c6)
        have R1s := (R1.ext hb6).agree (S := fun b => b ≠ w.heap.size) ((Agree.of_grown (grownBy_setCell w6 w.heap.size 0 (.slice a5 (xorL y.1 l.1).length c5)) fun b hb e => by cases e; exact hb rfl).trans (.of_grown (grownBy_setCell _ w.heap.size 1 (.slice a6 (xorL y.2 l.2).length c6)) fun b hb e => by cases e; exact hb rfl)) (by omega)
        have IAs := ((hx5.ext hb5').agree ((Agree.of_grown (grownBy_setCell w6 w.heap.size 0 (.slice a5 (xorL y.1 l.1).length c5)) fun b hb e => by cases e; have : w2.heap.size ≤ w.heap.size := hb; omega).trans (.of_grown (grownBy_setCell _ w.heap.size 1 (.slice a6 (xorL y.2 l.2).length c6)) fun b hb e => by cases e; have : w2.heap.size ≤ w.heap.size := hb; omega))).mono (S' := fun b => (S b ∧ b < w.heap.size) ∨ w.heap.size + 1 < b) fun b hb => .inr (by have : w2.heap.size ≤ b := hb; omega)
        have hb5s := hbb.size
        have IBs := (hx6.agree ((Agree.of_grown (grownBy_setCell w6 w.heap.size 0 (.slice a5 (xorL y.1 l.1).length c5)) fun b hb e => by cases e; have : w5.heap.size ≤ w.heap.size := hb; omega).trans (.of_grown (grownBy_setCell _ w.heap.size 1 (.slice a6 (xorL y.2 l.2).length c6)) fun b hb e => by cases e; have : w5.heap.size ≤ w.heap.size := hb; omega))).mono (S' := fun b => (S b ∧ b < w.heap.size) ∨ w.heap.size + 1 < b) fun b hb => .inr (by have : w5.heap.size ≤ b := hb; omega)
        have hbf := set2_below (.slice a5 (xorL y.1 l.1).length c5) (.slice a6 (xorL y.2 l.2).length c6) (ext_trans hb2 hb6) (Nat.le_refl _)
        go_wp2
        go_roundg (muP c k (addL y l))
        case measure => have := HG.out; have := HMU.out; omega
        case rel => exact ⟨k, f - 1, addL y l, _, _, rfl, HKL.out, hbf, by simp; omega, R0s, R1s, IAs, IBs, HGA.out, HR, Lib.hid (by have := HF.out; have := HMU.out; omega), Lib.hid (Nat.le_refl _)⟩
    · have hkl : k = y.1.length := by omega
      have HR : Hid (TG = y) := Lib.hid (HT.out.trans (redP_done (by omega)))
      obtain ⟨q10, q11⟩ := R1.two
      have f10 := R1.free 0
      have f11 := R1.free 1
      go_wp2
      refine bodyPost_ret (v := .agg #[.slice aa y.1.length ca, .slice ab y.2.length cb]) (by simp [results, Try.results65, go_sem, q10, q11]) rfl ?_
      refine .mk (set2_below _ _ hb (by omega)) ?_
      rw [HR.out]
      have hag := (Agree.of_grown (S := fun b => b ≠ w.heap.size + 1) (grownBy_setCell wr (w.heap.size + 1) 0 (.slice aa y.1.length ca)) fun b hb e => by cases e; exact hb rfl).trans (.of_grown (grownBy_setCell _ (w.heap.size + 1) 1 (.slice ab y.2.length cb)) fun b hb e => by cases e; exact hb rfl)
      exact ⟨_, _, rfl, (IA.agree (hag.mono fun b hb => by omega)).mono fun b hb => by rcases hb with hb | hb; exact .inl hb.1; exact .inr (by omega), (IB.agree (hag.mono fun b hb => by omega)).mono fun b hb => by rcases hb with hb | hb; exact .inl hb.1; exact .inr (by omega)⟩
end Go.Proofs.Ytijmjliijjkcbaa
