/- The iterator over the literals of clauses. -/
import Derived.Test.YtifcgcdbebgahaaClN1
import Derived.RangeFuncNested
import Derived.RangeFuncBound
import Derived.RangeFuncCalls
import Derived.RangeFuncLeaves
import Derived.RangeFuncFrom
import Derived.Shelf.Abstract
import Derived.Shelf.RegionOpen
import Derived.OwnWalkIn
import Derived.TacticsInMore
import Derived.LoopNIn
import Derived.LoopIn
namespace Go.Proofs.Ytifcgcdbebgahaa
set_option linter.unusedVariables false
open Go.RowKit Go.Shelf
attribute [local go_sem ↓] Go.wp_at_zero Go.wp_at_succ
attribute [local go_sem] Oper.semAt_some

/-- An index and a literal. -/
abbrev Lit2 := { x : Int × Int // WF x.2 }
theorem flat_take {al : List (List Int)} {k : Nat} (h : k < al.length) : (al.take (k + 1)).flatten = (al.take k).flatten ++ nthL al k := by rw [take_nthL h]; simp
theorem flat_prefix {al : List (List Int)} {k j : Nat} (h : k < al.length) : (al.take k).flatten ++ (nthL al k).take j <+: al.flatten := by
  have h1 : (al.take (k + 1)).flatten <+: al.flatten := by
    conv => rhs; rw [← List.take_append_drop (k + 1) al, List.flatten_append]
    exact List.prefix_append _ _
  refine List.IsPrefix.trans ?_ h1
  rw [flat_take h]
  exact (List.prefix_append_right_inj _).2 (List.take_prefix _ _)
set_option maxRecDepth 100000 in
set_option maxHeartbeats 4000000 in
theorem literals_stops {S : Nat → Prop} {w : World} {n B : Nat} (hn : 1 ≤ n) {aa : Option Addr} {an : Nat} {al : List (List Int)} (R1 : Row w B 22 [.slice aa al.length an]) (la : Lists S w (.slice aa al.length an) al) :
    SeqStopsK Fence.wide n Try.prog 79 #[.pointer (some ⟨B, 0, none⟩)] (fun x : Lit2 => #[.int .i64 x.1.1, .int .i64 x.1.2]) (Below w.heap.size) (fun xs => xs.map (fun x => x.1.2) = al.flatten) (fun pre => pre.map (fun x => x.1.2) <+: al.flatten) al.flatten.length w := by
  intro l J Jx W hW hJ hJx hY h0
  obtain ⟨_, _, hfo, ad1, _, l12⟩ := la.form
  injection hfo with e1 e2 e3
  subst e1 e3
  obtain ⟨i0, hi, hz0, hz1, hz2⟩ := info_parts info_ints
  have HQA := Lib.hid (idx_one Try.underlying22 hi hz1 ad1)
  obtain ⟨i3, hi3, _, hy1, _⟩ := info_parts info_int
  have HQI := Lib.hid (fun (W : World) (S : Nat → Prop) (a : Option Addr) (n cap : Nat) (h : Ad S W a n cap) => idx_one Try.underlying25 hi3 hy1 h)
  have HLA := Lib.hid la
  have HY := Lib.hid hY
  have H0 := Lib.hid h0
  unfold maxLen at l12
  have p1 := (R1.ext hW).cell (j := 0) rfl
  clear hi hz0 hz1 hz2 hi3 hy1 ad1 e2 la hJ hJx hY h0 R1
  refine callsIn_of_wp Try.func79 rfl trivial ?_ rfl
  simp only [Try.ntmps79, List.size_toArray, List.length_cons, List.length_nil, Nat.reduceAdd, Nat.reduceSub, Array.replicate_succ, Array.replicate_zero, List.push_toArray, List.append_toArray, List.nil_append, List.cons_append]
  gi_wp2
  gi_loopw [9] (fun i wr => ∃ (k : Nat) (pre : List Lit2), k ≤ al.length ∧ i = .int .i64 k ∧ Hid (J pre wr) ∧ Hid (pre.map (fun x => x.1.2) = (al.take k).flatten) ∧ Below w.heap.size w wr) (fun i _ => al.length - (intOf i).toNat)
  case atStart => exact ⟨0, [], Nat.zero_le _, rfl, H0, Lib.hid rfl, hW⟩
  case round =>
    obtain ⟨k, pre, hk, rfl, HJs, HP, hb⟩ := hrel
    obtain ⟨wo, hwo⟩ : ∃ wo : World, wo = wr := ⟨_, rfl⟩
    rw [← hwo] at HJs hb ⊢
    clear hwo
    by_cases hlt : k < al.length
    · have q := HQA.out k hlt
      obtain ⟨u, cu, iu⟩ := HLA.out.at hb hlt
      have HIU := Lib.hid (HLA.out.at (.refl _ _) hlt)
      have HFT := Lib.hid (flat_take hlt)
      have HFP := Lib.hid (fun j => flat_prefix (al := al) (k := k) (j := j) hlt)
      have HRW : Hid (∃ v, u = v ∧ Ints S w v (nthL al k)) := Lib.hid (by
        obtain ⟨v, c0, iv⟩ := HIU.out
        have := cell_ext c0 hb
        rw [this] at cu
        injection cu with cu
        exact ⟨v, cu.symm, iv⟩)
      obtain ⟨v, rfl, iv⟩ := HRW.out
      obtain ⟨r, hr⟩ : ∃ r, r = nthL al k := ⟨_, rfl⟩
      rw [← hr] at iv HFT HFP
      obtain ⟨ar, cr, rfl, adr0, _, lr⟩ := iv.form
      unfold maxLen at lr
      have hrl := iv.len
      unfold maxLen at hrl
      have HQR := Lib.hid (HQI.out w S ar r.length cr adr0)
      have HRC := Lib.hid (ints_cells0 iv)
      have HADR := Lib.hid adr0
      have HWFR := Lib.hid iv.wf
      have HPI : Hid (pre.map (fun x => x.1.2) = (al.take k).flatten ++ r.take 0) := Lib.hid (by simpa using HP.out)
      clear hr adr0 iu iv HRW HIU
      gi_wp2
      gi_loopw [16] (fun i wi => ∃ (j : Nat) (pre : List Lit2), j ≤ r.length ∧ i = .int .i64 j ∧ Hid (J pre wi) ∧ Hid (pre.map (fun x => x.1.2) = (al.take k).flatten ++ r.take j) ∧ Below w.heap.size w wi) (fun i _ => r.length - (intOf i).toNat)
      case atStart => exact ⟨0, pre, Nat.zero_le _, rfl, HJs, HPI, hb⟩
      case round =>
        clear HJs HP hb HPI
        obtain ⟨j, pre, hj, rfl, HJs, HP, hb⟩ := hrel
        by_cases hjl : j < r.length
        · have qr := HQR.out j hjl
          have cj := cells_at HADR.out hb HRC.out j hjl
          have hwf := HWFR.out _ (nth_mem hjl)
          have HTK := Lib.hid (take_nth hjl)
          obtain ⟨y, hy⟩ : ∃ y, y = nth r j := ⟨_, rfl⟩
          rw [← hy] at cj hwf HTK
          have hpl : pre.length < al.flatten.length := by
            have h1 := congrArg List.length HP.out
            rw [List.length_map] at h1
            have h2 := (HFP.out (j + 1)).length_le
            rw [HTK.out, ← List.append_assoc, List.length_append] at h2
            simp at h2 h1
            simp
            omega
          obtain ⟨fn, tmps, assign, body, hyy, hRnd⟩ := HY.out pre ⟨((k : Int), y), hwf⟩ wr HJs.out hpl
          dsimp only at hyy
          have HPN : Hid ((pre ++ [(⟨((k : Int), y), hwf⟩ : Lit2)]).map (fun x => x.1.2) = (al.take k).flatten ++ r.take (j + 1)) := Lib.hid (by rw [HTK.out, List.map_append, HP.out]; simp)
          have HPX := Lib.hid (HFP.out (j + 1))
          rw [← HPN.out] at HPX
          clear hpl hy
          gi_wp2
          refine hRnd.mono ?_
          rintro e W3 (⟨rfl, hJ3, hk3⟩ | ⟨rfl, hJx3⟩)
          · have HJ3 := Lib.hid hJ3
            have hb3 := hb.trans hk3
            clear hJ3 hyy hRnd
            gi_wp2
            go_roundw
            case rel => exact ⟨j + 1, _, by omega, by go_num, HJ3, HPN, hb3⟩
            case measure => simp [intOf]; omega
          · have HJ3 := Lib.hid hJx3
            clear hJx3 hyy hRnd
            gi_wp2
            refine bodyPost_ret (results_none rfl _ _ _) rfl ?_
            exact ⟨⟨_, rfl⟩, .inr ⟨_, HPX.out, HJ3.out⟩⟩
        · obtain rfl : j = r.length := by omega
          have HPN : Hid (pre.map (fun x => x.1.2) = (al.take (k + 1)).flatten) := Lib.hid (by rw [HFT.out, HP.out, List.take_length])
          clear HP
          gi_wp2
          go_roundw
          case rel => exact ⟨k + 1, pre, by omega, by go_num, HJs, HPN, hb⟩
          case measure => simp [intOf]; omega
    · obtain rfl : k = al.length := by omega
      have HPE : Hid (pre.map (fun x => x.1.2) = al.flatten) := Lib.hid (by rw [HP.out, List.take_length])
      gi_wp2
      go_end0
      exact ⟨⟨_, rfl⟩, .inl ⟨pre, HPE.out, HJs.out⟩⟩
theorem literals_calls (w : World) {a : Option Addr} {n c : Nat} : Calls Try.prog 67 #[.slice a n c] w fun e w' => e = .returned (.func (.func 79) #[] #[.pointer (some ⟨w.heap.size, 0, none⟩)]) ∧ w' = w.alloc (.cells #[.slice a n c] 22) := by
  go_enter Try.func67, Try.ntmps67
  go_wp2
  go_ret
  exact ⟨rfl, rfl⟩

/-! the clauses of the normal form, in the program -/
def badN (n : Int) (rows : List (List Int)) : Bool := rows.flatten.any fun x => !goodP n x
theorem badN_false {n : Int} {rows : List (List Int)} : badN n rows = false ↔ ∀ r ∈ rows, ∀ y ∈ r, goodP n y = true := by
  unfold badN
  rw [List.any_eq_false]
  constructor
  · intro h r hr y hy
    have := h y (List.mem_flatten.2 ⟨r, hr, hy⟩)
    simpa using this
  · intro h y hy
    obtain ⟨r, hr, hyr⟩ := List.mem_flatten.1 hy
    simp [h r hr y hyr]
def normalS (m : Mx) : Mx × Int := if sizesS m ≠ 0 then (⟨0, []⟩, sizesS m) else if badN m.cols m.rows = true then (⟨0, []⟩, 2) else (⟨m.cols, normP m.rows⟩, 0)
theorem normalS_err {m : Mx} (h : sizesS m ≠ 0) : normalS m = (⟨0, []⟩, sizesS m) := by unfold normalS; rw [if_pos h]
theorem normalS_bad {m : Mx} (h : sizesS m = 0) (h2 : badN m.cols m.rows = true) : normalS m = (⟨0, []⟩, 2) := by unfold normalS; rw [if_neg (by simp [h]), if_pos h2]
theorem normalS_ok {m : Mx} (h : sizesS m = 0) (h2 : badN m.cols m.rows = false) : normalS m = (⟨m.cols, normP m.rows⟩, 0) := by unfold normalS; rw [if_neg (by simp [h]), if_neg (by simp [h2])]

theorem RefsV.mono {S S' : Nat → Prop} {w : World} {vs : List Value} {ll : List (List Int)} (h : RefsV S w vs ll) (hS : ∀ b, S b → S' b) : RefsV S' w vs ll := ⟨h.1, fun j hj => (h.2 j hj).mono hS⟩
theorem RefsV.block {S : Nat → Prop} {w : World} {vs : List Value} {ll : List (List Int)} (h : RefsV S w vs ll) : RefsV (fun b => S b ∧ b < w.heap.size) w vs ll := ⟨h.1, fun j hj => (h.2 j hj).block 0⟩
set_option maxRecDepth 100000 in
set_option maxHeartbeats 4000000 in
/-- apply over the closure of Normal. -/
theorem applyNorm_calls {S : Nat → Prop} {w : World} {P : Nat} {va : Value} {l : List (List Int)} {n : Int} (ha : Lists S w va l) (hS : ∀ b, S b → b < P) (hl : l.length ≤ 100000) (hr : ∀ r ∈ l, r.length ≤ 100000) (hn : n ≤ 100000) (hg : ∀ r ∈ l, ∀ z ∈ r, goodP n z = true) (hR : Row w P 22 [.slice none 0 0]) :
    Calls Try.prog 47 #[va, .func (.func 68) #[] #[.pointer (some ⟨P, 0, none⟩)]] w fun e w' => ∃ r, e = .returned r ∧ Below P w w' ∧ Lists (fun b => P < b) w' r (normP l) := by
  obtain ⟨a, cap, rfl, ad, l1, lm⟩ := ha.form
  unfold maxLen at lm
  obtain ⟨i0, hi, hz1, hz2, hz3⟩ := info_parts info_ints
  have HQ := Lib.hid (idx_one Try.underlying22 hi hz2 ad)
  have HA := Lib.hid ha
  have HS := Lib.hid hS
  have HRL := Lib.hid hr
  have HG := Lib.hid hg
  have HNL := Lib.hid (norm_len l)
  have hPl := hR.lt
  have eg : ∀ args w, (callFunc 68 args).run Try.prog w = .ok (.enter 68 args) w := fun args w => by rfl
  clear hi hz1 hz2 hz3 ha hS hr hg
  have hPP := Below.refl P w
  go_enter Try.func47, Try.ntmps47
  go_wp2
  go_loopw [5, 12] (fun vo i wr => ∃ (k : Nat) (v1 : Value) (vs : List Value) (acc : List (List Int)), k ≤ l.length ∧ i = .int .i64 k ∧ Below P w wr ∧ P + 1 ≤ wr.heap.size ∧ Hid (acc = normP (l.take k)) ∧ Row wr P 22 [v1] ∧ Hid (wr.ownsRow (P + 1) 25 1 v1 acc.length vs) ∧ Hid (wr.ownsRow (P + 1) 25 1 vo acc.length vs) ∧ Hid (∀ k, v1.ownBlock = some k → vo.ownBlock ≠ some k) ∧ Hid (RefsV (fun b => P < b ∧ v1.ownBlock ≠ some b ∧ vo.ownBlock ≠ some b) wr vs acc)) (fun _ i _ => l.length - (intOf i).toNat)
  case atStart => exact ⟨0, .slice none 0 0, [], [], Nat.zero_le _, rfl, hPP, hPl, Lib.hid rfl, hR, Lib.hid (World.ownsRow_nil _ _ _ _), Lib.hid (World.ownsRow_nil _ _ _ _), Lib.hid (fun k hk => by cases hk), Lib.hid (RefsV.nil _ _)⟩
  case round =>
    clear hR hPl hPP
    obtain ⟨k, v1, vs, acc, hk, rfl, hb, hsz, HAC, hR, HO1, HO2, HAP, HRV⟩ := hrel
    by_cases hlt : k < l.length
    · have q := HQ.out k hlt
      have hAg : Agree S w wr := .of_below hb fun b hb _ => HS.out b hb
      have haw := HA.out.agree hAg
      obtain ⟨u, cu, iu⟩ := haw.at (.refl _ _) hlt
      have hxl := HRL.out _ (nthL_mem hlt)
      have hxg := HG.out _ (nthL_mem hlt)
      have HNS := Lib.hid (norm_succ hlt)
      rw [← HAC.out] at HNS
      have hacl : acc.length ≤ 100000 := by have := HNL.out k; rw [← HAC.out] at this; omega
      obtain ⟨x, hx⟩ : ∃ x, x = nthL l k := ⟨_, rfl⟩
      rw [← hx] at iu hxl hxg HNS
      have KN := Lib.hid (norm1_calls iu hxl hn hxg hR HO1.out HRV.out (by omega) hsz hacl)
      obtain ⟨o, ho⟩ : ∃ o, o = nextN acc x := ⟨_, rfl⟩
      rw [← ho] at KN HNS
      have HLT1 := Lib.hid HO1.out.lt
      have HLT2 := Lib.hid HO2.out.lt
      clear hx ho hxg hxl iu haw hAg HAC
      go_wp2_with fail
      refine KN.out.mono ?_
      rintro _ w2 ⟨_, rfl, hbP, hp2⟩
      have hb2 := hb.trans hbP
      have hs2 : wr.heap.size ≤ w2.heap.size := hbP.size
      clear KN cu
      cases o with
      | none =>
        obtain ⟨rfl, hbb⟩ := hp2
        have HN2 : Hid (acc = normP (l.take (k + 1))) := Lib.hid HNS.out.symm
        have R2 := hR.ext hbb
        have O1 := Lib.hid (owns_ext HO1.out hbb)
        have O2 := Lib.hid (owns_ext HO2.out hbb)
        have RV := Lib.hid (HRV.out.ext hbb)
        clear hR HO1 HO2 HRV hbb
        go_wp2
        go_roundw
        case rel => exact ⟨k + 1, v1, vs, acc, by omega, by go_num, hb2, by omega, HN2, R2, O1, O2, HAP, RV⟩
        case measure => simp [intOf]; omega
      | some d =>
        obtain ⟨ad2, cap2, g, c, rfl, hd, hR2, hO1, hAgr, hat⟩ := hp2
        have HN2 : Hid (acc ++ [d] = normP (l.take (k + 1))) := Lib.hid HNS.out.symm
        have hvo : ∀ k, u5.ownBlock = some k → k ≠ P ∧ v1.ownBlock ≠ some k := fun k hk => ⟨fun e => by have := (HLT2.out k hk).1; omega, fun e => HAP.out k e hk⟩
        have hO2 := Lib.hid (owns_agree HO2.out hAgr fun k hk => hvo k hk)
        have hgo : ∀ k, u5.ownBlock = some k → k ≠ g := fun k hk e => by
          subst e
          rcases hat with h | h
          · exact HAP.out k h hk
          · have := (HLT2.out k hk).2; omega
        have FIN : ∀ g5 c5 w5, w5.ownsRow (P + 1) 25 1 (.slice (some ⟨g5, 0, none⟩) (acc.length + 1) c5) (acc.length + 1) (vs ++ [.slice ad2 d.length cap2]) → Below (P + 1) w2 w5 → (∀ S : Nat → Prop, (∀ k, u5.ownBlock = some k → ¬ S k) → Agree S w2 w5) → (u5.ownBlock = some g5 ∨ w2.heap.size ≤ g5) →
            Row w5 P 22 [.slice (some ⟨g, 0, none⟩) (acc.length + 1) c] ∧ w5.ownsRow (P + 1) 25 1 (.slice (some ⟨g, 0, none⟩) (acc.length + 1) c) (acc ++ [d]).length (vs ++ [.slice ad2 d.length cap2]) ∧ w5.ownsRow (P + 1) 25 1 (.slice (some ⟨g5, 0, none⟩) (acc.length + 1) c5) (acc ++ [d]).length (vs ++ [.slice ad2 d.length cap2]) ∧
            (∀ k, (Value.slice (some ⟨g, 0, none⟩) (acc.length + 1) c).ownBlock = some k → (Value.slice (some ⟨g5, 0, none⟩) (acc.length + 1) c5).ownBlock ≠ some k) ∧
            RefsV (fun b => P < b ∧ (Value.slice (some ⟨g, 0, none⟩) (acc.length + 1) c).ownBlock ≠ some b ∧ (Value.slice (some ⟨g5, 0, none⟩) (acc.length + 1) c5).ownBlock ≠ some b) w5 (vs ++ [.slice ad2 d.length cap2]) (acc ++ [d]) := by
          intro g5 c5 w5 hown5 hbel5 hag5 hat5
          have hgl : g < w2.heap.size := (hO1.lt g rfl).2
          refine ⟨hR2.agree (hag5 (fun b => b = P) fun k hk e => (hvo k hk).1 e) rfl, ?_, by rw [List.length_append]; exact hown5, ?_, ?_⟩
          · rw [List.length_append]
            exact owns_agree hO1 (hag5 (fun b => u5.ownBlock ≠ some b) fun k hk h => h hk) fun k hk e => by cases hk; exact hgo _ e rfl
          · intro k hk e
            cases hk
            cases e
            rcases hat5 with h | h
            · exact hgo _ h rfl
            · omega
          · have r1 := ((HRV.out.block.agree (hAgr.mono fun b hb => ⟨by have h9 : P < b := hb.1.1; omega, hb.1.2.1⟩)).agree (hag5 _ fun k hk h => h.1.2.2 hk)).mono (S' := fun b => P < b ∧ (Value.slice (some ⟨g, 0, none⟩) (acc.length + 1) c).ownBlock ≠ some b ∧ (Value.slice (some ⟨g5, 0, none⟩) (acc.length + 1) c5).ownBlock ≠ some b) fun b hb => ⟨hb.1.1, fun e => by
                have hb2 : b < wr.heap.size := hb.2
                have e : g = b := Option.some.inj e
                subst e
                rcases hat with h | h
                · exact hb.1.2.1 h
                · omega, fun e => by
                have hb2 : b < wr.heap.size := hb.2
                have e : g5 = b := Option.some.inj e
                subst e
                rcases hat5 with h | h
                · exact hb.1.2.2 h
                · omega⟩
            refine RefsV.snoc r1 (((hd.block 0).agree ((hag5 (fun b => wr.heap.size ≤ b) fun k hk h => by have := (HLT2.out k hk).2; omega).mono fun b hb => hb.1.1)).mono fun b hb => ⟨by have h9 : wr.heap.size ≤ b := hb.1.1; omega, fun e => by cases e; exact hb.1.2 rfl, fun e => by
              have hb1 : wr.heap.size ≤ b := hb.1.1
              have hb2 : b < w2.heap.size := hb.2
              have e : g5 = b := Option.some.inj e
              subst e
              rcases hat5 with h | h
              · have := (HLT2.out _ h).2; omega
              · omega⟩)
        have FIN := Lib.hid FIN
        have hsz2 : P + 1 ≤ w2.heap.size := by omega
        have BB := Lib.hid (show (acc.length + 1) * 24 ≤ 140737488355328 by omega)
        clear hd hR2 hO1 hAgr hat hvo hgo hR HO1 HO2 HRV HLT1 HLT2
        go_wp2_with (at_builtin; refine wpList_push rfl _ _ 22 rfl 25 _ 24 Try.underlying22 info_ints rfl (P + 1) _ _ _ rfl hO2.out (.slice ad2 d.length cap2) rfl rfl BB.out (by omega) hsz2 ?_; intro g5 c5 w5 hown5 hbel5 hag5 hat5; have F5 := Lib.hid (FIN.out g5 c5 w5 hown5 hbel5 hag5 hat5); have hb5 := hb2.trans (hbel5.mono (by omega)); have hs5 := Nat.le_trans hsz2 hbel5.size; clear hown5 hbel5 hag5 hat5)
        obtain ⟨f1, f2, f3, f4, f5⟩ := F5.out
        have F2 := Lib.hid f2
        have F3 := Lib.hid f3
        have F4 := Lib.hid f4
        have FR := Lib.hid f5
        clear f2 f3 f4 f5 F5
        go_wp2
        go_roundw
        case rel => exact ⟨k + 1, _, _, _, by omega, by go_num, hb5, hs5, HN2, f1, F2, F3, F4, FR⟩
        case measure => simp [intOf]; omega
    · obtain rfl : k = l.length := by omega
      rw [List.take_length] at HAC
      have HL := Lib.hid (Lists.of_own (S := fun b => P < b) HO2.out (RefsV.mono HRV.out fun b hb => hb.1) (fun b hb => hb))
      rw [HAC.out] at HL
      obtain ⟨az, cz, rfl, _⟩ := HL.out.form
      go_wp2
      go_ret
      exact ⟨_, rfl, hb, HL.out⟩
end Go.Proofs.Ytifcgcdbebgahaa
