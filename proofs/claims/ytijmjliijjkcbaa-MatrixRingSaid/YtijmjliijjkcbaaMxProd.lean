/- Products: the iterator of their rows. -/
import Derived.Test.YtijmjliijjkcbaaMxClone
import Derived.Test.YtijmjliijjkcbaaRf
import Derived.Maps.AppendAt
namespace Go.Proofs.Ytijmjliijjkcbaa
set_option linter.unusedVariables false
open Go.RowKit Go.Shelf
attribute [local go_sem ↓] Go.wp_at_zero Go.wp_at_succ
attribute [local go_sem] Oper.semAt_some

def timesRows (a b : List (List Int)) : List (List Int) := a.map (sumRows b)
theorem timesRows_take {a b : List (List Int)} {k : Nat} (hk : k < a.length) : (timesRows a b).take (k + 1) = (timesRows a b).take k ++ [sumRows b (nthL a k)] := by
  unfold timesRows
  rw [← List.map_take, ← List.map_take, take_nthL hk, List.map_append]
  rfl
theorem ints_putObj {B : Nat} {w : World} {v : Value} {l : List Int} (h : Ints (fun b => B ≤ b) w v l) {r : Nat} {o : Obj} (o' : Obj) (hr : w.heap[r]? = some o) (ho : o.isCells = false) : Ints (fun b => B ≤ b) (w.putObj r o') v l := by
  obtain ⟨a, cap, rfl, ha, h1, h2, hc, hf⟩ := h
  refine ⟨a, cap, rfl, ?_, h1, h2, fun j hj => ?_, hf⟩
  · rcases ha with h | ⟨b, off, rfl, hb, hs⟩
    · exact .inl h
    · exact .inr ⟨b, off, rfl, by rw [World.putObj_size]; exact hb, hs⟩
  · exact cell_kept (hc j hj) (grownBy_putObj' w r o') (fun k hk => by cases hk; exact ⟨_, hr, ho⟩)
theorem Row.putObj {w : World} {g : Nat} {e : TypeId} {xs : List Value} (h : Row w g e xs) {r : Nat} {o : Obj} (o' : Obj) (hr : w.heap[r]? = some o) (ho : o.isCells = false) : Row (w.putObj r o') g e xs := by
  refine h.grown (grownBy_putObj' w r o') fun e => ?_
  cases e
  unfold Row at h
  rw [hr] at h
  cases h
  cases ho
theorem OwnList.putObj {e : TypeId} {B : Nat} {w : World} {v : Value} {vs : List Value} {ll : List (List Int)} (h : OwnList e B w v vs ll) {r : Nat} {o : Obj} (o' : Obj) (hr : w.heap[r]? = some o) (ho : o.isCells = false) : OwnList e B (w.putObj r o') v vs ll := by
  refine ⟨ownsRow_putObj h.row o' hr ho, fun j hj => ?_⟩
  obtain ⟨a, cap, hv, ha, h1, h2, hc, hf⟩ := h.rows j hj
  refine ⟨a, cap, hv, ?_, h1, h2, fun j hj => ?_, hf⟩
  · rcases ha with h | ⟨b, off, rfl, hb, hs⟩
    · exact .inl h
    · exact .inr ⟨b, off, rfl, by rw [World.putObj_size]; exact hb, hs⟩
  · exact cell_kept (hc j hj) (grownBy_putObj' w r o') (fun k hk => by cases hk; exact ⟨_, hr, ho⟩)

theorem below_agree {S : Nat → Prop} {w w' : World} (h : Below w.heap.size w w') : Agree S w w' := .of_ext h

set_option maxRecDepth 100000 in
set_option maxHeartbeats 4000000 in
/-- The iterator: it yields the rows of the product. -/
theorem products_gives {Sa Sb T : Nat → Prop} {w : World} {n B1 B2 : Nat} (hn : 1 ≤ n) {ac bc : Int} {aa ba : Option Addr} {an bn : Nat} {al bl : List (List Int)}
    (R1 : Row w B1 24 [.int .i64 ac, .slice aa al.length an]) (R2 : Row w B2 24 [.int .i64 bc, .slice ba bl.length bn]) (hT1 : T B1) (hT2 : T B2)
    (la : Lists Sa w (.slice aa al.length an) al) (lb : Lists Sb w (.slice ba bl.length bn) bl) (hTa : ∀ b, Sa b → T b) (hTb : ∀ b, Sb b → T b) (okb : ROk bc bl) (hr : ∀ row ∈ al, ∀ j ∈ row, 0 ≤ j ∧ j < bl.length) :
    Gives Fence.wide n Try.prog 73 #[.pointer (some ⟨B1, 0, none⟩), .pointer (some ⟨B2, 0, none⟩)] (fun x : Value × List Int => #[x.1]) (fun x b W => Ints (fun k => b ≤ k) W x.1 x.2) (Agree T) (fun xs => xs.map (·.2) = timesRows al bl) al.length w := by
  intro l J W hW hJ hY h0
  replace R1 := R1.ext hW
  replace R2 := R2.ext hW
  replace la := la.ext hW
  replace lb := lb.ext hW
  obtain ⟨_, _, hfo, ad1, _, l12⟩ := la.form
  injection hfo with e1 e2 e3
  subst e1 e3
  obtain ⟨_, _, hfo, ad2, _, l22⟩ := lb.form
  injection hfo with e1 e2 e3
  subst e1 e3
  obtain ⟨i0, hi, hz0, hz1, hz2⟩ := info_parts info_ints
  have HQA := Lib.hid (idx_one Try.underlying22 hi hz1 ad1)
  have HQB := Lib.hid (idx_one Try.underlying22 hi hz1 ad2)
  obtain ⟨i3, hi3, _, hy1, _⟩ := info_parts info_int
  have HQI := Lib.hid (fun (W : World) (a : Option Addr) (n cap : Nat) (h : Ad TT W a n cap) => idx_one Try.underlying38 hi3 hy1 h)
  clear hi hz0 hz1 hz2 hi3 hy1 ad1 ad2 e2
  have HLA := Lib.hid la
  have HLB := Lib.hid lb
  have HJ := Lib.hid hJ
  have HY := Lib.hid hY
  have OKB := Lib.hid okb
  have HR := Lib.hid hr
  have HTA := Lib.hid hTa
  have HTB := Lib.hid hTb
  have H0 := Lib.hid h0
  unfold maxLen at l12 l22
  clear la lb hJ hY okb hr hTa hTb h0
  obtain ⟨p10, p11⟩ := R1.two
  have hrz : Agree T W W := .refl _ _
  have hbz : W.heap.size ≤ W.heap.size := Nat.le_refl _
  refine callsIn_of_wp Try.func73 rfl trivial ?_ rfl
  simp only [Try.ntmps73, List.size_toArray, List.length_cons, List.length_nil, Nat.reduceAdd, Nat.reduceSub, Array.replicate_succ, Array.replicate_zero, List.push_toArray, List.append_toArray, List.nil_append, List.cons_append]
  gi_wp2
  gi_loopw [5, 6, 8, 12] (fun _ _ _ i wr => ∃ (k : Nat) (pre : List (Value × List Int)) (b : Nat), k ≤ al.length ∧ i = .int .i64 k ∧ Hid (J pre b wr) ∧ b ≤ wr.heap.size ∧ pre.length = k ∧ Hid (pre.map (·.2) = (timesRows al bl).take k) ∧ Agree T W wr) (fun _ _ _ i _ => al.length - (intOf i).toNat)
  case atStart => exact ⟨0, [], _, Nat.zero_le _, rfl, H0, hbz, rfl, Lib.hid rfl, hrz⟩
  case round =>
    obtain ⟨k, pre, b, hk, rfl, HJs, hbw, hpl, HP, hA⟩ := hrel
    obtain ⟨wo, hwo⟩ : ∃ wo : World, wo = wr := ⟨_, rfl⟩
    rw [← hwo] at HJs hbw hA ⊢
    clear hwo
    have R1w := R1.agree hA hT1
    have R2w := R2.agree hA hT2
    obtain ⟨q10, q11⟩ := R1w.two
    obtain ⟨q20, q21⟩ := R2w.two
    by_cases hlt : k < al.length
    · have q := HQA.out k hlt
      have hLw := HLA.out.agree (hA.mono HTA.out)
      obtain ⟨u, cu, iu⟩ := hLw.at (.refl _ _) hlt
      have HRK := Lib.hid (HR.out _ (nthL_mem hlt))
      have HPT := Lib.hid (timesRows_take (b := bl) hlt)
      obtain ⟨r, hr⟩ : ∃ r, r = nthL al k := ⟨_, rfl⟩
      rw [← hr] at iu HRK HPT
      have hrl := iu.len
      unfold maxLen at hrl
      obtain ⟨ar, cr, rfl, adr0, _, _, hrc, _⟩ := iu
      have HQR := Lib.hid (HQI.out wo ar r.length cr (adr0.mono fun _ _ => trivial))
      have HRC : Hid (∀ j, j < r.length → ∀ W, Below wo.heap.size wo W → W.cell? (adr ar j) = some (.int .i64 (nth r j))) := Lib.hid (fun j hj W hW => (adr0.cell (.of_ext hW) hj).trans (hrc j hj))
      have hbz2 : Below wo.heap.size wo wo := .refl _ _
      have HLBw := Lib.hid (HLB.out.agree (hA.mono HTB.out))
      have HN0 : Hid (Ints (fun k => wo.heap.size ≤ k) wo (.slice none 0 0) (sumRows bl (r.take 0))) := Lib.hid (.nil _ _)
      clear hr adr0 hLw hrc
      gi_wp2
      gi_loopw [6, 8, 18] (fun vo _ i wi => ∃ j : Nat, j ≤ r.length ∧ i = .int .i64 j ∧ Below wo.heap.size wo wi ∧ Ints (fun k => wo.heap.size ≤ k) wi vo (sumRows bl (r.take j))) (fun _ _ i _ => r.length - (intOf i).toNat)
      case atStart => exact ⟨0, Nat.zero_le _, rfl, hbz2, HN0.out⟩
      case round =>
        obtain ⟨j, hj, rfl, hbi, hI⟩ := hrel
        by_cases hjl : j < r.length
        · have qr := HQR.out j hjl
          have cj := HRC.out j hjl wr hbi
          have hrg := HRK.out _ (nth_mem hjl)
          have HT := Lib.hid (show sumRows bl (r.take (j + 1)) = xorL (sumRows bl (r.take j)) (nthL bl (nth r j).toNat) from by rw [take_nth hjl, sumRows_snoc])
          obtain ⟨m, hm⟩ : ∃ m : Nat, nth r j = (m : Int) := ⟨(nth r j).toNat, by omega⟩
          rw [hm, Int.toNat_natCast] at HT
          rw [hm] at cj hrg
          have hml : m < bl.length := by omega
          have q2 := HQB.out m hml
          obtain ⟨u2, cu2, iu2⟩ := HLBw.out.at hbi hml
          have R2i := R2w.ext hbi
          obtain ⟨q20, q21⟩ := R2i.two
          have hl1 := sumRows_len OKB.out (r.take j)
          have hl2 := OKB.out.nth_len m
          obtain ⟨av, cv, rfl, _⟩ := hI.form
          obtain ⟨au, cu3, rfl, _⟩ := iu2.form
          obtain ⟨acc, hacc⟩ : ∃ acc, acc = sumRows bl (r.take j) := ⟨_, rfl⟩
          rw [← hacc] at hI HT hl1 ⊢
          have KS := Lib.hid (sum_calls hI iu2 (by omega))
          clear hm hacc hI iu2
          gi_wp2_with fail
          refine ⟨trivial, (callsIn_wide.2 KS.out).mono ?_⟩
          rintro _ w5 ⟨v5, rfl, hb5, hI5⟩
          have hb5' := ext_trans hbi hb5
          have hI5 := hI5.mono (S' := fun b => wo.heap.size ≤ b) fun b hb => by have := hbi.size; omega
          rw [← HT.out] at hI5
          have I5 := Lib.hid hI5
          clear hI5 KS
          gi_wp2
          go_roundw
          case rel => exact ⟨j + 1, by omega, by go_num, hb5', I5.out⟩
          case measure => simp [intOf]; omega
        · obtain rfl : j = r.length := by omega
          rw [List.take_length] at hI
          obtain ⟨av, cv, rfl, _⟩ := hI.form
          have hJw := HJ.out _ _ _ _ HJs.out hbi
          have hsz := hbi.size
          obtain ⟨fn, tmps, assign, body, hy, hRnd⟩ := HY.out pre (Value.slice av (sumRows bl r).length cv, sumRows bl r) b wr hJw (by omega) (by omega) (hI.mono fun b hb => by omega)
          dsimp only at hy
          have hAi : Agree T W wr := hA.trans (.of_ext hbi)
          clear hJw hI
          gi_wp2
          refine hRnd.mono ?_
          rintro e W3 ⟨rfl, hJ3, hk3⟩
          have HJ3 := Lib.hid hJ3
          have hA3 := hAi.trans hk3
          have HPN : Hid ((pre ++ [(Value.slice av (sumRows bl r).length cv, sumRows bl r)]).map (·.2) = (timesRows al bl).take (k + 1)) := Lib.hid (by rw [HPT.out, List.map_append, HP.out]; rfl)
          clear hJ3 hy hRnd
          gi_wp2
          go_roundw
          case rel => exact ⟨k + 1, _, _, by omega, by go_num, HJ3, Nat.le_refl _, by simp; omega, HPN, hA3⟩
          case measure => simp [intOf]; omega
    · obtain rfl : k = al.length := by omega
      have HPE : Hid (pre.map (·.2) = timesRows al bl) := Lib.hid (by
        have := HP.out
        rwa [List.take_of_length_le (by unfold timesRows; rw [List.length_map]; omega)] at this)
      gi_wp2
      go_end0
      exact ⟨⟨_, rfl⟩, pre, b, HPE.out, HJs.out⟩
end Go.Proofs.Ytijmjliijjkcbaa
