/- Renamed graphs: Permute. -/
import Derived.Test.YtmlgbaogkbfklaaDoorGrT
namespace Go.Proofs.YtmlgbaogkbfklaaDoor
set_option linter.unusedVariables false
open Go.RowKit
attribute [local go_sem ↓] Go.wp_at_zero Go.wp_at_succ

def backN (pl : List Nat) (q : Nat) : Nat := if q ∈ pl.take pl.length then pl.idxOf q else 0
theorem backN_lt {pl : List Nat} (H : PermN pl) (q : Nat) : backN pl q < pl.length := by
  unfold backN
  split
  · rename_i h; rw [List.take_length] at h; exact List.idxOf_lt_length_of_mem h
  · exact H.pos
theorem nth_back {pl : List Nat} {q : Nat} (hq : q < pl.length) : nth (invTo pl pl.length) q = (backN pl q : Int) := by
  rw [nth_eq (by rw [invTo_len]; exact hq)]
  simp only [invTo, List.getElem_map, List.getElem_range, backN]
  split <;> rfl
/-- The rows of a renamed graph. -/
def permG (pl : List Nat) (h : Nat → Nat) (q : Nat) : Nat := imgTo pl (h (backN pl q)) pl.length
set_option maxRecDepth 100000 in
set_option maxHeartbeats 4000000 in
theorem permute_calls {S : Nat → Prop} {w : World} {n : Nat} {h : Nat → Nat} {pl : List Nat} {v : Value} (HG : GOK n h) (H : PermN pl) (hn : pl.length = n) (hv : Ints S w v (permI pl)) :
    Calls Tryd.prog 13 #[hV n h, v] w (Post w fun _ r => r = .tuple #[hV n (cut n (permG pl h)), .int .i64 0]) := by
  have n5 := HG.le
  have K1 := Lib.hid fun W => gcheck_calls W HG
  have K2 := Lib.hid fun W (hW : Below w.heap.size w W) => inverse_calls (w := W) H (hv.ext hW)
  have eg : ∀ args w, (callFunc 35 args).run Tryd.prog w = .ok (.enter 35 args) w := fun args w => by rfl
  have hlI : (permI pl).length = n := by simp [hn]
  obtain ⟨pa, pc, rfl, _⟩ := hv.form
  have KM : Hid (∀ (W : World) (A B C : Nat) (ba : Option Addr) (bc : Nat) (S' : Nat → Prop), Below w.heap.size w W → Ints S' W (.slice ba (invTo pl pl.length).length bc) (invTo pl pl.length) → Row W A 33 [.slice pa (permI pl).length pc] → Row W B 24 (gC n fun p => (h p : Int)) → Row W C 33 [.slice ba (invTo pl pl.length).length bc] →
      Calls Tryd.prog 29 #[.int .i64 n, .func (.func 35) #[] #[.pointer (some ⟨A, 0, none⟩), .pointer (some ⟨B, 0, none⟩), .pointer (some ⟨C, 0, none⟩)]] W (Post W fun _ r => r = hV n (cut n (permG pl h)))) :=
    Lib.hid fun W A B C ba bc S' hW hI RA RB RC => made_calls (E := #[.pointer (some ⟨A, 0, none⟩), .pointer (some ⟨B, 0, none⟩), .pointer (some ⟨C, 0, none⟩)]) (h := permG pl h) n5 eg fun W2 hW2 q hq =>
      permute1_calls H rfl (hv.ext (ext_trans hW hW2)) (hI.ext hW2) (RA.ext hW2) (RB.ext hW2) (RC.ext hW2) (by rw [invTo_len]; omega) (by have := backN_lt H q; omega) (nth_back (by omega)) (by rw [hn]; exact HG.lt _ (by have := backN_lt H q; omega))
  obtain ⟨l, hl⟩ : ∃ l, l = permI pl := ⟨_, rfl⟩
  obtain ⟨L, hL⟩ : ∃ L, L = invTo pl pl.length := ⟨_, rfl⟩
  obtain ⟨c, hc⟩ : ∃ c, c = cut n (permG pl h) := ⟨_, rfl⟩
  rw [← hl] at K2 KM hlI hv ⊢
  rw [← hL] at K2 KM
  rw [← hc] at KM ⊢
  have hln : (l.length : Int) = n := by omega
  have dl : ((l.length : Int) != (n : Int)) = false := by simp [hln]
  have DL := Lib.hid dl
  clear hl hL hc eg H HG hn hlI hln dl hv
  unfold hV gV at K1 KM ⊢
  have ex := ext_alloc' (ext_alloc' (ext_alloc w (.cells #[.int .i64 n, .int .i64 (h 0), .int .i64 (h 1), .int .i64 (h 2), .int .i64 (h 3), .int .i64 (h 4)] 24)) (.cells #[.slice pa l.length pc] 33)) (.cells #[.int .i64 0, .int .i64 0, .int .i64 0, .int .i64 0, .int .i64 0, .int .i64 0] 24)
  have R1 := ((Row.graph w n fun p => (h p : Int)).alloc (.cells #[.slice pa l.length pc] 33)).alloc (.cells #[.int .i64 0, .int .i64 0, .int .i64 0, .int .i64 0, .int .i64 0, .int .i64 0] 24)
  have R2 := (row_new (w.alloc (.cells #[.int .i64 n, .int .i64 (h 0), .int .i64 (h 1), .int .i64 (h 2), .int .i64 (h 3), .int .i64 (h 4)] 24)) [.slice pa l.length pc] 33).alloc (.cells #[.int .i64 0, .int .i64 0, .int .i64 0, .int .i64 0, .int .i64 0, .int .i64 0] 24)
  have R3 := Row.graph ((w.alloc (.cells #[.int .i64 n, .int .i64 (h 0), .int .i64 (h 1), .int .i64 (h 2), .int .i64 (h 3), .int .i64 (h 4)] 24)).alloc (.cells #[.slice pa l.length pc] 33)) 0 fun _ => 0
  simp only [World.size_alloc] at R2 R3
  obtain ⟨a0, a1, a2, a3, a4, a5⟩ := R1.six
  go_enter Tryd.func13, Tryd.ntmps13
  go_wp2_with fail
  refine (K1.out _).mono ?_
  rintro _ w1 ⟨_, rfl, hb1, rfl⟩
  clear a0 a1 a2 a3 a4 a5
  replace R1 := R1.ext hb1
  replace R2 := R2.ext hb1
  replace R3 := R3.ext hb1
  have ex1 := ext_trans ex hb1
  have b0 := R2.cell (j := 0) rfl
  clear K1 hb1 ex
  go_wp2_with fail
  refine (K2.out _ ex1).mono ?_
  rintro _ w2 ⟨_, rfl, hb2, v2, rfl, hI⟩
  clear b0
  obtain ⟨ba, bc, rfl, _⟩ := hI.form
  replace R1 := (R1.ext hb2).alloc (.cells #[.slice ba L.length bc] 33)
  replace R2 := (R2.ext hb2).alloc (.cells #[.slice ba L.length bc] 33)
  replace R3 := (R3.ext hb2).alloc (.cells #[.slice ba L.length bc] 33)
  have R4 := row_new w2 [.slice ba L.length bc] 33
  have ex2 := ext_alloc' (ext_trans ex1 hb2) (.cells #[.slice ba L.length bc] 33)
  have KM2 := Lib.hid (KM.out _ _ _ _ ba bc _ ex2 (hI.ext (ext_alloc _ _)) R2 R1 R4)
  have dl := DL.out
  obtain ⟨a0, a1, a2, a3, a4, a5⟩ := R1.six
  have b0 := R2.cell (j := 0) rfl
  clear hb2 hI K2 KM ex1
  go_wp2_with fail
  refine KM2.out.mono ?_
  rintro _ w3 ⟨_, rfl, hb3, rfl⟩
  clear a0 a1 a2 a3 a4 a5 b0 KM2 dl
  replace R3 := R3.ext hb3
  have ex3 := ext_trans ex2 hb3
  obtain ⟨a0, a1, a2, a3, a4, a5⟩ := R3.six
  have R5 := row_set6 R3 n (fun p => (c p : Int))
  have hb4 := set6_below (g := w.heap.size + 1 + 1) (.int .i64 n) (.int .i64 (c 0 : Int)) (.int .i64 (c 1 : Int)) (.int .i64 (c 2 : Int)) (.int .i64 (c 3 : Int)) (.int .i64 (c 4 : Int)) ex3 (by omega)
  have f0 := R3.free 0
  have f1 := R3.free 1
  have f2 := R3.free 2
  have f3 := R3.free 3
  have f4 := R3.free 4
  have f5 := R3.free 5
  obtain ⟨d0, d1, d2, d3, d4, d5⟩ := R5.six
  go_wp2
  refine bodyPost_ret (v := .tuple #[.agg #[.int .i64 n, .int .i64 (c 0 : Int), .int .i64 (c 1 : Int), .int .i64 (c 2 : Int), .int .i64 (c 3 : Int), .int .i64 (c 4 : Int)], .int .i64 0]) (by simp [results, Tryd.results13, go_sem, d0, d1, d2, d3, d4, d5]) rfl ?_
  exact .mk hb4 rfl
end Go.Proofs.YtmlgbaogkbfklaaDoor
