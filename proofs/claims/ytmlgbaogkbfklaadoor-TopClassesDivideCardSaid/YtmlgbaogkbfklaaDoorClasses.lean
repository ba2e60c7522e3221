/- The contracts of Classes and Count. -/
import Derived.Test.YtmlgbaogkbfklaaDoorPartMath3
namespace Go.Proofs.YtmlgbaogkbfklaaDoor
set_option linter.unusedVariables false
open Go.RowKit

theorem info_slice : (Tryd.prog.info? 33).map (fun i => (i.zero, i.size, i.bytes)) = some (some (.slice none 0 0), 1, 24) := by kernel_rfl

/-- A list of lists in new memory, and an error. -/
def RetLL (B : Nat) (p : List (List Int) × Int) (w' : World) (r : Value) : Prop := ∃ v, r = .tuple #[v, .int .i64 p.2] ∧ Lists (fun b => B ≤ b) w' v p.1
theorem RetLL.nil (B : Nat) (w' : World) {e e' : Int} (h : e = e') {p : List (List Int) × Int} (hp : p = ([], e')) : RetLL B p w' (.tuple #[.slice none 0 0, .int .i64 e]) := by
  subst h hp; exact ⟨_, rfl, Lists.nil _ _⟩
theorem RetLL.mk {B : Nat} {w' : World} {v : Value} {l : List (List Int)} {p : List (List Int) × Int} (h : Lists (fun b => B ≤ b) w' v l) (hp : p = (l, 0)) : RetLL B p w' (.tuple #[v, .int .i64 0]) := by
  subst hp; exact ⟨_, rfl, h⟩

def classesR (l : List Int) : List (List Int) × Int := if checkS l = 0 then (classesS l, 0) else ([], checkS l)

set_option maxRecDepth 100000 in
theorem classes_calls {S : Nat → Prop} {w : World} {v : Value} {l : List Int} (h : Ints S w v l) :
    Calls Tryd.prog 38 #[v] w (Post w (RetLL w.heap.size (classesR l))) := by
  have h0 := h
  obtain ⟨a, cap, rfl, ha, _, _, hc, hf⟩ := h0
  obtain ⟨i0, hi, hz0, hz1, hz2⟩ := info_parts info3
  have hix := idx_one Tryd.underlying33 hi hz1 ha
  obtain ⟨i1, hj, hy0, hy1, hy2⟩ := info_parts info_slice
  go_enter Tryd.func38, Tryd.ntmps38
  go_wp2_with fail
  refine (check_calls h).mono ?_
  rintro _ w1 ⟨_, rfl, hb1, rfl⟩
  by_cases h1 : checkS l = 0
  · have e1 : (checkS l != 0) = false := by simp [h1]
    have H1 := Lib.hid h1
    have HG := Lib.hid (checkS_good.1 h1)
    have hlen := (checkS_good.1 h1).1
    clear h1
    go_wp2
    go_loopw [5, 15] (fun vo i wr => ∃ (k : Nat) (vs : List Value), k ≤ l.length ∧ i = .int .i64 k ∧ Below w.heap.size w wr ∧ OwnRows 33 3 w.heap.size wr vo vs (classesS (l.take k)))
      (fun _ i _ => l.length - (intOf i).toNat)
    case atStart => exact ⟨0, [], by omega, rfl, hb1, by simpa [classesS, numS] using OwnRows.nil _ _ _ _⟩
    case round =>
      obtain ⟨k, vs, hk, rfl, hb, ho⟩ := hrel
      by_cases hlt : k < l.length
      · have q := hix k hlt
        have p := cells_at ha hb hc k hlt
        have hgk := HG.out.2 k hlt
        have hnk := numS_le l HG.out.2 k hk
        have hn0 := numS_nonneg (l.take k)
        have HT := Lib.hid (take_nth hlt)
        have HK := Lib.hid (show (l.take k).length = k by simp; omega)
        have hB := hb.size
        obtain ⟨x, hx⟩ := Int.eq_ofNat_of_zero_le hgk.1
        obtain ⟨ll, hll⟩ : ∃ ll, ll = classesS (l.take k) := ⟨_, rfl⟩
        have hln : ll.length = (numS (l.take k)).toNat := by rw [hll, length_classesS]
        rw [← hll] at ho
        have hxn : x ≤ ll.length := by omega
        have hlk : ll.length ≤ k := by omega
        have HX := Lib.hid hx
        have HLL := Lib.hid hll
        have HLN := Lib.hid hln
        rw [hx] at p
        obtain ⟨av, capv, rfl, hav⟩ := ho.form
        clear hgk hnk hn0 hx hll hln
        have hrl : ∀ j, j < ll.length → (nthL ll j).length ≤ k := by
          intro j hj
          rw [HLL.out, nthL_classesS (by rw [← HLN.out]; exact hj)]
          unfold classS
          rw [List.length_map]
          refine Nat.le_trans (List.length_filter_le _ _) ?_
          rw [List.length_range, HK.out]
          exact Nat.le_refl _
        have HRL := Lib.hid hrl
        clear hrl
        by_cases hxe : x = ll.length
        · have e2 : ((x : Int) == ll.length) = true := by simp [hxe]
          have HE := Lib.hid hxe
          have hx1 : x < ll.length + 1 := by omega
          have HR0 := Lib.hid (show nthL (ll ++ [[]]) x = [] by rw [hxe]; simp [nthL])
          clear hxe
          go_wp2_with (first
            | (at_builtin; refine wpList_push rfl (.tmp 24) (.tmp 25) 60 rfl 33 _ 24 Tryd.underlying60 info_slice rfl w.heap.size _ _ _ rfl ho.row (.slice none 0 0) rfl rfl (by omega) (by omega) (by omega) ?_; intro g1 c1 w2 hown2 hbel2 hag2 hblk2; have ho2 := ho.push hown2 hag2 (fun k hk => by cases hk; exact hblk2); have cx := ho2.cell (x := x) (by simp) (by simp; omega); have hB2 := hbel2.size)
            | (at_builtin; refine wpList_push rfl (.tmp 32) (.tmp 34) 33 rfl 3 _ 8 Tryd.underlying33 info3 rfl w.heap.size _ _ _ rfl (ho2.rows x (by simp; omega)) (.int .i64 (k : Int)) rfl rfl (by rw [HR0.out]; simp) (by rw [HR0.out]; simp) (by omega) ?_; intro g3 c3 w3 hown3 hbel3 hag3 hblk3; have kx := ho2.keep (x := x) (by simp) (by simp; omega) hag3; have k1 := kx.1; have k2 := kx.2))
          have hfin := ho2.app (x := x) (by simp) (by simp; omega) hown3 hag3 (fun k hk => by cases hk; exact hblk3)
          rw [HR0.out] at hfin
          go_roundw
          case rel =>
            refine ⟨k + 1, ?vs1, by omega, by go_num, ((hb.trans hbel2).trans hbel3).setCell (p := ⟨g1, x, none⟩) (ho2.row.lt g1 rfl).1 _, ?mn1⟩
            rotate_left
            rw [HT.out, classesS_new (by rw [HX.out]; have := HLN.out; have := HE.out; have := numS_nonneg (l.take k); omega), HX.out, ← HLL.out, HK.out]
            rw [HR0.out]
            exact hfin
          case measure => simp [intOf]; omega
        · have e2 : ((x : Int) == ll.length) = false := by simp; omega
          have hx1 : x < ll.length := by omega
          obtain ⟨g1, rfl⟩ := hav (by omega)
          have cx := ho.cell rfl hx1
          have hr1 := HRL.out x hx1
          go_wp2_with (at_builtin; refine wpList_push rfl (.tmp 32) (.tmp 34) 33 rfl 3 _ 8 Tryd.underlying33 info3 rfl w.heap.size _ _ _ rfl (ho.rows x hx1) (.int .i64 (k : Int)) rfl rfl (by omega) (by omega) (by omega) ?_; intro g3 c3 w3 hown3 hbel3 hag3 hblk3; have kx := ho.keep (x := x) rfl hx1 hag3; have k1 := kx.1; have k2 := kx.2)
          have hfin := ho.app (x := x) rfl hx1 hown3 hag3 (fun k hk => by cases hk; exact hblk3)
          go_roundw
          case rel =>
            refine ⟨k + 1, ?vs2, by omega, by go_num, (hb.trans hbel3).setCell (p := ⟨g1, x, none⟩) (ho.row.lt g1 rfl).1 _, ?mn2⟩
            rotate_left
            rw [HT.out, classesS_old (by rw [HX.out]; omega) (by rw [HX.out]; have := HLN.out; omega), HX.out, ← HLL.out, HK.out]
            exact hfin
          case measure => simp [intOf]; omega
      · have hk' : k = l.length := by omega
        subst hk'
        have hL := ho.lists (classesS_wf (by simpa using hlen))
        rw [List.take_length] at hL
        have h2 := H1.out
        go_wp2
        go_ret2
        exact .mk hb (.mk hL (by simp [classesR, h2]))
  · have e1 : (checkS l != 0) = true := by simp [h1]
    go_wp2_with fail
    go_ret2
    exact .mk hb1 (.nil _ _ rfl (by simp [classesR, h1]))

end Go.Proofs.YtmlgbaogkbfklaaDoor
