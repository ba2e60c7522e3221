/- The program's apply, its closures only read or lay new rows. -/
import Derived.Test.YtifcgcdbebgahaaClW
namespace Go.Proofs.Ytifcgcdbebgahaa
set_option linter.unusedVariables false
open Go.RowKit
attribute [local go_sem ↓] Go.wp_at_zero Go.wp_at_succ

theorem filter_succ {p : Int → Bool} {c : List Int} {k : Nat} (hk : k < c.length) : (c.take (k + 1)).filter p = (c.take k).filter p ++ (if p (nth c k) = true then [nth c k] else []) := by
  rw [take_nth hk, List.filter_append, List.filter_cons]
  cases p (nth c k) <;> simp
set_option maxRecDepth 100000 in
set_option maxHeartbeats 2000000 in
theorem applyInts_calls {S : Nat → Prop} {w : World} {va : Value} {c : List Int} (ha : Ints S w va c) (hn : c.length ≤ 1000000) {g : Nat} {cp : Value} (p : Int → Bool)
    (eg : ∀ args w, (callFunc g args).run Try.prog w = .ok (.enter g args) w)
    (hp : ∀ W, Below w.heap.size w W → ∀ k, k < c.length → Calls Try.prog g #[.int .i64 (nth c k), cp] W (QuietP W (.tuple #[.int .i64 (nth c k), .bool (p (nth c k))]))) :
    Calls Try.prog 50 #[va, .func (.func g) #[] #[cp]] w (Post w fun w' r => Ints (fun b => w.heap.size ≤ b) w' r (c.filter p)) := by
  have hwf := ha.wf
  obtain ⟨a, cap, rfl, ad, l1, lm, hc, _⟩ := ha
  unfold maxLen at lm
  obtain ⟨i0, hi, hz1, hz2, hz3⟩ := info_parts info_int
  have HQ := Lib.hid (idx_one Try.underlying25 hi hz2 ad)
  have HC := Lib.hid hc
  have HP := Lib.hid (fun W hW k hk => (hp W hW k hk).mono fun _ _ h => h.post)
  have HWF : Hid (∀ x ∈ c.filter p, WF x) := Lib.hid (fun x hx => hwf x (List.mem_filter.1 hx).1)
  clear hc hi hz1 hz2 hz3 hp hwf
  go_enter Try.func50, Try.ntmps50
  go_wp2
  go_loopw [5, 12] (fun vo i wi => ∃ k : Nat, k ≤ c.length ∧ i = .int .i64 k ∧ Below w.heap.size w wi ∧ wi.ownsRow w.heap.size 3 1 vo ((c.take k).filter p).length (((c.take k).filter p).map (Value.int .i64))) (fun _ i _ => c.length - (intOf i).toNat)
  case atStart => exact ⟨0, Nat.zero_le _, rfl, .refl _ _, World.ownsRow_nil _ _ _ _⟩
  case round =>
    obtain ⟨k, hk, rfl, hb, ho⟩ := hrel
    by_cases hlt : k < c.length
    · have q := HQ.out k hlt
      have cx := cells_at ad hb HC.out k hlt
      have HT := Lib.hid (filter_succ (p := p) hlt)
      have hal : ((c.take k).filter p).length ≤ 1000000 := by
        have := List.length_filter_le p (c.take k)
        have := List.length_take_le k c
        omega
      have KP := Lib.hid (HP.out wr hb k hlt)
      obtain ⟨x, hx⟩ : ∃ x, x = nth c k := ⟨_, rfl⟩
      obtain ⟨b, hbb⟩ : ∃ b, b = p x := ⟨_, rfl⟩
      rw [← hx] at cx HT KP
      rw [← hbb] at HT KP
      obtain ⟨acc, hacc⟩ : ∃ acc, acc = (c.take k).filter p := ⟨_, rfl⟩
      rw [← hacc] at ho HT hal
      have HO := Lib.hid ho
      clear hx hacc ho hbb
      go_wp2_with fail
      refine KP.out.mono ?_
      rintro _ w2 ⟨_, rfl, hb2, rfl⟩
      have hb2' := ext_trans hb hb2
      have HO2 := Lib.hid (owns_ext HO.out hb2)
      have hsz := hb2'.size
      clear KP cx
      cases b with
      | false =>
        rw [if_neg (by simp), List.append_nil] at HT
        rw [← HT.out] at HO2
        go_wp2
        go_roundw
        case rel => exact ⟨k + 1, by omega, by go_num, hb2', HO2.out⟩
        case measure => simp [intOf]; omega
      | true =>
        rw [if_pos rfl] at HT
        go_wp2_with (at_builtin; refine wpList_push rfl _ _ 25 rfl 3 _ 8 Try.underlying25 info_int rfl w.heap.size _ _ _ rfl HO2.out (.int .i64 x) rfl rfl (by omega) (by omega) hsz ?_; intro g' c' w5 hown5 hbel5 _ _)
        have hb5 := hb2'.trans hbel5
        have hT2 := Lib.hid (show w5.ownsRow w.heap.size 3 1 (.slice (some ⟨g', 0, none⟩) (acc.length + 1) c') ((c.take (k + 1)).filter p).length (((c.take (k + 1)).filter p).map (Value.int .i64)) from by rw [HT.out]; simpa using hown5)
        clear hown5 hbel5
        go_wp2
        go_roundw
        case rel => exact ⟨k + 1, by omega, by go_num, hb5, hT2.out⟩
        case measure => simp [intOf]; omega
    · obtain rfl : k = c.length := by omega
      rw [List.take_length] at ho
      have HI := Lib.hid (Ints.of_own ho HWF.out)
      go_wp2
      go_ret
      exact .mk hb HI.out

/-- What the closures of rows return. -/
def PRow (base : Nat) (t : Option (List Int)) (w' : World) (r : Value) : Prop := match t with
  | none => r = .tuple #[.slice none 0 0, .bool false]
  | some d => ∃ a cap, r = .tuple #[.slice a d.length cap, .bool true] ∧ Ints (fun b => base ≤ b) w' (.slice a d.length cap) d
theorem fmap_succ {f : List Int → Option (List Int)} {l : List (List Int)} {k : Nat} (hk : k < l.length) : (l.take (k + 1)).filterMap f = (l.take k).filterMap f ++ (match f (nthL l k) with | none => [] | some d => [d]) := by
  rw [take_nthL hk, List.filterMap_append]
  cases h : f (nthL l k) <;> simp [h]

set_option maxRecDepth 100000 in
set_option maxHeartbeats 2000000 in
theorem applyRows_calls {S : Nat → Prop} {w : World} {va : Value} {l : List (List Int)} (ha : Lists S w va l) (hn : l.length ≤ 1000000) {g : Nat} {cp : Value} (f : List Int → Option (List Int))
    (eg : ∀ args w, (callFunc g args).run Try.prog w = .ok (.enter g args) w)
    (hp : ∀ W, Below w.heap.size w W → ∀ k, k < l.length → ∀ u, Ints S W u (nthL l k) → Calls Try.prog g #[u, cp] W (Post W (PRow W.heap.size (f (nthL l k))))) :
    Calls Try.prog 47 #[va, .func (.func g) #[] #[cp]] w (Post w fun w' r => Lists (fun b => w.heap.size ≤ b) w' r (l.filterMap f)) := by
  obtain ⟨a, cap, rfl, ad, l1, lm⟩ := ha.form
  unfold maxLen at lm
  obtain ⟨i0, hi, hz1, hz2, hz3⟩ := info_parts info_ints
  have HQ := Lib.hid (idx_one Try.underlying22 hi hz2 ad)
  have HA := Lib.hid ha
  have HP := Lib.hid hp
  clear hi hz1 hz2 hz3 hp ha
  go_enter Try.func47, Try.ntmps47
  go_wp2
  go_loopw [5, 12] (fun vo i wi => ∃ (k : Nat) (vs : List Value), k ≤ l.length ∧ i = .int .i64 k ∧ Below w.heap.size w wi ∧ OwnList 25 w.heap.size wi vo vs ((l.take k).filterMap f)) (fun _ i _ => l.length - (intOf i).toNat)
  case atStart => exact ⟨0, [], Nat.zero_le _, rfl, .refl _ _, OwnList.nil _ _ _⟩
  case round =>
    obtain ⟨k, vs, hk, rfl, hb, ho⟩ := hrel
    by_cases hlt : k < l.length
    · have q := HQ.out k hlt
      obtain ⟨u, cu, iu⟩ := HA.out.at hb hlt
      have HT := Lib.hid (fmap_succ (f := f) hlt)
      have hal : ((l.take k).filterMap f).length ≤ 1000000 := by
        have := List.length_filterMap_le f (l.take k)
        have := List.length_take_le k l
        omega
      have KP := Lib.hid (HP.out wr hb k hlt u iu)
      obtain ⟨t, ht⟩ : ∃ t, t = f (nthL l k) := ⟨_, rfl⟩
      rw [← ht] at HT KP
      obtain ⟨acc, hacc⟩ : ∃ acc, acc = (l.take k).filterMap f := ⟨_, rfl⟩
      rw [← hacc] at ho HT hal
      have HO := Lib.hid ho
      have hsz0 := hb.size
      clear ht hacc ho iu
      go_wp2_with fail
      refine KP.out.mono ?_
      rintro _ w2 ⟨_, rfl, hb2, hp2⟩
      have hb2' := ext_trans hb hb2
      have HO2 := Lib.hid (HO.out.ext hb2)
      have HLT := Lib.hid HO.out.row.lt
      have hsz := hb2'.size
      clear KP cu HO
      cases t with
      | none =>
        cases hp2
        have HT2 : Hid ((l.take (k + 1)).filterMap f = acc) := Lib.hid (by rw [HT.out]; simp)
        rw [← HT2.out] at HO2
        clear HT HT2
        go_wp2
        go_roundw
        case rel => exact ⟨k + 1, vs, by omega, by go_num, hb2', HO2.out⟩
        case measure => simp [intOf]; omega
      | some d =>
        obtain ⟨ad2, cap2, rfl, hd⟩ := hp2
        have HT2 : Hid ((l.take (k + 1)).filterMap f = acc ++ [d]) := Lib.hid (by rw [HT.out])
        have HD := Lib.hid hd
        have HOR := Lib.hid HO2.out.row
        clear HT hd
        go_wp2_with (at_builtin; refine wpList_push rfl _ _ 22 rfl 25 _ 24 Try.underlying22 info_ints rfl w.heap.size _ _ _ rfl HOR.out (.slice ad2 d.length cap2) rfl rfl (by omega) (by omega) hsz ?_; intro g' c' w5 hown5 hbel5 hag5 hat5)
        have hb5 := hb2'.trans hbel5
        have HO5 := Lib.hid (HO2.out.push hown5 hag5 (fun k hk => by cases hk; exact hat5) (HD.out.mono fun b hb' => ⟨by omega, fun e => by have := (HLT.out b e).2; omega⟩))
        rw [← HT2.out] at HO5
        have e1 : ((l.take (k + 1)).filterMap f).length = acc.length + 1 := by rw [HT2.out]; simp
        clear hown5 hbel5 hag5 hat5 HOR HLT HO2 HD HT2 e1
        go_wp2
        go_roundw
        case rel => exact ⟨k + 1, _, by omega, by go_num, hb5, HO5.out⟩
        case measure => simp [intOf]; omega
    · obtain rfl : k = l.length := by omega
      rw [List.take_length] at ho
      have HI := Lib.hid ho.lists
      clear ho
      go_wp2
      go_ret
      exact .mk hb HI.out
end Go.Proofs.Ytifcgcdbebgahaa
