/- The program's Subsumes. -/
import Derived.Test.YtifcgcdbebgahaaClS
namespace Go.Proofs.Ytifcgcdbebgahaa
set_option linter.unusedVariables false
open Go.RowKit
attribute [local go_sem ↓] Go.wp_at_zero Go.wp_at_succ

set_option maxRecDepth 100000 in
theorem subs1_quiet {S : Nat → Prop} {w : World} {P : Nat} {vb : Value} {b : List Int} (hb : Ints S w vb b) (hP : w.cell? ⟨P, 0, none⟩ = some vb) (x : Int) :
    Calls Try.prog 65 #[.int .i64 x, .pointer (some ⟨P, 0, none⟩)] w (QuietP w (.bool (!(memB b x)))) := by
  have K := Lib.hid ((contains_quiet hb x).mono fun _ _ h => h.take)
  obtain ⟨a, cap, rfl, _⟩ := hb.form
  obtain ⟨e, he⟩ : ∃ e, e = memB b x := ⟨_, rfl⟩
  rw [← he] at K ⊢
  clear hb he
  go_enter Try.func65, Try.ntmps65
  go_wp2_with fail
  refine K.out.mono ?_
  rintro _ w2 ⟨_, rfl, hq2, rfl⟩
  clear K
  go_wp2
  go_ret
  exact .fin rfl hq2
theorem any_sub {a b : List Int} : (!(a.any fun x => !(memB b x))) = subP a b := by
  unfold subP
  simp [List.all_eq_not_any_not]
set_option maxRecDepth 100000 in
theorem subsumes_calls {S S' : Nat → Prop} {w : World} {va vb : Value} {a b : List Int} (ha : Ints S w va a) (hb : Ints S' w vb b) :
    Calls Try.prog 30 #[va, vb] w (Post w fun _ r => r = .bool (subP a b)) := by
  obtain ⟨aa, acap, rfl, _⟩ := ha.form
  obtain ⟨ab, bcap, rfl, _⟩ := hb.form
  have ex := ext_alloc w (.cells #[.slice ab b.length bcap] 25)
  have r0 := row_new w [.slice ab b.length bcap] 25
  have q0 := r0.cell (j := 0) rfl
  have K := Lib.hid ((containsInts_quiet (ha.ext ex) (g := 65) (cp := .pointer (some ⟨w.heap.size, 0, none⟩)) (fun x => !(memB b x)) (fun args w => by rfl)
    (fun W hW k hk => subs1_quiet ((hb.ext ex).ext hW.ext) (cell_ext q0 hW.ext) _)).mono fun _ _ h => h.take)
  have HS := Lib.hid (any_sub (a := a) (b := b))
  obtain ⟨e, he⟩ : ∃ e, e = a.any fun x => !(memB b x) := ⟨_, rfl⟩
  rw [← he] at K HS
  clear he ha hb q0 r0
  go_enter Try.func30, Try.ntmps30
  go_wp2_with fail
  refine K.out.mono ?_
  rintro _ w2 ⟨_, rfl, hq2, rfl⟩
  have hx := ext_trans ex hq2.ext
  clear K
  go_wp2
  go_ret
  exact .mk hx (congrArg Value.bool HS.out)
end Go.Proofs.Ytifcgcdbebgahaa
