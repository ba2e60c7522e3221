/- Part of the proof that the laws of chapter 45 answer true for every input. -/
import Derived.Test.YtcopehiceihdaaaGreatPCe35
set_option linter.unusedSimpArgs false
set_option linter.unnecessarySimpa false
set_option linter.unusedVariables false
set_option maxRecDepth 100000
set_option maxHeartbeats 40000000
namespace Go.Proofs.YtcopehiceihdaaaGreat
def ErrN (x:Int):Prop:=0≤x∧x≤100
theorem firstE_n {f:Nat→Int} (h:∀k,ErrN (f k)):∀n,ErrN (firstE f n)
  | 0=>⟨Int.le_refl _,by unfold firstE;decide⟩
  | n+1=>by
    unfold firstE
    split
    · exact h n
    · exact firstE_n h n
theorem gAt_n (n:Int) (p:Nat) (x:Int):ErrN (gAt n p x):=by unfold gAt ErrN;split<;>(try split)<;>(try split)<;>omega
theorem checkG_n (l:List Int):ErrN (checkG l):=by
  unfold checkG
  split
  · exact ⟨by decide,by decide⟩
  · exact firstE_n (fun p=>gAt_n _ _ _) 5
theorem checkP_n (n x:Int):ErrN (checkP n x):=by unfold checkP ErrN;split<;>(try split)<;>omega
theorem checkR_n (l:List Int):ErrN (checkR l):=by
  unfold checkR
  split
  · exact checkP_n _ _
  · exact checkG_n _
theorem vecE_n (v:List Int) (n m:Int):ErrN (vecE v n m):=by unfold vecE ErrN;split<;>(try split)<;>omega
theorem outE_n (n m:Int) (l:List (List Int)) (k:Nat):ErrN (outE n m l k):=by
  unfold outE
  split
  · unfold ErrN;split<;>omega
  · exact vecE_n _ _ _
theorem calmE_n (o l:List (List Int)) (k:Nat):ErrN (calmE o l k):=by unfold calmE ErrN;split<;>(try split)<;>omega
theorem vecsE_n (n m:Int) (c:CaseD):ErrN (vecsE n m c):=by
  unfold vecsE
  split
  · exact ⟨by decide,by decide⟩
  · split
    · exact firstE_n (fun k=>calmE_n _ _ _) _
    · exact firstE_n (fun k=>outE_n _ _ _ _) _
theorem caseE_n (n i m:Int) (l:List CaseD) (k:Nat):ErrN (caseE n i m l k):=by
  unfold caseE
  split
  · split
    · exact ⟨by decide,by decide⟩
    · exact vecsE_n _ _ _
  · exact vecE_n _ _ _
theorem checkT_n (n i m:Int) (l:List CaseD):ErrN (checkT n i m l):=by
  unfold checkT
  split
  · exact ⟨by decide,by decide⟩
  · split
    · exact ⟨by decide,by decide⟩
    · exact firstE_n (fun k=>caseE_n _ _ _ _ _) _
theorem moveE_n (n:Int) (k:Nat) (l:List (List Int)) (i:Nat):ErrN (moveE n k l i):=by
  unfold moveE
  split
  · unfold ErrN;split<;>(try split)<;>(try split)<;>omega
  · exact checkR_n _
theorem stateE_n (n:Int) (st:Moves) (k:Nat):ErrN (stateE n st k):=by
  unfold stateE
  split
  · exact ⟨by decide,by decide⟩
  · exact firstE_n (fun k=>moveE_n _ _ _ _) _
theorem checkA_n (n:Int) (st:Moves):ErrN (checkA n st):=by
  unfold checkA
  split
  · exact ⟨by decide,by decide⟩
  · split
    · exact ⟨by decide,by decide⟩
    · split
      · unfold ErrN;split<;>omega
      · exact firstE_n (fun k=>stateE_n _ _ _) _
theorem verE_n (s:SysF):ErrN (verE s):=by
  have hc:ErrN (checkPr s.p):=by
    unfold checkPr
    split
    · split
      · unfold ErrN;split<;>(try split)<;>omega
      · exact checkA_n _ _
    · exact checkT_n _ _ _ _
  have hb:ErrN (buildE s.p):=by
    unfold buildE
    split
    · unfold ErrN;split<;>omega
    · exact hc
  unfold verE
  split
  · unfold ErrN;split<;>omega
  · exact hb
theorem frmV_n (T:List (List Int)) (ch:List Int) (m:Int) (v:Nat):ErrN (frmV T ch m v):=by unfold frmV ErrN;split<;>(try split)<;>omega
theorem ruleE_n (s:SysF) (ch:List Int):ErrN (ruleE s ch):=by
  unfold ruleE formE
  split
  · split
    · exact firstE_n (fun k=>frmV_n _ _ _ _) _
    · exact ⟨by decide,by decide⟩
  · exact verE_n s
theorem soonB_iff {s:SysF} {a b:List Int}:soonB s a b=true↔∀e,e<s.ex.length→∀q,q<s.N→badB s a b e q=false:=by
  unfold soonB soonTo soonE
  simp only[List.all_eq_true,List.mem_range,Bool.not_eq_true']
theorem badB_no {s:SysF} {a b:List Int} {e q:Nat}:badB s a b e q=false↔(oblB s e q=true→0≤rdV s b e q→0≤rdV s a e q∧rdV s a e q≤rdV s b e q):=by
  unfold badB
  cases oblB s e q
  · simp
  · simp only[Bool.true_and,Bool.and_eq_false_iff,decide_eq_false_iff_not,Bool.or_eq_false_iff]
    constructor
    · intro h _ h0;rcases h with h | h
      · exact absurd h0 h
      · omega
    · intro h
      by_cases h0:0≤rdV s b e q
      · right;have:=h trivial h0;omega
      · left;exact h0
theorem soonB_refl (s:SysF) (a:List Int):soonB s a a=true:=soonB_iff.2 fun e _ q _=>badB_no.2 fun _ h=>⟨h,Int.le_refl _⟩
theorem soonB_trans {s:SysF} {a b c:List Int} (h:soonB s a b=true) (h':soonB s b c=true):soonB s a c=true:=soonB_iff.2 fun e he q hq=>badB_no.2 fun ho h0=>by
  have h1:=badB_no.1 (soonB_iff.1 h' e he q hq) ho h0
  have h2:=badB_no.1 (soonB_iff.1 h e he q hq) ho h1.1
  omega
theorem meaP_some {ob:Nat→Bool} {rd:Nat→Int} (ab:Int×Int):∀j,(meaP ob rd j ab).isSome=true↔∀q,q<j→ob q=true→0≤rd q
  | 0=>by simp[meaP]
  | j+1=>by
    have ih:=meaP_some (ob:=ob) (rd:=rd) ab j
    unfold meaP
    cases hm:meaP ob rd j ab with
    | none=>
      rw[hm]at ih
      simp only[Option.bind_none]
      constructor
      · intro h;simp at h
      · intro h;exact ih.2 fun q hq=>h q (by omega)
    | some x=>
      rw[hm]at ih
      have ih':=ih.1 rfl
      simp only[Option.bind_some]
      unfold stepM
      cases ho:ob j with
      | false=>
        rw[if_neg (by simp)]
        refine ⟨fun _ q hq hoq=>?_,fun _=>rfl⟩
        by_cases e:q=j
        · subst e;rw[ho]at hoq;cases hoq
        · exact ih' q (by omega) hoq
      | true=>
        rw[if_pos rfl]
        by_cases h0:rd j<0
        · rw[if_pos h0]
          constructor
          · intro h;simp at h
          · intro h;have:=h j (by omega) ho;omega
        · rw[if_neg h0]
          refine ⟨fun _ q hq hoq=>?_,fun _=>rfl⟩
          by_cases e:q=j
          · subst e;omega
          · exact ih' q (by omega) hoq
theorem meaE_some {OB:Nat→Nat→Bool} {RD:Nat→Nat→Int} {N:Nat}:∀k,(meaE OB RD N k).isSome=true↔∀e,e<k→∀q,q<N→OB e q=true→0≤RD e q
  | 0=>by simp[meaE]
  | k+1=>by
    have ih:=meaE_some (OB:=OB) (RD:=RD) (N:=N) k
    unfold meaE
    cases hm:meaE OB RD N k with
    | none=>
      rw[hm]at ih
      simp only[Option.bind_none]
      constructor
      · intro h;simp at h
      · intro h;exact ih.2 fun e he=>h e (by omega)
    | some x=>
      rw[hm]at ih
      have ih':=ih.1 rfl
      simp only[Option.bind_some]
      rw[meaP_some]
      constructor
      · intro h e he q hq ho
        by_cases ee:e=k
        · subst ee;exact h q hq ho
        · exact ih' e (by omega) q hq ho
      · intro h q hq ho;exact h k (by omega) q hq ho
theorem measT_ok {s:SysF} {ch:List Int} (h:ruleE s ch=0):(measT s ch).2.2=0↔∀e,e<s.ex.length→∀q,q<s.N→oblB s e q=true→0≤rdV s ch e q:=by
  rw[←meaE_some]
  unfold measT meaS
  rw[if_pos h]
  cases meaE (oblB s) (rdV s ch) s.N s.ex.length<;>simp
theorem soon_meas {s:SysF} {a b:List Int} (ha:ruleE s a=0) (hb:ruleE s b=0) (h:soonB s a b=true) (hm:(measT s b).2.2=0):(measT s a).2.2=0:=(measT_ok ha).2 fun e he q hq ho=>
  (badB_no.1 (soonB_iff.1 h e he q hq) ho ((measT_ok hb).1 hm e he q hq ho)).1
theorem earlT_ok {s:SysF} {a b:List Int} (ha:ruleE s a=0) (hb:ruleE s b=0):earlT s a b=(soonB s a b,0):=by
  unfold earlT
  rw[if_pos ha,if_pos (ruleE_ok hb).2.2]
end Go.Proofs.YtcopehiceihdaaaGreat
namespace Go.Proofs.YtcopehiceihdaaaGreat
open Go.RowKit
attribute [local go_sem ↓] Go.wp_at_zero Go.wp_at_succ
theorem rfew_calls {S:Nat→Prop} {w:World} {vch:Value} {ch:List Int} (h:Ints S w vch ch):Calls Tryz.prog 12 #[.agg #[vch]] w (Post w fun _ r=>r=.bool (decide (ch.length≤1000))):=by
  obtain ⟨a,c,rfl,_⟩:=h.form
  have ex:=ext_alloc w (.cells #[.slice a ch.length c] 38)
  have R:=row_new w [.slice a ch.length c] 38
  have r0:=R.cell (j:=0) rfl
  have l0:=R.lt
  have HX:=Lib.hid ex
  clear h ex R
  by_cases hl:ch.length≤1000
  · have d1:decide (ch.length≤1000)=true:=decide_eq_true hl
    rw[d1]
    have HL:=Lib.hid hl
    clear hl
    go_enter Tryz.func12,Tryz.ntmps12
    go_wp2
    go_ret
    exact .mk HX.out (by have:=HL.out;simp;omega)
  · have d1:decide (ch.length≤1000)=false:=decide_eq_false hl
    rw[d1]
    have HL:=Lib.hid hl
    clear hl
    go_enter Tryz.func12,Tryz.ntmps12
    go_wp2
    go_ret
    exact .mk HX.out (by have:=HL.out;simp;omega)
end Go.Proofs.YtcopehiceihdaaaGreat
