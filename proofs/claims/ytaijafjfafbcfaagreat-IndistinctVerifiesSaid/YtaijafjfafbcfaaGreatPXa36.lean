/- Part of the proof that the laws answer true for every input. -/
import Derived.Test.YtaijafjfafbcfaaGreatPXa35
import Derived.Test.YtaijafjfafbcfaaGreatPXa34
import Derived.Test.YtaijafjfafbcfaaGreatPXa33
set_option linter.unusedSimpArgs false
set_option linter.unnecessarySimpa false
set_option linter.unusedVariables false
set_option maxRecDepth 100000
set_option maxHeartbeats 40000000
namespace Go.Proofs.YtaijafjfafbcfaaGreat
open Go.RowKit
def Bears (a b os:List Int):Prop:=∀i,i<a.length→∃x:Nat,nth os i=(x:Int)∧x≤i∧Gen a b i x
def Tied (a b:List Int) (i j:Nat):Prop:=nth a i=nth a j∨nth b i=nth b j
def sumN (l:List Int):Nat:=(l.map Int.toNat).sum
theorem sumN_set {l:List Int} {i:Nat} (h:i<l.length) (x:Int):sumN (l.set i x)+(nth l i).toNat=sumN l+x.toNat:=by
 induction l generalizing i with
 | nil=>simp at h
 | cons y l ih=>
  cases i with
  | zero=>simp[sumN,nth];omega
  | succ i=>
   have:=ih (i:=i) (by simpa using h)
   have e:nth (y::l) (i+1)=nth l i:=rfl
   rw[e]
   simp[sumN]at this ⊢
   omega
theorem Bears.id (a b:List Int):Bears a b (idList a.length):=fun i hi=>⟨i,nth_idList hi,Nat.le_refl _,.base hi hi (.inl rfl)⟩
theorem Bears.glue {a b os:List Int} {i k:Nat} {m:Int} (h:Bears a b os) (hl:os.length=a.length) (hi:i<a.length) (hk:k<i) (ht:Tied a b i k) (hm:(m=nth os i∧nth os i<nth os k)∨(m=nth os k∧nth os k<nth os i)):
  Bears a b ((os.set i m).set k m)∧sumN ((os.set i m).set k m)<sumN os:=by
 have hik:Gen a b i k:=.base hi (by omega) ht
 obtain ⟨x,hx,hxi,gx⟩:=h i hi
 obtain ⟨y,hy,hyk,gy⟩:=h k (by omega)
 obtain ⟨z,hz,hzk,gi,gk⟩:∃z:Nat,m=(z:Int)∧z≤k∧Gen a b i z∧Gen a b k z:=by
  rcases hm with ⟨rfl,h1⟩ | ⟨rfl,h1⟩
  ·exact ⟨x,hx,by omega,gx,hik.symm.trans gx⟩
  ·exact ⟨y,hy,by omega,hik.trans gy,gy⟩
 constructor
 ·intro j hj
  by_cases e:j=k
  ·subst e;exact ⟨z,by rw[nth_set_eq (by simp;omega)];exact hz,hzk,gk⟩
  ·rw[nth_set_ne e]
   by_cases e2:j=i
   ·subst e2;exact ⟨z,by rw[nth_set_eq (by omega)];exact hz,by omega,gi⟩
   ·rw[nth_set_ne e2];exact h j hj
 ·have h1:=sumN_set (l:=os.set i m) (i:=k) (by simp;omega) m
  have h2:=sumN_set (l:=os) (i:=i) (by omega) m
  rw[nth_set_ne (by omega:k≠i)]at h1
  rcases hm with ⟨h3,h4⟩ | ⟨h3,h4⟩<;>omega
theorem bears_iff {a b os:List Int} (h:Bears a b os) (hd:∀p q,p<a.length→q<p→Tied a b p q→nth os p=nth os q) {i j:Nat} (hi:i<a.length) (hj:j<a.length):nth os i=nth os j↔Gen a b i j:=by
 constructor
 ·intro e
  obtain ⟨x,hx,_,gx⟩:=h i hi
  obtain ⟨y,hy,_,gy⟩:=h j hj
  have:x=y:=by omega
  subst this
  exact gx.trans gy.symm
 ·intro g
  refine g (fun i j=>nth os i=nth os j) ?_ (fun i j e=>e.symm) (fun i j k e1 e2=>e1.trans e2)
  intro i j hi hj ht
  by_cases h1:j<i
  ·exact hd i j hi h1 ht
  ·by_cases h2:i=j
   ·rw[h2]
   ·exact (hd j i hj (by omega) (ht.elim (fun h => .inl h.symm) fun h => .inr h.symm)).symm
theorem bears_wf {a b os:List Int} (h:Bears a b os) (hl:os.length=a.length) (hn:a.length≤65536):∀x∈os,WF x:=by
 intro x hx
 obtain ⟨i,hi,rfl⟩:=List.getElem_of_mem hx
 obtain ⟨y,hy,h1,_⟩:=h i (by omega)
 rw[nth_eq hi]at hy
 rw[hy]
 exact WF.small (by omega)
def Pass (a b os0 os:List Int) (f:Bool) (done:Nat→Nat→Prop):Prop:=
 (f=false∧os=os0∧∀p q,p<a.length→q<p→done p q→Tied a b p q→nth os p=nth os q)∨(f=true∧sumN os<sumN os0)
def rowSum (w:World) (g:Nat):Nat:=match w.heap[g]? with | some (.cells cs _ _)=>(cs.toList.map fun v=>(intOf v).toNat).sum | _=>0
def flagOf:Value→Nat | .bool true=>1 | _=>0
theorem rowSum_eq {w:World} {g:Nat} {e:TypeId} {os:List Int} (h:Row w g e (os.map (Value.int .i64))):rowSum w g=sumN os:=by
 unfold rowSum
 rw[h]
 have:(fun v=>(intOf v).toNat)∘Value.int .i64=Int.toNat:=by funext x;rfl
 simp[sumN,this]
theorem refGlue_calls {S S':Nat→Prop} {w:World} {va vb:Value} {a b:List Int} (ha:Ints S w va a) (hb:Ints S' w vb b) (hlen:a.length=b.length) (hmax:a.length≤65536):
  Calls Tryz.prog 64 #[va,vb] w (Post w fun w' r=>Ints (fun b=>w.heap.size≤b) w' r (joinS a b)):=by
 obtain ⟨aa,capa,rfl,haa,_,hma,hca,hfa⟩:=ha
 obtain ⟨ab,capb,rfl,hab,_,hmb,hcb,hfb⟩:=hb
 clear hma hmb
 obtain ⟨i0,hi,hz0,hz1,hz2⟩:=info_parts info3
 have hixa:=idx_one Tryz.underlying44 hi hz1 haa
 have hixb:=idx_one Tryz.underlying44 hi hz1 hab
 have HL:=Lib.hid hlen
 clear hlen
 have hmk:=run_make_row' 44 3 (.int .i64 0) 8 Tryz.underlying44 info3 rfl .i64 .i64 a.length (by omega) (by omega)
 go_enter Tryz.func64,Tryz.ntmps64
 go_wp2
 go_loopw [6] (fun i wr=>∃k:Nat,k≤a.length∧i=.int .i64 k∧Below w.heap.size w wr∧Row wr w.heap.size 3 (partRow (fun i=>(i:Int)) k a.length))
  (fun i _=>a.length - (intOf i).toNat)
 case atStart=>
  refine ⟨0,by omega,rfl,(Below.refl _ _).alloc (Nat.le_refl _) _,?_⟩
  rw[partRow_zero]
  exact Row.made w (.int .i64 0) a.length 3
 case round=>
  obtain ⟨k,hk,rfl,hbr,hR⟩:=hrel
  by_cases hlt:k<a.length
  ·have r1:=hR.cell (partRow_get hlt)
   have r2:=hR.free k
   go_wp2
   go_roundw
   case rel=>exact ⟨k+1,by omega,by go_num,hbr.setCell (by simp) _,by rw[←partRow_set hlt];exact hR.set k _⟩
   case measure=>simp[intOf];omega
  ·have hk':k=a.length:=by omega
   subst hk'
   rw[partRow_full]at hR
   go_wp2
   go_loopw [7] (fun fv wr=>∃(f:Bool) (os:List Int),fv=.bool f∧Below w.heap.size w wr∧Row wr w.heap.size 3 (os.map (Value.int .i64))∧os.length=a.length∧Bears a b os∧(f=false→∀p q,p<a.length→q<p→Tied a b p q→nth os p=nth os q))
    (fun fv wr=>2 * rowSum wr w.heap.size+flagOf fv)
   case atStart=>exact ⟨true,idList a.length,rfl,hbr,hR,by simp,Bears.id a b,fun h=>by cases h⟩
   case round=>
    obtain ⟨f,os,rfl,hb1,hR1,hl1,hB1,hd1⟩:=hrel
    obtain ⟨wp,rfl⟩:∃wp:World,wp=wr:=⟨_,rfl⟩
    have HL1:=Lib.hid hl1
    have HD1:=Lib.hid hd1
    clear hl1 hd1 hbr hR hmk
    cases f with
    | false=>
     go_wp2_with fail
     have hwf:=bears_wf hB1 HL1.out hmax
     have hI:=hR1.ints (by have:=HL1.out;unfold maxLen;omega) hwf
     have hlk:os.length≤65536:=by have:=HL1.out;omega
     rw[show (Value.slice (some ⟨w.heap.size,0,none⟩) os.length os.length)=.slice (some ⟨w.heap.size,0,none⟩) a.length a.length by rw[HL1.out]]at hI
     have HC:=Lib.hid (refLabels_calls hI hlk)
     have HJ:=Lib.hid (show labs os=joinS a b from joinS_of HL1.out (fun i j hi hj=>bears_iff hB1 (HD1.out trivial) hi hj))
     clear hI hlk hwf
     refine HC.out.mono ?_
     rintro _ wz ⟨vz,rfl,hbz,hvz⟩
     rw[HJ.out]at hvz
     have hBs:=hb1.size
     go_wp2
     go_ret
     exact .mk (ext_trans hb1 hbz) (hvz.mono (by intro b hb';omega))
    | true=>
     go_wp2
     go_loopw [7,8] (fun fv iv wr=>∃(f:Bool) (i:Nat) (qs:List Int),fv=.bool f∧iv=.int .i64 i∧i≤a.length∧Below w.heap.size w wr∧Row wr w.heap.size 3 (qs.map (Value.int .i64))∧qs.length=a.length∧Bears a b qs∧Pass a b os qs f (fun p _=>p<i))
      (fun _ iv _=>a.length - (intOf iv).toNat)
     case atStart=>exact ⟨false,0,os,rfl,rfl,by omega,hb1,hR1,HL1.out,hB1,.inl ⟨rfl,rfl,fun p q _ _ h=>by omega⟩⟩
     case round=>
      obtain ⟨f,i,qs,rfl,rfl,hin,hb2,hR2,hl2,hB2,hP2⟩:=hrel
      obtain ⟨wq,rfl⟩:∃wq:World,wq=wr:=⟨_,rfl⟩
      have HL2:=Lib.hid hl2
      have HP2:=Lib.hid hP2
      clear hl2 hP2
      by_cases hlt:i<a.length
      ·have hltb:i<b.length:=by have:=HL.out;omega
       have qa:=hixa i hlt
       have qb:=hixb i hltb
       go_wp2
       go_loopw [7,9] (fun fv kv wr=>∃(f:Bool) (k:Nat) (rs:List Int),fv=.bool f∧kv=.int .i64 k∧k≤i∧Below w.heap.size w wr∧Row wr w.heap.size 3 (rs.map (Value.int .i64))∧rs.length=a.length∧Bears a b rs∧Pass a b os rs f (fun p q=>p<i∨p=i∧q<k))
        (fun _ kv _=>i - (intOf kv).toNat)
       case atStart=>
        refine ⟨f,0,qs,rfl,rfl,by omega,hb2,hR2,HL2.out,hB2,?_⟩
        rcases HP2.out with ⟨h1,h2,h3⟩ | h
        ·exact .inl ⟨h1,h2,fun p q hp hq hd ht=>h3 p q hp hq (by omega) ht⟩
        ·exact .inr h
       case round=>
        obtain ⟨f,k,rs,rfl,rfl,hki,hb3,hR3,hl3,hB3,hP3⟩:=hrel
        obtain ⟨wk,rfl⟩:∃wk:World,wk=wr:=⟨_,rfl⟩
        have HL3:=Lib.hid hl3
        have HP3:=Lib.hid hP3
        clear hl3 hP3
        by_cases hlk:k<i
        ·have pai:=cells_at haa hb3 hca i hlt
         have pak:=cells_at haa hb3 hca k (by omega)
         have pbi:=cells_at hab hb3 hcb i hltb
         have pbk:=cells_at hab hb3 hcb k (by omega)
         have qak:=hixa k (by omega)
         have qbk:=hixb k (by omega)
         have hir:i<rs.length:=by have:=HL3.out;omega
         have hkr:k<rs.length:=by omega
         have ci:wk.cell? ⟨w.heap.size,i,none⟩=some (.int .i64 (nth rs i)):=hR3.cell (by rw[List.getElem?_map,get?_nth hir];rfl)
         have ck:wk.cell? ⟨w.heap.size,k,none⟩=some (.int .i64 (nth rs k)):=hR3.cell (by rw[List.getElem?_map,get?_nth hkr];rfl)
         have fi:=hR3.free i
         have fk:=hR3.free k
         have hRl:=hR3.lt
         have hka:k<a.length:=by omega
         have hstep:(Tied a b i k→nth rs i=nth rs k)→Pass a b os rs f (fun p q=>p<i∨p=i∧q<k+1):=by
          intro h
          rcases HP3.out with ⟨h1,h2,h3⟩ | h'
          ·refine .inl ⟨h1,h2,fun p q hp hq hd ht=>?_⟩
           by_cases e:p=i∧q=k
           ·obtain ⟨rfl,rfl⟩:=e;exact h ht
           ·exact h3 p q hp hq (by omega) ht
          ·exact .inr h'
         have HST:=Lib.hid hstep
         clear hstep
         have hsumle:sumN rs≤sumN os:=by
          rcases HP3.out with ⟨_,h2,_⟩ | ⟨_,h2⟩
          ·rw[h2];exact Nat.le_refl _
          ·omega
         have HSL:=Lib.hid hsumle
         clear hsumle
         by_cases ht:Tied a b i k
         ·have ht':(nth a i==nth a k)=true∨((nth a i==nth a k)=false∧(nth b i==nth b k)=true):=by
           by_cases e:nth a i=nth a k
           ·exact .inl (by simp[e])
           ·rcases ht with h | h
            ·exact absurd h e
            ·exact .inr ⟨by simp[e],by simp[h]⟩
          have HT:=Lib.hid ht
          clear ht
          by_cases he:nth rs i=nth rs k
          ·have he':(nth rs i !=nth rs k)=false:=by simp[he]
           have HE:=Lib.hid he
           clear he
           rcases ht' with h1 | ⟨h1,h2⟩
           all_goals
            go_wp2
            go_quiet (fail)
            go_wp2
            go_roundw
            case rel=>exact ⟨f,k+1,rs,rfl,by go_num,by omega,ext_drewN hb3 _,hR3,HL3.out,hB3,HST.out (fun _=>HE.out)⟩
            case measure=>simp[intOf];omega
          ·have he':(nth rs i !=nth rs k)=true:=by simp[he]
           have hne:¬nth rs i=nth rs k:=he
           rcases ht' with h1 | ⟨h1,h2⟩
           all_goals
            by_cases hmin:nth rs k<nth rs i
            ·go_wp2
             go_quiet (fail)
             go_wp2
             go_quiet (fail)
             go_wp2
             go_roundw
             case rel=>
              have hg:=hB3.glue HL3.out hlt hlk HT.out (m:=nth rs k) (.inr ⟨rfl,hmin⟩)
              have:=HSL.out
              refine ⟨true,k+1,_,rfl,by go_num,by omega,?_,?_,?_,hg.1,.inr ⟨rfl,by omega⟩⟩
              ·exact ((ext_drewN (hb3) _).setCell (p:=⟨w.heap.size,i,none⟩) (Nat.le_refl _) _).setCell (p:=⟨w.heap.size,k,none⟩) (Nat.le_refl _) _
              ·rw[List.map_set,List.map_set]
               exact (hR3.set i _).set k _
              ·simp[HL3.out]
             case measure=>simp[intOf];omega
            ·go_wp2
             go_quiet (fail)
             go_wp2
             go_quiet (fail)
             go_wp2
             go_roundw
             case rel=>
              have hg:=hB3.glue HL3.out hlt hlk HT.out (m:=nth rs i) (.inl ⟨rfl,by omega⟩)
              have:=HSL.out
              refine ⟨true,k+1,_,rfl,by go_num,by omega,?_,?_,?_,hg.1,.inr ⟨rfl,by omega⟩⟩
              ·exact ((ext_drewN (hb3) _).setCell (p:=⟨w.heap.size,i,none⟩) (Nat.le_refl _) _).setCell (p:=⟨w.heap.size,k,none⟩) (Nat.le_refl _) _
              ·rw[List.map_set,List.map_set]
               exact (hR3.set i _).set k _
              ·simp[HL3.out]
             case measure=>simp[intOf];omega
         ·have ht1:(nth a i==nth a k)=false:=by simp;exact fun e=>ht (.inl e)
          have ht2:(nth b i==nth b k)=false:=by simp;exact fun e=>ht (.inr e)
          have HT:=Lib.hid ht
          clear ht
          go_wp2
          go_quiet (fail)
          go_wp2
          go_roundw
          case rel=>exact ⟨f,k+1,rs,rfl,by go_num,by omega,ext_drewN hb3 _,hR3,HL3.out,hB3,HST.out (fun h=>absurd h HT.out)⟩
          case measure=>simp[intOf];omega
        ·have hk':k=i:=by omega
         subst hk'
         go_wp2
         go_roundw
         case rel=>
          refine ⟨f,k+1,rs,rfl,by go_num,by omega,hb3,hR3,HL3.out,hB3,?_⟩
          rcases HP3.out with ⟨h1,h2,h3⟩ | h'
          ·exact .inl ⟨h1,h2,fun p q hp hq hd ht=>h3 p q hp hq (by omega) ht⟩
          ·exact .inr h'
         case measure=>simp[intOf];omega
      ·have hi':i=a.length:=by omega
       subst hi'
       go_wp2
       go_roundw
       case rel=>
        refine ⟨f,qs,rfl,hb2,hR2,HL2.out,hB2,fun hf=>?_⟩
        rcases HP2.out with ⟨h1,h2,h3⟩ | ⟨h',_⟩
        ·exact fun p q hp hq ht=>h3 p q hp hq hp ht
        ·rw[hf]at h';cases h'
       case measure=>
        rw[rowSum_eq hR1,rowSum_eq hR2]
        rcases HP2.out with ⟨h1,h2,_⟩ | ⟨h1,h2⟩
        ·rw[h1,h2];simp[flagOf]
        ·rw[h1];simp[flagOf];omega
end Go.Proofs.YtaijafjfafbcfaaGreat
namespace Go.Proofs.YtaijafjfafbcfaaGreat
open Go.RowKit
end Go.Proofs.YtaijafjfafbcfaaGreat
namespace Go.Proofs.YtaijafjfafbcfaaGreat
theorem numS_labs {K:Type} [DecidableEq K] (l:List K):numS (labs l)=(firsts l).length:=by
 have key:∀(n:Nat) (l:List K),l.length=n→numS (labs l)=(firsts l).length:=by
  intro n
  induction n with
  | zero=>intro l hl;have:=List.eq_nil_of_length_eq_zero hl;subst this;rfl
  | succ n ih=>
   intro l hl
   obtain ⟨m,x,rfl⟩:∃m x,l=m++[x]:=⟨l.dropLast,l.getLast (by intro h;subst h;simp at hl),(List.dropLast_concat_getLast _).symm⟩
   have hm:=ih m (by simpa using hl)
   rw[labs_snoc,numS_snoc,hm]
   by_cases h:x∈m
   ·rw[lab_snoc h,firsts_old h]
    have:=lab_lt h
    omega
   ·rw[lab_new h,firsts_new h]
    simp;omega
 exact key _ l rfl
theorem take_labs {K:Type} [DecidableEq K] (l:List K):∀k,(labs l).take k=labs (l.take k):=by
 have key:∀(n:Nat) (l:List K),l.length=n→∀k,(labs l).take k=labs (l.take k):=by
  intro n
  induction n with
  | zero=>intro l hl k;have:=List.eq_nil_of_length_eq_zero hl;subst this;simp[labs]
  | succ n ih=>
   intro l hl k
   obtain ⟨m,x,rfl⟩:∃m x,l=m++[x]:=⟨l.dropLast,l.getLast (by intro h;subst h;simp at hl),(List.dropLast_concat_getLast _).symm⟩
   have hmn:m.length=n:=by simpa using hl
   by_cases hk:k≤n
   ·rw[labs_snoc,List.take_append_of_le_length (by simp;omega),List.take_append_of_le_length (by omega)]
    exact ih m hmn k
   ·rw[List.take_of_length_le (by simp;omega),List.take_of_length_le (by simp;omega)]
 exact key _ l rfl
theorem good_labs {K:Type} [DecidableEq K] {l:List K} (h:l.length≤65536):Good (labs l):=by
 refine ⟨by simpa using h,fun i hi=>?_⟩
 simp at hi
 have e1:(labs l).take (i+1)=(labs l).take i++[nth (labs l) i]:=take_nth (by simpa using hi)
 rw[take_labs,take_labs,List.take_succ_eq_append_getElem hi,labs_snoc]at e1
 have e2:=List.append_cancel_left e1
 simp only[List.cons.injEq,and_true]at e2
 rw[take_labs,numS_labs,←e2]
 by_cases hm:l[i]∈l.take i
 ·rw[lab_snoc hm]
  have:=lab_lt hm
  omega
 ·rw[lab_new hm];omega
structure Pair (a b:List Int):Prop where
 left:Good a
 right:Good b
 len:b.length=a.length
theorem Pair.both {a b:List Int} (h:Pair a b):bothS a b=0:=by
 simp[bothS,checkS_good.2 h.left,checkS_good.2 h.right,h.len]
theorem Pair.symm {a b:List Int} (h:Pair a b):Pair b a:=⟨h.right,h.left,h.len.symm⟩
theorem Pair.refl {a:List Int} (h:Good a):Pair a a:=⟨h,h,rfl⟩
theorem meetS_keys {a b:List Int} (hl:b.length=a.length):meetS a b=labs (keys (fun i=>(nth a i,nth b i)) a.length):=by
 unfold meetS
 congr 1
 apply List.ext_getElem
 ·simp;omega
 ·intro i h1 h2
  simp at h1 h2
  simp[keys,nth_eq h2,nth_eq (show i<b.length by omega)]
@[simp] theorem length_joinS (a b:List Int):(joinS a b).length=a.length:=by simp[joinS]
theorem length_meetS {a b:List Int} (hl:b.length=a.length):(meetS a b).length=a.length:=by rw[meetS_keys hl];simp
theorem Pair.join {a b:List Int} (h:Pair a b):Pair a (joinS a b):=⟨h.left,good_labs (by simp;exact h.left.1),by simp⟩
end Go.Proofs.YtaijafjfafbcfaaGreat
namespace Go.Proofs.YtaijafjfafbcfaaGreat
open Go.RowKit
attribute [local go_sem ↓] Go.wp_at_zero Go.wp_at_succ
def keyD (B:Nat→Bool) (e j:Nat):Nat:=if 0≤minT B j (e - j) then (minT B j (e - j)).toNat else e
theorem keyD_end (B:Nat→Bool) (e:Nat):keyD B e e=e:=by unfold keyD;rw[Nat.sub_self];rfl
theorem keyD_step (B:Nat→Bool) {e j:Nat} (h:j<e):keyD B e j=if B j=true then j else keyD B e (j+1):=by
 unfold keyD
 obtain ⟨n,hn⟩:∃n,e - j=n+1:=⟨e - j - 1,by omega⟩
 have hn2:e - (j+1)=n:=by omega
 rw[hn,hn2,show minT B j (n+1)=if B j then (j:Int) else minT B (j+1) n from rfl]
 cases B j with
 | true=>simp
 | false=>simp
theorem keyD_N (s:SysF) (q e:Nat):keyD (fun f=>lkB s q e f) e 0=keyN s q e:=by unfold keyD keyN;rw[Nat.sub_zero]
theorem down_int (m:Nat):(m=0∧Value.int .i64 ((m:Int) - 1)=.int .i64 (-1))∨∃k,m=k+1∧Value.int .i64 ((m:Int) - 1)=.int .i64 (k:Int):=by
 cases m with
 | zero=>exact .inl ⟨rfl,rfl⟩
 | succ k=>exact .inr ⟨k,rfl,int_eq (by omega)⟩
theorem rclass_calls {S:Nat→Prop} {w:World} {v:Value} {s:SysF} {q:Nat} (h:SysV S w v s) (hg:GoodS s s.N s.K) (hl:s.ex.length≤4096) (hq:q<s.N):
  Calls Tryz.prog 40 #[v,.int .i64 q] w (Post w fun w' r=>Ints (fun b=>w.heap.size≤b) w' r (clsL s q)):=by
 have KL:Hid (∀e,e<s.ex.length→∀f,f<s.ex.length→∀W,Below w.heap.size w W→Calls Tryz.prog 59 #[v,.int .i64 q,.int .i64 e,.int .i64 f] W (Post W fun _ r=>r=.bool (lkB s q e f))):=Lib.hid fun e he f hf W hW=>rlinks_calls (h.ext hW) hg hq he hf
 have HK:Hid (∀e,keyD (fun f=>lkB s q e f) e 0=keyN s q e):=Lib.hid (keyD_N s q)
 have HF:Hid (labs (keys (fun e=>(keyN s q e:Int)) s.ex.length)=clsL s q):=Lib.hid (clsL_int s q)
 have HWF:Hid (∀x∈keys (fun e=>(keyN s q e:Int)) s.ex.length,WF x):=Lib.hid fun x hx=>by
  obtain ⟨i,hi,rfl⟩:=mem_keys.1 hx
  have:=keyN_le s q i
  exact WF.small (by omega)
 have HKS:Hid (∀k,keys (fun e=>(keyN s q e:Int)) (k+1)=keys (fun e=>(keyN s q e:Int)) k++[(keyN s q k:Int)]):=Lib.hid fun k=>keys_succ _ _
 have HKL:Hid (∀k,keyN s q k≤k):=Lib.hid (keyN_le s q)
 have HK0:Hid (keys (fun e=>(keyN s q e:Int)) 0=[]):=Lib.hid rfl
 have HKN:Hid ((keys (fun e=>(keyN s q e:Int)) s.ex.length).length=s.ex.length):=Lib.hid (by simp[keys])
 obtain ⟨kf,hkf⟩:∃kf,kf=keys (fun e=>(keyN s q e:Int)):=⟨_,rfl⟩
 rw[←hkf]at HF HWF HKS HK0 HKN
 have htn:s.tn=(s.N:Int):=hg.tn
 obtain ⟨vc,vs,vt,vx,rfl,hc,hs,ht,hx⟩:=h
 obtain ⟨ca,cc,rfl,_⟩:=hc.form
 obtain ⟨sa,sc,rfl,_⟩:=hs.form
 obtain ⟨ta,tc,rfl,_⟩:=ht.form
 obtain ⟨xa,xc,rfl,xad,_⟩:=hx.form2
 rw[htn]at KL ⊢
 have ex:=ext_alloc w (.cells #[.int .i64 s.p.n,.int .i64 s.p.ins,.int .i64 s.p.outs,.slice ca s.p.cs.length cc,.int .i64 s.p.an,.slice sa s.p.st.length sc,.int .i64 s.p.rounds,.int .i64 s.N,.slice ta s.tab.length tc,.slice xa s.ex.length xc] 35)
 have R0:=row_new w [.int .i64 s.p.n,.int .i64 s.p.ins,.int .i64 s.p.outs,.slice ca s.p.cs.length cc,.int .i64 s.p.an,.slice sa s.p.st.length sc,.int .i64 s.p.rounds,.int .i64 s.N,.slice ta s.tab.length tc,.slice xa s.ex.length xc] 35
 clear hc hs ht hx xad hg htn hkf hq
 go_enter Tryz.func40,Tryz.ntmps40
 go_wp2
 go_loopw [5,6,7,8] (fun o i _ _ wr=>∃(k:Nat) (oa:Option Addr) (oc:Nat),k≤s.ex.length∧i=.int .i64 k∧o=.slice oa k oc∧Below w.heap.size w wr∧Row wr w.heap.size 35 [.int .i64 s.p.n,.int .i64 s.p.ins,.int .i64 s.p.outs,.slice ca s.p.cs.length cc,.int .i64 s.p.an,.slice sa s.p.st.length sc,.int .i64 s.p.rounds,.int .i64 s.N,.slice ta s.tab.length tc,.slice xa s.ex.length xc]∧Hid (wr.ownsRow (w.heap.size+1) 3 1 (.slice oa k oc) k ((kf k).map (Value.int .i64)))) (fun _ i _ _ _=>s.ex.length - (intOf i).toNat)
 case atStart=>exact ⟨0,none,0,Nat.zero_le _,rfl,rfl,ex,R0,Lib.hid (by rw[HK0.out];exact World.ownsRow_nil _ _ _ _)⟩
 case round=>
  clear ex R0
  obtain ⟨k,oa,oc,hk,rfl,rfl,ex,R0,HO⟩:=hrel
  have t9:=R0.cell (j:=9) rfl
  have l0:=R0.lt
  by_cases hlt:k<s.ex.length
  case neg=>
   obtain rfl:k=s.ex.length:=by omega
   have HI:=Lib.hid (Ints.of_own HO.out HWF.out)
   have KLB:=Lib.hid (refLabels_calls HI.out (by rw[HKN.out];omega))
   rw[HF.out]at KLB
   have hsz:=ex.size
   clear t9 l0 HO HI
   have t9:=R0.cell (j:=9) rfl
   have l0:=R0.lt
   clear R0
   go_wp2_with fail
   refine KLB.out.mono ?_
   rintro _ w1 ⟨_,rfl,hb,hi⟩
   have HI2:=Lib.hid (hi.mono (S':=fun b=>w.heap.size≤b) fun b hb=>by omega)
   have ex1:=ext_trans ex hb
   clear hb hi KLB ex t9 l0
   go_wp2
   go_ret
   exact .mk ex1 HI2.out
  obtain ⟨B,hB⟩:∃B,B=fun f=>lkB s q k f:=⟨_,rfl⟩
  have KL2:Hid (∀f,f<s.ex.length→∀W,Below w.heap.size w W→Calls Tryz.prog 59 #[.agg #[.int .i64 s.p.n,.int .i64 s.p.ins,.int .i64 s.p.outs,.slice ca s.p.cs.length cc,.int .i64 s.p.an,.slice sa s.p.st.length sc,.int .i64 s.p.rounds,.int .i64 s.N,.slice ta s.tab.length tc,.slice xa s.ex.length xc],.int .i64 q,.int .i64 k,.int .i64 f] W (Post W fun _ r=>r=.bool (B f))):=Lib.hid fun f hf W hW=>by rw[hB];exact KL.out k hlt f hf W hW
  have HKB:Hid (keyD B k 0=keyN s q k):=Lib.hid (by rw[hB];exact HK.out k)
  have HP:=Lib.hid (HKS.out k)
  have hkm:(k:Int)≤4096:=by omega
  obtain ⟨wo,hwo⟩:∃wo:World,wo=wr:=⟨_,rfl⟩
  rw[←hwo]at ex R0 HO t9 ⊢
  have l0':w.heap.size<wo.heap.size:=by rw[hwo];exact l0
  have HST:=Lib.hid (down_int k)
  have HEX:=Lib.hid ex
  have HKE:=Lib.hid (keyD_end B k)
  have hb0:=Below.refl wo.heap.size wo
  clear hB hwo l0 ex
  go_wp2
  clear t9 l0'
  go_loopw [7,8] (fun key i wi=>∃j y:Nat,j≤k∧((j=0∧i=.int .i64 (-1))∨∃m:Nat,j=m+1∧i=.int .i64 m)∧key=.int .i64 y∧Hid (y=keyD B k j)∧Below wo.heap.size wo wi) (fun _ i _=>(intOf i+1).toNat)
  case atStart=>exact ⟨k,k,Nat.le_refl _,HST.out,rfl,Lib.hid HKE.out.symm,hb0⟩
  case round=>
   clear hb0
   obtain ⟨j,y,hj,hji,rfl,HY,hb⟩:=hrel
   rcases hji with ⟨rfl,rfl⟩ | ⟨m,rfl,rfl⟩
   ·rw[HKB.out]at HY
    have HO2:=Lib.hid (owns_ext HO.out hb)
    have R1:=R0.ext hb
    have ex:=ext_trans HEX.out hb
    have hyk:y≤k:=by rw[HY.out];exact HKL.out k
    have hsz:=ex.size
    have hls:=R1.lt
    have HR1:=Lib.hid R1
    clear hb R0 R1
    go_wp2_with (at_builtin;refine wpList_push rfl (.tmp 29) (.tmp 31) 44 rfl 3 _ 8 Tryz.underlying44 info_int rfl (w.heap.size+1) _ _ _ rfl HO2.out (.int .i64 y) rfl rfl (by omega) (by omega) (by omega) ?_;intro g' c' w5 hown5 hbel5 hag5 hat5)
    have HO5:Hid (w5.ownsRow (w.heap.size+1) 3 1 (.slice (some ⟨g',0,none⟩) (k+1) c') (k+1) ((kf (k+1)).map (Value.int .i64))):=Lib.hid (by rw[HP.out,←HY.out];simpa using hown5)
    have R5:=row_keep HR1.out hbel5
    have hb5:=ex.trans (hbel5.mono (Nat.le_succ _))
    clear HR1 hown5 hbel5 hag5 hat5 ex HO HO2
    go_wp2
    go_roundw
    case rel=>exact ⟨k+1,_,_,by omega,by go_num,rfl,hb5,R5,HO5⟩
    case measure=>simp[intOf];omega
   ·have KL3:=Lib.hid (KL2.out m (by omega) wr (ext_trans HEX.out hb))
    have HS:=Lib.hid (keyD_step B (show m<k by omega))
    rw[←HY.out]at HS
    obtain ⟨b,hbb⟩:∃b,b=B m:=⟨_,rfl⟩
    rw[←hbb]at KL3 HS
    have R1:=R0.ext hb
    have t0:=R1.cell (j:=0) rfl
    have t1:=R1.cell (j:=1) rfl
    have t2:=R1.cell (j:=2) rfl
    have t3:=R1.cell (j:=3) rfl
    have t4:=R1.cell (j:=4) rfl
    have t5:=R1.cell (j:=5) rfl
    have t6:=R1.cell (j:=6) rfl
    have t7:=R1.cell (j:=7) rfl
    have t8:=R1.cell (j:=8) rfl
    have t9:=R1.cell (j:=9) rfl
    have l0:=R1.lt
    have HDN:=Lib.hid (down_int m)
    clear hbb R1
    go_wp2_with fail
    refine KL3.out.mono ?_
    rintro _ w1 ⟨_,rfl,hb1,rfl⟩
    replace hb:=ext_trans hb hb1
    clear KL3 t0 t1 t2 t3 t4 t5 t6 t7 t8 t9 l0 hb1
    cases b with
    | true=>
     have HY2:Hid (m=keyD B k m):=Lib.hid (by rw[HS.out];rfl)
     go_wp2
     go_roundw
     case rel=>exact ⟨m,m,by omega,HDN.out,rfl,HY2,hb⟩
     case measure=>simp[intOf]
    | false=>
     have HY2:Hid (y=keyD B k m):=Lib.hid (by rw[HS.out];rfl)
     go_wp2
     go_roundw
     case rel=>exact ⟨m,y,by omega,HDN.out,rfl,HY2,hb⟩
     case measure=>simp[intOf]
theorem clsL_good {s:SysF} (q:Nat) (h:s.ex.length≤65536):Good (clsL s q):=good_labs (by simp[keys];exact h)
theorem cmpL_good {s:SysF} (h:s.ex.length≤65536):∀p,Good (cmpL s p)
 | 0=>clsL_good 0 h
 | p+1=>(Pair.join ⟨cmpL_good h p,clsL_good (p+1) h,by rw[clsL_len,cmpL_len]⟩).right
theorem cmpL_succ (s:SysF) (p:Nat):cmpL s (p+1)=joinS (cmpL s p) (clsL s (p+1)):=rfl
theorem rparts_calls {S:Nat→Prop} {w:World} {v:Value} {s:SysF} (h:SysV S w v s) (hg:GoodS s s.N s.K) (hl:s.ex.length≤4096):
  Calls Tryz.prog 41 #[v] w (Post w fun w' r=>Ints (fun b=>w.heap.size≤b) w' r (cmpL s (s.N - 1))):=by
 have KC:Hid (∀q,q<s.N→∀W,Below w.heap.size w W→Calls Tryz.prog 40 #[v,.int .i64 q] W (Post W fun w' r=>Ints (fun b=>W.heap.size≤b) w' r (clsL s q))):=Lib.hid fun q hq W hW=>rclass_calls (h.ext hW) hg hl hq
 have hN:=hg.pok.n1
 have hNs:s.N≤5:=hN.2
 have hN1:1≤s.N:=hN.1
 have htn:s.tn=(s.N:Int):=hg.tn
 have HL1:=Lib.hid fun p=>cmpL_len s p
 have HL2:=Lib.hid fun p=>clsL_len s p
 have HCS:=Lib.hid fun p=>cmpL_succ s p
 have HC0:Hid (cmpL s 0=clsL s 0):=Lib.hid rfl
 obtain ⟨vc,vs,vt,vx,rfl,hc,hs,ht,hx⟩:=h
 obtain ⟨ca,cc,rfl,_⟩:=hc.form
 obtain ⟨sa,sc,rfl,_⟩:=hs.form
 obtain ⟨ta,tc,rfl,_⟩:=ht.form
 obtain ⟨xa,xc,rfl,xad,_⟩:=hx.form2
 rw[htn]at KC ⊢
 have ex:=ext_alloc w (.cells #[.int .i64 s.p.n,.int .i64 s.p.ins,.int .i64 s.p.outs,.slice ca s.p.cs.length cc,.int .i64 s.p.an,.slice sa s.p.st.length sc,.int .i64 s.p.rounds,.int .i64 s.N,.slice ta s.tab.length tc,.slice xa s.ex.length xc] 35)
 have R0:=row_new w [.int .i64 s.p.n,.int .i64 s.p.ins,.int .i64 s.p.outs,.slice ca s.p.cs.length cc,.int .i64 s.p.an,.slice sa s.p.st.length sc,.int .i64 s.p.rounds,.int .i64 s.N,.slice ta s.tab.length tc,.slice xa s.ex.length xc] 35
 have KC0:=Lib.hid (KC.out 0 hN1)
 have HSA:=Lib.hid ex.size
 clear hc hs ht hx xad hg htn hN
 have t0:=R0.cell (j:=0) rfl
 have t1:=R0.cell (j:=1) rfl
 have t2:=R0.cell (j:=2) rfl
 have t3:=R0.cell (j:=3) rfl
 have t4:=R0.cell (j:=4) rfl
 have t5:=R0.cell (j:=5) rfl
 have t6:=R0.cell (j:=6) rfl
 have t7:=R0.cell (j:=7) rfl
 have t8:=R0.cell (j:=8) rfl
 have t9:=R0.cell (j:=9) rfl
 have l0:=R0.lt
 go_enter Tryz.func41,Tryz.ntmps41
 go_wp2_with fail
 refine (KC0.out _ ex).mono ?_
 rintro _ w1 ⟨u0,rfl,hb,hi⟩
 replace R0:=R0.ext hb
 replace ex:=ext_trans ex hb
 clear hb KC0 t0 t1 t2 t3 t4 t5 t6 t7 t8 t9 l0
 obtain ⟨u0a,u0c,rfl,_⟩:=hi.form
 have HI0:Hid (Ints (fun b=>w.heap.size≤b) w1 (.slice u0a (clsL s 0).length u0c) (cmpL s 0)):=Lib.hid (by rw[HC0.out];exact hi.mono fun b hb=>by have:=HSA.out;omega)
 clear hi HSA
 go_wp2
 go_loopw [3,4] (fun o i wr=>∃p:Nat,1≤p∧p≤s.N∧i=.int .i64 p∧Below w.heap.size w wr∧Row wr w.heap.size 35 [.int .i64 s.p.n,.int .i64 s.p.ins,.int .i64 s.p.outs,.slice ca s.p.cs.length cc,.int .i64 s.p.an,.slice sa s.p.st.length sc,.int .i64 s.p.rounds,.int .i64 s.N,.slice ta s.tab.length tc,.slice xa s.ex.length xc]∧Hid (Ints (fun b=>w.heap.size≤b) wr o (cmpL s (p - 1)))) (fun _ i _=>s.N - (intOf i).toNat)
 case atStart=>exact ⟨1,Nat.le_refl _,hN1,rfl,ex,R0,HI0⟩
 case round=>
  clear ex R0 HI0
  obtain ⟨k,hk1,hk,rfl,ex,R0,HO⟩:=hrel
  have t0:=R0.cell (j:=0) rfl
  have t1:=R0.cell (j:=1) rfl
  have t2:=R0.cell (j:=2) rfl
  have t3:=R0.cell (j:=3) rfl
  have t4:=R0.cell (j:=4) rfl
  have t5:=R0.cell (j:=5) rfl
  have t6:=R0.cell (j:=6) rfl
  have t7:=R0.cell (j:=7) rfl
  have t8:=R0.cell (j:=8) rfl
  have t9:=R0.cell (j:=9) rfl
  have l0:=R0.lt
  by_cases hlt:k<s.N
  case neg=>
   obtain rfl:k=s.N:=by omega
   go_wp2
   go_ret
   exact .mk ex HO.out
  have KC2:=Lib.hid (KC.out k hlt wr ex)
  have HCS2:Hid (cmpL s k=joinS (cmpL s (k - 1)) (clsL s k)):=Lib.hid (by
   obtain ⟨m,rfl⟩:∃m,k=m+1:=⟨k - 1,by omega⟩
   exact HCS.out m)
  have hHO:=HO.out
  obtain ⟨oa,oc,rfl,_⟩:=hHO.form
  clear hHO
  go_wp2_with fail
  refine (KC2.out).mono ?_
  rintro _ w2 ⟨u1,rfl,hb,hi⟩
  replace R0:=R0.ext hb
  replace ex:=ext_trans ex hb
  have HO2:=Lib.hid (HO.out.ext hb)
  clear hb KC2 t0 t1 t2 t3 t4 t5 t6 t7 t8 t9 l0
  have KG:=Lib.hid (refGlue_calls HO2.out hi (by rw[HL1.out,HL2.out]) (by rw[HL1.out];omega))
  rw[←HCS2.out]at KG
  obtain ⟨ia,ic,rfl,_⟩:=hi.form
  have hsz:=ex.size
  clear hi HO HO2
  go_wp2_with fail
  refine KG.out.mono ?_
  rintro _ w3 ⟨gv,rfl,hb,hi⟩
  replace R0:=R0.ext hb
  replace ex:=ext_trans ex hb
  have HO3:Hid (Ints (fun b=>w.heap.size≤b) w3 gv (cmpL s (k+1 - 1))):=Lib.hid (hi.mono fun b hb=>by omega)
  clear hi hb KG hsz
  go_wp2
  go_roundw
  case rel=>exact ⟨k+1,by omega,by omega,by go_num,ex,R0,HO3⟩
  case measure=>simp[intOf];omega
end Go.Proofs.YtaijafjfafbcfaaGreat
