/- Part of the proof that the laws answer true for every input. -/
import Derived.Test.YtiabbjolepnjkaaGreatPDfC00
set_option linter.unusedSimpArgs false
set_option linter.unnecessarySimpa false
set_option linter.unusedVariables false
set_option maxRecDepth 100000
set_option maxHeartbeats 40000000
namespace Go.Proofs.YtiabbjolepnjkaaGreat
open Go.RowKit
theorem X7:(Tryz.prog.info? 36).map (fun i=>(i.zero,i.size,i.bytes))=some (some (.slice none 0 0),1,24):=by kernel_rfl
def RetLL (B:Nat) (p:List (List Int)×Int) (w':World) (r:Value):Prop:=∃v,r=.tuple #[v,.int .i64 p.2]∧Lists (fun b=>B≤b) w' v p.1
theorem RetLL.nil (B:Nat) (w':World) {e e':Int} (h:e=e') {p:List (List Int)×Int} (hp:p=([],e')):RetLL B p w' (.tuple #[.slice none 0 0,e]):=by
 subst h hp;exact ⟨_,rfl,Lists.nil _ _⟩
theorem RetLL.mk {B:Nat} {w':World} {v:Value} {l:List (List Int)} {p:List (List Int)×Int} (h:Lists (fun b=>B≤b) w' v l) (hp:p=(l,0)):RetLL B p w' (.tuple #[v,.int .i64 0]):=by
 subst hp;exact ⟨_,rfl,h⟩
def classesR (l:List Int):List (List Int)×Int:=if checkS l=0 then (classesS l,0) else ([],checkS l)
theorem zaL {S:Nat→Prop} {w:World} {v:Value} {l:List Int} (h:Ints S w v l):
  Calls Tryz.prog 110 #[v] w (Post w (RetLL w.heap.size (classesR l))):=by
 have h0:=h;obtain ⟨a,cap,rfl,ha,_,_,hc,hf⟩:=h0;obtain ⟨i0,hi,hz0,hz1,hz2⟩:=info_parts info3;have hix:=zL Tryz.underlying36 hi hz1 ha;obtain ⟨i1,hj,hy0,hy1,hy2⟩:=info_parts X7;go_enter Tryz.func110,Tryz.ntmps110;go_wp2_with fail;refine (xO h).mono ?_;rintro _ w1 ⟨_,rfl,hb1,rfl⟩;by_cases h1:checkS l=0
 ·have e1:(checkS l !=0)=false:=by simp[h1]
  have H1:=zhd h1;have HG:=zhd (yf.1 h1);have hlen:=(yf.1 h1).1;clear h1;go_wp2;go_loopw [5,15] (fun vo i wr=>∃(k:Nat) (vs:List Value),k≤l.length∧i=.int .i64 k∧Below w.heap.size w wr∧OwnRows 36 3 w.heap.size wr vo vs (classesS (l.take k)))
   (fun _ i _=>l.length - (intOf i).toNat)
  case atStart=>exact ⟨0,[],by omega,rfl,hb1,by simpa[classesS,numS] using OwnRows.nil _ _ _ _⟩
  case round=>
   obtain ⟨k,vs,hk,rfl,hb,ho⟩:=hrel;by_cases hlt:k<l.length
   ·have q:=hix k hlt;have p:=Yb ha hb hc k hlt;have hgk:=HG.out.2 k hlt;have hnk:=zcW l HG.out.2 k hk;have hn0:=yI (l.take k);have HT:=zhd (qO hlt);have HK:=zhd (show (l.take k).length=k by simp;omega);have hB:=hb.size;obtain ⟨x,hx⟩:=Int.eq_ofNat_of_zero_le hgk.1;obtain ⟨ll,hll⟩:=zn (classesS (l.take k));have hln:ll.length=(numS (l.take k)).toNat:=by rw[hll,zT]
    rw[←hll]at ho;have hxn:x≤ll.length:=by omega
    have hlk:ll.length≤k:=by omega
    have HX:=zhd hx;have HLL:=zhd hll;have HLN:=zhd hln;rw[hx]at p;obtain ⟨av,capv,rfl,hav⟩:=ho.form;clear hgk hnk hn0 hx hll hln;have hrl:∀j,j<ll.length→(nthL ll j).length≤k:=by
     intro j hj;rw[HLL.out,yz (by rw[←HLN.out];exact hj)];unfold classS;rw[List.length_map];refine Nat.le_trans (List.length_filter_le _ _) ?_;rw[List.length_range,HK.out];exact Nat.le_refl _
    have HRL:=zhd hrl;clear hrl;by_cases hxe:x=ll.length
    ·have e2:((x:Int)==ll.length)=true:=by simp[hxe]
     have HE:=zhd hxe;have hx1:x<ll.length+1:=by omega
     have HR0:=zhd (show nthL (ll++[[]]) x=[] by rw[hxe];simp[nthL]);clear hxe;go_wp2_with (first
      | (at_builtin;refine zQ rfl (.tmp 24) (.tmp 25) 146 rfl 36 _ 24 Tryz.underlying146 X7 rfl w.heap.size _ _ _ rfl ho.row (.slice none 0 0) rfl rfl (by omega) (by omega) (by omega) ?_;intro g1 c1 w2 hown2 hbel2 hag2 hblk2;have ho2:=ho.push hown2 hag2 (fun k hk=>by cases hk;exact hblk2);have cx:=ho2.cell (x:=x) (by simp) (by simp;omega);have hB2:=hbel2.size)
      | (at_builtin;refine zQ rfl (.tmp 32) (.tmp 34) 36 rfl 3 _ 8 Tryz.underlying36 info3 rfl w.heap.size _ _ _ rfl (ho2.rows x (by simp;omega)) (.int .i64 (k:Int)) rfl rfl (by rw[HR0.out];simp) (by rw[HR0.out];simp) (by omega) ?_;intro g3 c3 w3 hown3 hbel3 hag3 hblk3;have kx:=ho2.keep (x:=x) (by simp) (by simp;omega) hag3;have k1:=kx.1;have k2:=kx.2))
     have hfin:=ho2.app (x:=x) (by simp) (by simp;omega) hown3 hag3 (fun k hk=>by cases hk;exact hblk3);rw[HR0.out]at hfin;go_roundw
     case rel=>
      refine ⟨k+1,?vs1,by omega,by go_num,((hb.trans hbel2).trans hbel3).setCell (p:=⟨g1,x,none⟩) (ho2.row.lt g1 rfl).1 _,?mn1⟩
      rotate_left
      rw[HT.out,zcH (by rw[HX.out];have:=HLN.out;have:=HE.out;have:=yI (l.take k);omega),HX.out,←HLL.out,HK.out];rw[HR0.out];exact hfin
     case measure=>simp[intOf];omega
    ·have e2:((x:Int)==ll.length)=false:=by simp;omega
     have hx1:x<ll.length:=by omega
     obtain ⟨g1,rfl⟩:=hav (by omega);have cx:=ho.cell rfl hx1;have hr1:=HRL.out x hx1;go_wp2_with (at_builtin;refine zQ rfl (.tmp 32) (.tmp 34) 36 rfl 3 _ 8 Tryz.underlying36 info3 rfl w.heap.size _ _ _ rfl (ho.rows x hx1) (.int .i64 (k:Int)) rfl rfl (by omega) (by omega) (by omega) ?_;intro g3 c3 w3 hown3 hbel3 hag3 hblk3;have kx:=ho.keep (x:=x) rfl hx1 hag3;have k1:=kx.1;have k2:=kx.2);have hfin:=ho.app (x:=x) rfl hx1 hown3 hag3 (fun k hk=>by cases hk;exact hblk3);go_roundw
     case rel=>
      refine ⟨k+1,?vs2,by omega,by go_num,(hb.trans hbel3).setCell (p:=⟨g1,x,none⟩) (ho.row.lt g1 rfl).1 _,?mn2⟩
      rotate_left
      rw[HT.out,zca (by rw[HX.out];omega) (by rw[HX.out];have:=HLN.out;omega),HX.out,←HLL.out,HK.out];exact hfin
     case measure=>simp[intOf];omega
   ·have hk':k=l.length:=by omega
    subst hk';have hL:=ho.lists (zdf (by simpa using hlen));rw[List.take_length]at hL;have h2:=H1.out;go_wp2;go_ret2;exact .mk hb (.mk hL (by simp[classesR,h2]))
 ·have e1:(checkS l !=0)=true:=by simp[h1]
  go_wp2_with fail;go_ret2;exact .mk hb1 (.nil _ _ rfl (by simp[classesR,h1]))
def cntR (l:List Int):Int×Int:=if checkS l=0 then (numS l,0) else (0,checkS l)
theorem zdH {S:Nat→Prop} {w:World} {v:Value} {l:List Int} (h:Ints S w v l):
  Calls Tryz.prog 77 #[v] w (Post w fun _ r=>r=.tuple #[.int .i64 (cntR l).1,.int .i64 (cntR l).2]):=by
 go_enter Tryz.func77,Tryz.ntmps77;go_wp2_with fail;refine (zaL h).mono ?_;rintro _ w1 ⟨_,rfl,hb1,v,rfl,a,cap,rfl,_⟩;go_wp2;go_ret2;refine .mk hb1 ?_;have:=yI l;have e1:((classesR l).1.length:Int)=(cntR l).1:=by
  unfold classesR cntR;split
  ·simp only[zT];omega
  ·rfl
 have e2:(classesR l).2=(cntR l).2:=by unfold classesR cntR;split<;>rfl
 rw[←e1,←e2];rfl
end Go.Proofs.YtiabbjolepnjkaaGreat
namespace Go.Proofs.YtiabbjolepnjkaaGreat
theorem zbq {K:Type} [DecidableEq K] (l:List K):numS (labs l)=(firsts l).length:=by
 have key:∀(n:Nat) (l:List K),l.length=n→numS (labs l)=(firsts l).length:=by
  intro n;induction n with
  | zero=>intro l hl;have:=List.eq_nil_of_length_eq_zero hl;subst this;rfl
  | succ n ih=>
   intro l hl;obtain ⟨m,x,rfl⟩:∃m x,l=m++[x]:=⟨l.dropLast,l.getLast (by intro h;subst h;simp at hl),(List.dropLast_concat_getLast _).symm⟩;have hm:=ih m (by simpa using hl);rw[Yh,yX,hm];by_cases h:x∈m
   ·rw[qN h,YE h];have:=zbJ h;omega
   ·rw[Q8 h,YX h];simp;omega
 exact key _ l rfl
theorem Qx {K:Type} [DecidableEq K] (l:List K):∀k,(labs l).take k=labs (l.take k):=by
 have key:∀(n:Nat) (l:List K),l.length=n→∀k,(labs l).take k=labs (l.take k):=by
  intro n;induction n with
  | zero=>intro l hl k;have:=List.eq_nil_of_length_eq_zero hl;subst this;simp[labs]
  | succ n ih=>
   intro l hl k;obtain ⟨m,x,rfl⟩:∃m x,l=m++[x]:=⟨l.dropLast,l.getLast (by intro h;subst h;simp at hl),(List.dropLast_concat_getLast _).symm⟩;have hmn:m.length=n:=by simpa using hl
   by_cases hk:k≤n
   ·rw[Yh,List.take_append_of_le_length (by simp;omega),List.take_append_of_le_length (by omega)];exact ih m hmn k
   ·rw[List.take_of_length_le (by simp;omega),List.take_of_length_le (by simp;omega)]
 exact key _ l rfl
theorem zbM {K:Type} [DecidableEq K] {l:List K} (h:l.length≤65536):Good (labs l):=by
 refine ⟨by simpa using h,fun i hi=>?_⟩;simp at hi;have e1:(labs l).take (i+1)=(labs l).take i++[nth (labs l) i]:=qO (by simpa using hi);rw[Qx,Qx,List.take_succ_eq_append_getElem hi,Yh]at e1;have e2:=List.append_cancel_left e1;simp only[List.cons.injEq,and_true]at e2;rw[Qx,zbq,←e2];by_cases hm:l[i]∈l.take i
 ·rw[qN hm];have:=zbJ hm;omega
 ·rw[Q8 hm];omega
end Go.Proofs.YtiabbjolepnjkaaGreat
