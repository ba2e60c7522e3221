/- Part of the proof that the laws answer true for every input. -/
import Derived.Test.YtaijafjfafbcfaaGreatPXb37
import Derived.Test.YtaijafjfafbcfaaGreatPXb36
set_option linter.unusedSimpArgs false
set_option linter.unnecessarySimpa false
set_option linter.unusedVariables false
set_option maxRecDepth 100000
set_option maxHeartbeats 40000000
namespace Go.Proofs.YtaijafjfafbcfaaGreat
open Go.RowKit
structure Woods (w:World) (g:Nat) (ps qs:List Int):Prop where
 len:qs.length=ps.length
 forest:Forest qs
 roots:∀j,j<ps.length→root qs j=root ps j
 row:Row w g 3 (qs.map (Value.int .i64))
structure But (g:Nat) (w w':World):Prop where
 agree:∀S:Nat→Prop,¬S g→Agree S w w'
 below:∀B,B≤g→Below B w w'
theorem But.refl (g:Nat) (w:World):But g w w:=⟨fun S _=>.refl _ _,fun B _=>.refl _ _⟩
theorem But.trans {g:Nat} {a b c:World} (h:But g a b) (k:But g b c):But g a c:=⟨fun S hS=>(h.agree S hS).trans (k.agree S hS),fun B hB=>(h.below B hB).trans (k.below B hB)⟩
theorem But.setCell (g j:Nat) (u:Value) (w:World):But g w (w.setCell ⟨g,j,none⟩ u):=
 ⟨fun S hS=>.of_grown (grownBy_setCell w g j u) (fun b hb e=>hS (by cases e;exact hb)),fun B hB=>(Below.refl _ _).setCell hB u⟩
theorem But.drew (g:Nat) (w:World):But g w w.drew:=⟨fun S _=>⟨Nat.le_refl _,fun _ _ _=>rfl⟩,fun B _=>(Below.refl _ _).drew⟩
def RootP (w:World) (g:Nat) (ps:List Int) (i:Nat) (e:Ending) (w':World):Prop:=
 ∃qs,e=.returned (.int .i64 (root ps i:Int))∧Woods w' g ps qs∧But g w w'
theorem root_calls {w:World} {g P:Nat} {ps:List Int} (hR:Row w g 3 (ps.map (Value.int .i64))) (hP:w.cell? ⟨P,0,none⟩=some (.slice (some ⟨g,0,none⟩) ps.length ps.length)) (hne:P≠g)
  (hF:Forest ps) (i:Nat) (hi:i<ps.length):
  Calls Tryz.prog 53 #[.int .i64 i,.pointer (some ⟨P,0,none⟩)] w (RootP w g ps i):=by
 have hPl:P<w.heap.size:=World.block_lt_of_cell? w _ hP
 go_enter Tryz.func53,Tryz.ntmps53
 go_wp2
 go_loopw [0] (fun iv wr=>∃(c:Nat) (qs:List Int),iv=.int .i64 c∧c<ps.length∧root ps c=root ps i∧Woods wr g ps qs∧But g w wr) (fun iv _=>(intOf iv).toNat)
 case atStart=>exact ⟨i,ps,rfl,hi,rfl,⟨rfl,hF,fun _ _=>rfl,hR⟩,.refl _ _⟩
 case round=>
  obtain ⟨c,qs,rfl,hc,hroot,hw,hb⟩:=hrel
  have hcq:c<qs.length:=by rw[hw.len];exact hc
  have hPr:wr.cell? ⟨P,0,none⟩=some (.slice (some ⟨g,0,none⟩) ps.length ps.length):=
   (World.cell?_of_block ((hb.agree (fun b=>b=P) (fun e=>hne e.symm)).block P rfl hPl)).trans hP
  obtain ⟨x,hx⟩:∃x,x=par qs c:=⟨_,rfl⟩
  have h1:=hw.forest.par hcq
  rw[←hx]at h1
  have hxq:x<qs.length:=by omega
  obtain ⟨y,hy⟩:∃y,y=par qs x:=⟨_,rfl⟩
  have h2:=hw.forest.par hxq
  rw[←hy]at h2
  have c1:wr.cell? ⟨g,c,none⟩=some (.int .i64 (x:Int)):=hw.row.cell (by rw[List.getElem?_map,get?_nth hcq,h1.1];rfl)
  have c2:wr.cell? ⟨g,x,none⟩=some (.int .i64 (y:Int)):=hw.row.cell (by rw[List.getElem?_map,get?_nth hxq,h2.1];rfl)
  have f1:=hw.row.free c
  have hxp:x<ps.length:=by rw[←hw.len];exact hxq
  have HX:=Lib.hid hx
  have HY:=Lib.hid hy
  have hxc:=h1.2
  have hyx:=h2.2
  have HLEN:=Lib.hid hw.len
  have HR:=Lib.hid hroot
  clear hx hy h1 h2 hroot
  by_cases he:x=c
  ·have he':((x:Int) !=c)=false:=by simp[he]
   have HE:=Lib.hid he
   clear he
   go_wp2
   go_ret
   refine ⟨qs,?_,hw,hb⟩
   have hfix:root qs c=c:=root_fix (by rw[←HX.out,HE.out])
   have:root ps i=c:=by rw[←HR.out,←hw.roots c hc,hfix]
   rw[this]
   rfl
  ·have he':((x:Int) !=c)=true:=by simp;omega
   go_wp2
   go_region
   all_goals go_wp2
   go_roundw
   case rel=>
    have hl:=HLEN.out
    refine ⟨y,qs.set c (par qs (par qs c):Nat),by rfl,by omega,?_,⟨by simpa using hl,hw.forest.set (by rw[←HX.out,←HY.out];omega),?_,?_⟩,?_⟩
    ·have r1:=root_step hw.forest hcq
     rw[←HX.out]at r1
     have r2:=root_step hw.forest hxq
     rw[←HY.out]at r2
     rw[←HR.out,←hw.roots y (by omega),←hw.roots c hc,r1,r2]
    ·intro j hj
     rw[root_halve hw.forest hcq j (by omega),hw.roots j hj]
    ·rw[←HX.out,←HY.out,List.map_set]
     exact hw.row.set c _
    ·exact (hb.trans (But.setCell g c _ _)).trans (But.drew g _)
   case measure=>simp[intOf];omega
end Go.Proofs.YtaijafjfafbcfaaGreat
namespace Go.Proofs.YtaijafjfafbcfaaGreat
open Go.RowKit
end Go.Proofs.YtaijafjfafbcfaaGreat
namespace Go.Proofs.YtaijafjfafbcfaaGreat
open Go.RowKit
def meetS (a b:List Int):List Int:=labs (a.zip b)
end Go.Proofs.YtaijafjfafbcfaaGreat
namespace Go.Proofs.YtaijafjfafbcfaaGreat
open Go.RowKit
def RetL (B:Nat) (p:List Int×Int) (w':World) (r:Value):Prop:=∃v,r=.tuple #[v,.int .i64 p.2]∧Ints (fun b=>B≤b) w' v p.1
theorem RetL.nil (B:Nat) (w':World) {e e':Int} (h:e=e') {p:List Int×Int} (hp:p=([],e')):RetL B p w' (.tuple #[.slice none 0 0,.int .i64 e]):=by
 subst h hp;exact ⟨_,rfl,Ints.nil _ _⟩
theorem RetL.mk {B:Nat} {w':World} {v:Value} {l:List Int} {p:List Int×Int} (h:Ints (fun b=>B≤b) w' v l) (hp:p=(l,0)):RetL B p w' (.tuple #[v,.int .i64 0]):=by
 subst hp;exact ⟨_,rfl,h⟩
theorem checkS_small {l:List Int} (h:checkS l=0):l.length≤65536:=by
 unfold checkS at h;split at h
 ·omega
 ·omega
theorem bothS_len {a b:List Int} (h:bothS a b=0):a.length=b.length∧a.length≤65536:=by
 unfold bothS at h
 by_cases h1:checkS a=0
 ·have:=checkS_small h1
  simp only[h1,ne_eq,not_true_eq_false,if_false]at h
  by_cases h2:checkS b=0
  ·simp only[h2,not_true_eq_false,if_false]at h
   by_cases h3:a.length=b.length
   ·exact ⟨h3,this⟩
   ·simp[h3]at h
  ·simp[h2]at h
 ·simp[h1]at h
end Go.Proofs.YtaijafjfafbcfaaGreat
namespace Go.Proofs.YtaijafjfafbcfaaGreat
open Go.RowKit
def Sound (a b qs:List Int):Prop:=∀i j,i<a.length→j<a.length→root qs i=root qs j→Gen a b i j
def Compl (l qs:List Int) (k:Nat):Prop:=∀i j,i<k→j<k→nth l i=nth l j→root qs i=root qs j
theorem Compl.roots {l ps qs:List Int} {k:Nat} (h:Compl l ps k) (hr:∀j,j<k→root qs j=root ps j):Compl l qs k:=fun i j hi hj e=>by rw[hr i hi,hr j hj];exact h i j hi hj e
theorem Sound.roots {a b ps qs:List Int} (h:Sound a b ps) (hr:∀j,j<a.length→root qs j=root ps j):Sound a b qs:=fun i j hi hj e=>h i j hi hj (by rw[←hr i hi,←hr j hj];exact e)
theorem gen_iff {a b qs:List Int} (hlen:b.length=a.length) (hs:Sound a b qs) (ha:Compl a qs a.length) (hb:Compl b qs a.length) {i j:Nat} (hi:i<a.length) (hj:j<a.length):root qs i=root qs j↔Gen a b i j:=by
 refine ⟨hs i j hi hj,fun h=>?_⟩
 refine h (fun i j=>root qs i=root qs j) ?_ (fun i j e=>e.symm) (fun i j k e1 e2=>e1.trans e2)
 intro i j hi hj h
 rcases h with h | h
 ·exact ha i j hi hj h
 ·exact hb i j hi hj h
theorem link_all {a b l qs:List Int} {p q hi lo:Nat} (hF:Forest qs) (hn:qs.length=a.length) (hhl:lo≤hi) (hhi:hi<qs.length) (plo:par qs lo=lo) (phi:par qs hi=hi)
  (hs:Sound a b qs) {i f:Nat} (hin:i<a.length) (hfn:f<a.length) (hfi:f<i) (hx:Gen a b i f)
  (hr:(root qs i=lo∧root qs f=hi)∨(root qs i=hi∧root qs f=lo)):
  Sound a b (qs.set hi (lo:Nat))∧(∀(m:List Int) (k:Nat),k≤a.length→Compl m qs k→Compl m (qs.set hi (lo:Nat)) k)∧
   (nth l i=nth l f→Compl l qs i→Compl l (qs.set hi (lo:Nat)) (i+1)):=by
 have key:=root_link hF hhi hhl plo phi
 have eqs:∀u v,u<a.length→v<a.length→root qs u=root qs v→root (qs.set hi (lo:Nat)) u=root (qs.set hi (lo:Nat)) v:=by
  intro u v hu hv e
  rw[key u (by omega),key v (by omega),e]
 have eif:root (qs.set hi (lo:Nat)) i=root (qs.set hi (lo:Nat)) f:=by
  rw[key i (by omega),key f (by omega)]
  rcases hr with ⟨h1,h2⟩ | ⟨h1,h2⟩<;>simp[h1,h2]
 refine ⟨?_,fun m k hk hc u v hu hv e=>eqs u v (by omega) (by omega) (hc u v hu hv e),fun hl hc u v hu hv e=>?_⟩
 ·intro u v hu hv e
  rw[key u (by omega),key v (by omega)]at e
  have g1:∀u,u<a.length→root qs u=lo∨root qs u=hi→Gen a b u i:=by
   intro u hu h
   rcases hr with ⟨h1,h2⟩ | ⟨h1,h2⟩
   ·rcases h with h | h
    ·exact hs u i hu hin (by rw[h,h1])
    ·exact (hs u f hu hfn (by rw[h,h2])).trans hx.symm
   ·rcases h with h | h
    ·exact (hs u f hu hfn (by rw[h,h2])).trans hx.symm
    ·exact hs u i hu hin (by rw[h,h1])
  by_cases hu':root qs u=hi
  ·by_cases hv':root qs v=hi
   ·exact hs u v hu hv (by rw[hu',hv'])
   ·rw[if_pos hu',if_neg hv']at e
    exact (g1 u hu (.inr hu')).trans (g1 v hv (.inl e.symm)).symm
  ·by_cases hv':root qs v=hi
   ·rw[if_neg hu',if_pos hv']at e
    exact (g1 u hu (.inl e)).trans (g1 v hv (.inr hv')).symm
   ·rw[if_neg hu',if_neg hv']at e
    exact hs u v hu hv e
 ·have one:∀u,u<i+1→nth l u=nth l i→root (qs.set hi (lo:Nat)) u=root (qs.set hi (lo:Nat)) i:=by
   intro u hu e
   by_cases hui:u=i
   ·rw[hui]
   ·rw[eif]
    exact eqs u f (by omega) hfn (hc u f (by omega) hfi (by rw[e,hl]))
  by_cases hui:u=i
  ·subst hui;exact (one v hv e.symm).symm
  ·by_cases hvi:v=i
   ·subst hvi;exact one u hu e
   ·exact eqs u v (by omega) (by omega) (hc u v (by omega) (by omega) e)
structure Firsts (l:List Int) (k:Nat) (m:Int→Option Value):Prop where
 hit:∀p,p<k→∃f,f≤p∧m (nth l p)=some (.int .i64 (f:Int))∧nth l f=nth l p
 miss:∀x,(∀p,p<k→nth l p≠x)→m x=none
theorem Firsts.old {l:List Int} {k f:Nat} {m:Int→Option Value} (h:Firsts l k m) (hm:m (nth l k)=some (.int .i64 (f:Int))) (hf:f<k) (hl:nth l f=nth l k):Firsts l (k+1) m:=by
 refine ⟨fun p hp=>?_,fun x hx=>h.miss x (fun p hp=>hx p (by omega))⟩
 by_cases e:p=k
 ·subst e;exact ⟨f,by omega,hm,hl⟩
 ·exact h.hit p (by omega)
theorem Firsts.new {l:List Int} {k:Nat} {m:Int→Option Value} (h:Firsts l k m) (hno:∀p,p<k→nth l p≠nth l k):Firsts l (k+1) (fun z=>if z=nth l k then some (.int .i64 (k:Int)) else m z):=by
 refine ⟨fun p hp=>?_,fun x hx=>?_⟩
 ·by_cases e:p=k
  ·subst e;exact ⟨p,by omega,by simp,rfl⟩
  ·obtain ⟨f,h1,h2,h3⟩:=h.hit p (by omega)
   exact ⟨f,h1,by simp only[if_neg (hno p (by omega))];exact h2,h3⟩
 ·have e:x≠nth l k:=fun e=>hx k (by omega) e.symm
  simp only[if_neg e]
  exact h.miss x (fun p hp=>hx p (by omega))
def partRow (f:Nat→Int) (k n:Nat):List Value:=(keys f k).map (Value.int .i64)++List.replicate (n - k) (.int .i64 0)
theorem partRow_get {f:Nat→Int} {k n:Nat} (h:k<n):(partRow f k n)[k]? =some (.int .i64 0):=by
 unfold partRow
 rw[List.getElem?_append_right (by simp)]
 have e:n - k=(n - k - 1)+1:=by omega
 rw[e,List.replicate_succ]
 simp
theorem partRow_set {f:Nat→Int} {k n:Nat} (h:k<n):(partRow f k n).set k (.int .i64 (f k))=partRow f (k+1) n:=by
 unfold partRow
 rw[List.set_append_right _ _ (by simp),keys_succ]
 have e:n - k=(n - (k+1))+1:=by omega
 rw[e,List.replicate_succ]
 simp
theorem partRow_zero (f:Nat→Int) (n:Nat):partRow f 0 n=List.replicate n (.int .i64 0):=by simp[partRow,keys]
theorem partRow_full (f:Nat→Int) (n:Nat):partRow f n n=(keys f n).map (Value.int .i64):=by simp[partRow]
noncomputable def joinR (a b:List Int):List Int×Int:=if bothS a b=0 then (joinS a b,0) else ([],bothS a b)
theorem join_calls {S S':Nat→Prop} {w:World} {va vb:Value} {a b:List Int} (ha:Ints S w va a) (hb:Ints S' w vb b):
  Calls Tryz.prog 28 #[va,vb] w (Post w (RetL w.heap.size (joinR a b))):=by
 have ha0:=ha
 have hb0:=hb
 obtain ⟨aa,capa,rfl,haa,_,hma,hca,hfa⟩:=ha0
 obtain ⟨ab,capb,rfl,hab,_,hmb,hcb,hfb⟩:=hb0
 clear hma hmb
 obtain ⟨i0,hi,hz0,hz1,hz2⟩:=info_parts info3
 have hmm:=@run_makeMap Tryz.prog
 go_enter Tryz.func28,Tryz.ntmps28
 go_wp2_with fail
 refine (both_calls ha hb).mono ?_
 rintro _ w1 ⟨_,rfl,hb1,rfl⟩
 by_cases h1:bothS a b=0
 ·have e1:(bothS a b !=0)=false:=by simp[h1]
  have H1:=Lib.hid h1
  obtain ⟨hlen,hmax⟩:=bothS_len h1
  have HL:=Lib.hid hlen
  clear h1 hlen
  have hB1:=hb1.size
  have hmk:=run_make_row' 44 3 (.int .i64 0) 8 Tryz.underlying44 info3 rfl .i64 .i64 a.length (by omega) (by omega)
  go_wp2
  go_loopw [32] (fun i wr=>∃k:Nat,k≤a.length∧i=.int .i64 k∧Below w.heap.size w wr∧Row wr w1.heap.size 3 (partRow (fun i=>(i:Int)) k a.length)∧wr.cell? ⟨w1.heap.size+1,0,none⟩=some (.slice (some ⟨w1.heap.size,0,none⟩) a.length a.length))
   (fun i _=>a.length - (intOf i).toNat)
  case atStart=>
   refine ⟨0,by omega,rfl,(hb1.alloc hB1 _).alloc (by simp;omega) _,?_,?_⟩
   ·rw[partRow_zero]
    exact (Row.made w1 (.int .i64 0) a.length 3).alloc _
   ·rw[World.cell?_alloc_at _ _ _ _ (by simp)];rfl
  case round=>
   obtain ⟨k,hk,rfl,hbr,hR,hP⟩:=hrel
   by_cases hlt:k<a.length
   ·have r1:=hR.cell (partRow_get hlt)
    have r2:=hR.free k
    have hPb:=World.block_lt_of_cell? wr _ hP
    go_wp2
    go_roundw
    case rel=>
     refine ⟨k+1,by omega,by go_num,hbr.setCell (by simpa using hB1) _,?_,?_⟩
     ·rw[←partRow_set hlt];exact hR.set k _
     ·exact (World.cell?_of_block (heap_setCell_other _ _ _ _ (by simp))).trans hP
    case measure=>simp[intOf];omega
   ·have hk':k=a.length:=by omega
    subst hk'
    go_wp2_with fail
    obtain ⟨w2,hw2⟩:∃w2:World,w2=wr.alloc (.cells #[.slice aa a.length capa,.slice ab b.length capb] 44):=⟨_,rfl⟩
    obtain ⟨D,hD⟩:∃D:Nat,D=wr.heap.size:=⟨_,rfl⟩
    rw[←hw2,←hD]
    have hPb:=World.block_lt_of_cell? wr _ hP
    have hgD:w1.heap.size+1<D:=by rw[hD];exact hPb
    have hDs:D<w2.heap.size:=by rw[hw2,hD];simp
    have hbr2:Below w.heap.size w w2:=by rw[hw2];exact hbr.alloc hbr.size _
    have hR2:Row w2 w1.heap.size 3 ((idList a.length).map (Value.int .i64)):=by
     rw[hw2]
     rw[partRow_full]at hR
     exact hR.alloc _
    have hP2:w2.cell? ⟨w1.heap.size+1,0,none⟩=some (.slice (some ⟨w1.heap.size,0,none⟩) a.length a.length):=by
     rw[hw2,World.cell?_alloc_past _ _ _ hPb];exact hP
    have hL0:w2.cell? ⟨D,0,none⟩=some (.slice aa a.length capa):=by rw[hw2,World.cell?_alloc_at _ _ _ _ hD];rfl
    have hL1:w2.cell? ⟨D,1,none⟩=some (.slice ab b.length capb):=by rw[hw2,World.cell?_alloc_at _ _ _ _ hD];rfl
    clear hw2 hD hbr hR hP hPb
    clear wr
    go_loopw [45] (fun i wr=>∃(k:Nat) (qs:List Int),k≤2∧i=.int .i64 k∧Below w.heap.size w wr∧Agree (fun b=>b≠w1.heap.size∧b<w2.heap.size) w2 wr∧Row wr w1.heap.size 3 (qs.map (Value.int .i64))∧qs.length=a.length∧Forest qs∧Sound a b qs∧(0<k→Compl a qs a.length)∧(1<k→Compl b qs a.length))
     (fun i _=>2 - (intOf i).toNat)
    case atStart=>
     refine ⟨0,idList a.length,by omega,rfl,hbr2,.refl _ _,hR2,by simp,forest_idList _,fun i j hi hj e=>?_,fun h=>by omega,fun h=>by omega⟩
     rw[root_idList hi,root_idList hj]at e
     exact .base hi hj (.inl (by rw[e]))
    case round=>
     obtain ⟨k,qs,hk,rfl,hb3,hag,hR3,hql,hF,hS,hCa,hCb⟩:=hrel
     have hP3:wr.cell? ⟨w1.heap.size+1,0,none⟩=some (.slice (some ⟨w1.heap.size,0,none⟩) a.length a.length):=
      (World.cell?_of_block (hag.block (w1.heap.size+1) ⟨by omega,by omega⟩ (by omega))).trans hP2
     have hB3:=hb3.size
     have hw2s:=hag.size
     by_cases hk2:k<2
     ·obtain ⟨al,cl,l,hlc,hll,hal,hcl,hfl,hgl,hkl⟩:∃(al:Option Addr) (cl:Nat) (l:List Int),wr.cell? ⟨D,k,none⟩=some (.slice al a.length cl)∧l.length=a.length∧Ad (fun _=>True) wr al a.length cl∧
        (∀wX:World,Below w.heap.size w wX→∀j,j<a.length→wX.cell? (adr al j)=some (.int .i64 (nth l j)))∧(∀x∈l,WF x)∧(∀i j,i<a.length→j<a.length→nth l i=nth l j→Gen a b i j)∧(∀qs',Compl l qs' a.length→(0<k→Compl a qs' a.length)→(0<k+1→Compl a qs' a.length)∧(1<k+1→Compl b qs' a.length)):=by
       have hD0:=World.cell?_of_block (a:=⟨D,k,none⟩) (hag.block D ⟨by omega,hDs⟩ hDs)
       have hlab:=HL.out
       have hk01:k=0∨k=1:=by omega
       rcases hk01 with rfl | rfl
       ·refine ⟨aa,capa,a,hD0.trans hL0,rfl,(haa.mono (fun _ _=>trivial)).agree (.of_ext hb3),fun wX hX=>cells_at haa hX hca,hfa,fun i j hi hj e=>.base hi hj (.inl e),fun qs' h _=>⟨fun _=>h,fun h'=>by omega⟩⟩
       ·refine ⟨ab,capb,b,by rw[hlab];exact hD0.trans hL1,hlab.symm,?_,fun wX hX j hj=>cells_at hab hX hcb j (by omega),hfb,fun i j hi hj e=>.base hi hj (.inr e),fun qs' h h0=>⟨fun _=>h0 (by omega),fun _=>h⟩⟩
        rw[hlab]
        exact (hab.mono (fun _ _=>trivial)).agree (.of_ext hb3)
      have hixl:=idx_one Tryz.underlying44 hi hz1 hal
      have HCa:=Lib.hid hCa
      have HKL:=Lib.hid hkl
      have HGL:=Lib.hid hgl
      have HLL:=Lib.hid hll
      clear hCa hCb hkl hgl hll
      obtain ⟨wo,rfl⟩:∃wo:World,wo=wr:=⟨_,rfl⟩
      have HCL:=Lib.hid hcl
      clear hcl
      have hwos:w2.heap.size≤wo.heap.size:=hw2s
      have hk2d:decide ((k:Int)<2)=true:=by simp;omega
      go_wp2
      go_loopw [52] (fun i wi=>∃(p:Nat) (qi:List Int) (m:Int→Option Value) (c:Nat),p≤a.length∧i=.int .i64 p∧Below w.heap.size w wi∧wo.heap.size<wi.heap.size∧Agree (fun b=>b≠w1.heap.size∧b<w2.heap.size) w2 wi∧Row wi w1.heap.size 3 (qi.map (Value.int .i64))∧qi.length=a.length∧Forest qi∧Sound a b qi∧(0<k→Compl a qi a.length)∧Compl l qi p∧MapV keyInt wi wo.heap.size m c∧c≤p∧Firsts l p m)
       (fun i _=>a.length - (intOf i).toNat)
      case atStart=>
       exact ⟨0,qs,_,0,by omega,rfl,hb3.alloc hB3 _,by simp,hag.trans ⟨by simp,fun b hb hl=>heap_alloc_old _ _ hl⟩,hR3.alloc _,hql,hF,hS,HCa.out,fun i j hi=>by omega,MapV.made keyInt wo,by omega,⟨fun p hp=>by omega,fun x _=>rfl⟩⟩
      case round=>
       obtain ⟨p,qi,m,c,hp,rfl,hbi,hwi,hagi,hRi,hqi,hFi,hSi,hCai,hCli,hM,hcp,hfst⟩:=hrel
       obtain ⟨wi,rfl⟩:∃wi:World,wi=wr:=⟨_,rfl⟩
       have hPi:wi.cell? ⟨w1.heap.size+1,0,none⟩=some (.slice (some ⟨w1.heap.size,0,none⟩) a.length a.length):=
        (World.cell?_of_block (hagi.block (w1.heap.size+1) ⟨by omega,by omega⟩ (by omega))).trans hP2
       have hBi:=hbi.size
       have HCAI:=Lib.hid hCai
       have HQI:=Lib.hid hqi
       clear hCai hqi
       by_cases hlt:p<a.length
       ·have q0:=hixl p hlt
        have p0:=HCL.out wi hbi p hlt
        have hwf:WF (nth l p):=hfl _ (nth_mem (by rw[HLL.out];exact hlt))
        by_cases hex:∃j,j<p∧nth l j=nth l p
        ·obtain ⟨j,hj,hje⟩:=hex
         obtain ⟨f,hfj,hmf,hfe⟩:=hfst.hit j hj
         rw[hje]at hmf hfe
         have HMF:=Lib.hid hmf
         have HFE:=Lib.hid hfe
         have hfp:f<p:=by omega
         clear hje hmf hfe hfj hj
         go_wp2_with (at_lookup;refine wpList_hit rfl _ _ 107 rfl 3 Tryz.underlying107 (.int .i64 0) (zero_int _) rfl hM (nth l p) rfl hwf (.int .i64 (f:Int)) HMF.out ?_)
         refine (root_calls hRi (P:=w1.heap.size+1) (by rw[HQI.out];exact hPi) (by omega) hFi p (by rw[HQI.out];exact hlt)).mono ?_
         rintro _ wa ⟨qa,rfl,hwa,hba⟩
         have hPa:wa.cell? ⟨w1.heap.size+1,0,none⟩=some (.slice (some ⟨w1.heap.size,0,none⟩) a.length a.length):=
          (World.cell?_of_block ((hba.agree (fun b=>b=w1.heap.size+1) (by omega)).block (w1.heap.size+1) rfl (by omega))).trans hPi
         have hqa:qa.length=a.length:=by rw[hwa.len,HQI.out]
         have HQA:=Lib.hid hqa
         clear hqa
         go_wp2_with fail
         refine (root_calls hwa.row (P:=w1.heap.size+1) (by rw[HQA.out];exact hPa) (by omega) hwa.forest f (by rw[HQA.out];omega)).mono ?_
         rintro _ wb ⟨qb,rfl,hwb,hbb⟩
         have hb2:=hba.trans hbb
         have hPb:wb.cell? ⟨w1.heap.size+1,0,none⟩=some (.slice (some ⟨w1.heap.size,0,none⟩) a.length a.length):=
          (World.cell?_of_block ((hb2.agree (fun b=>b=w1.heap.size+1) (by omega)).block (w1.heap.size+1) rfl (by omega))).trans hPi
         have hqb:qb.length=a.length:=by rw[hwb.len,HQA.out]
         have hrb:∀j,j<a.length→root qb j=root qi j:=fun j hj=>by rw[hwb.roots j (by rw[HQA.out];exact hj),hwa.roots j (by rw[HQI.out];exact hj)]
         have e2:root qa f=root qi f:=hwa.roots f (by rw[HQI.out];omega)
         rw[e2]
         obtain ⟨r1,hr1⟩:∃r,r=root qi p:=⟨_,rfl⟩
         obtain ⟨r2,hr2⟩:∃r,r=root qi f:=⟨_,rfl⟩
         rw[←hr1,←hr2]
         have s1:=root_spec hwb.forest p (by rw[hqb];exact hlt)
         have s2:=root_spec hwb.forest f (by rw[hqb];omega)
         rw[hrb p hlt,←hr1]at s1
         rw[hrb f (by omega),←hr2]at s2
         have t1:root qb p=r1:=by rw[hrb p hlt,←hr1]
         have t2:root qb f=r2:=by rw[hrb f (by omega),←hr2]
         have hl1:r1<qb.length:=by omega
         have hl2:r2<qb.length:=by omega
         have hSb:=hSi.roots hrb
         have hCb':0<k→Compl a qb a.length:=fun h=>(HCAI.out h).roots hrb
         have hClb:Compl l qb p:=hCli.roots (fun j hj=>hrb j (by omega))
         have hgpf:Gen a b p f:=HGL.out p f hlt (by omega) HFE.out.symm
         have hMb:=hM.agree (S:=fun b=>b=wo.heap.size) (hb2.agree _ (by omega)) rfl
         have hagb:=hagi.trans (hb2.agree (fun b=>b≠w1.heap.size∧b<w2.heap.size) (by simp))
         have hbelb:=hbi.trans (hb2.below w.heap.size hB1)
         have hszb:=(hb2.below 0 (Nat.zero_le _)).size
         have HQB:=Lib.hid hqb
         have T1:=Lib.hid t1
         have T2:=Lib.hid t2
         have CB:=Lib.hid hCb'
         clear hqb hrb e2 hr1 hr2 t1 t2 hCb' hPa
         have sp1:=Lib.hid s1.1
         have sp2:=Lib.hid s2.1
         have sl1:=s1.2
         have sl2:=s2.2
         clear s1 s2
         have cell1:∀r,r<qb.length→wb.cell? ⟨w1.heap.size,r,none⟩=some (.int .i64 (nth qb r)):=fun r hr=>hwb.row.cell (by rw[List.getElem?_map,get?_nth hr];rfl)
         have cA:=cell1 r1 hl1
         have cB:=cell1 r2 hl2
         clear cell1
         have fA:=hwb.row.free r1
         have fB:=hwb.row.free r2
         have hra:r1<a.length:=by have:=HQB.out;omega
         have hrb':r2<a.length:=by have:=HQB.out;omega
         by_cases hc1:r1<r2
         ·have hc2:¬r2<r1:=by omega
          go_wp2_with fail
          obtain ⟨L1,L2,L3⟩:=link_all (p:=0) (q:=0) (l:=l) (hi:=r2) (lo:=r1) hwb.forest HQB.out (by omega) (by have:=HQB.out;omega) sp1.out sp2.out hSb hlt (show f<a.length by omega) hfp hgpf (.inl ⟨T1.out,T2.out⟩)
          go_roundw
          case rel=>
           refine ⟨p+1,qb.set r2 (r1:Nat),m,c,by omega,by go_num,hbelb.setCell (by simpa using hB1) _,by simp;omega,hagb.trans (.of_grown (grownBy_setCell _ _ _ _) (fun b hb e=>by simp at e;exact hb.1 e.symm)),by rw[List.map_set];exact hwb.row.set _ _,by simp[HQB.out],hwb.forest.set (by omega),L1,fun h=>L2 a _ (Nat.le_refl _) (CB.out h),L3 HFE.out.symm hClb,hMb.grown (grownBy_setCell _ _ _ _) (by simp;omega),by omega,hfst.old HMF.out hfp HFE.out⟩
          case measure=>simp[intOf];omega
         ·by_cases hc2:r2<r1
          ·go_wp2_with fail
           obtain ⟨L1,L2,L3⟩:=link_all (p:=0) (q:=0) (l:=l) (hi:=r1) (lo:=r2) hwb.forest HQB.out (by omega) (by have:=HQB.out;omega) sp2.out sp1.out hSb hlt (show f<a.length by omega) hfp hgpf (.inr ⟨T1.out,T2.out⟩)
           go_roundw
           case rel=>
            refine ⟨p+1,qb.set r1 (r2:Nat),m,c,by omega,by go_num,hbelb.setCell (by simpa using hB1) _,by simp;omega,hagb.trans (.of_grown (grownBy_setCell _ _ _ _) (fun b hb e=>by simp at e;exact hb.1 e.symm)),by rw[List.map_set];exact hwb.row.set _ _,by simp[HQB.out],hwb.forest.set (by omega),L1,fun h=>L2 a _ (Nat.le_refl _) (CB.out h),L3 HFE.out.symm hClb,hMb.grown (grownBy_setCell _ _ _ _) (by simp;omega),by omega,hfst.old HMF.out hfp HFE.out⟩
           case measure=>simp[intOf];omega
          ·obtain rfl:r1=r2:=by omega
           go_wp2_with fail
           obtain ⟨L1,L2,L3⟩:=link_all (p:=0) (q:=0) (l:=l) (hi:=r1) (lo:=r1) hwb.forest HQB.out (Nat.le_refl _) (by have:=HQB.out;omega) sp1.out sp1.out hSb hlt (show f<a.length by omega) hfp hgpf (.inl ⟨T1.out,T2.out⟩)
           go_roundw
           case rel=>
            refine ⟨p+1,qb.set r1 (r1:Nat),m,c,by omega,by go_num,hbelb.setCell (by simpa using hB1) _,by simp;omega,hagb.trans (.of_grown (grownBy_setCell _ _ _ _) (fun b hb e=>by simp at e;exact hb.1 e.symm)),by rw[List.map_set];exact hwb.row.set _ _,by simp[HQB.out],hwb.forest.set (Nat.le_refl _),L1,fun h=>L2 a _ (Nat.le_refl _) (CB.out h),L3 HFE.out.symm hClb,hMb.grown (grownBy_setCell _ _ _ _) (by simp;omega),by omega,hfst.old HMF.out hfp HFE.out⟩
           case measure=>simp[intOf];omega
        ·have hno:∀j,j<p→nth l j≠nth l p:=fun j hj e=>hex ⟨j,hj,e⟩
         have hmiss:=Lib.hid (hfst.miss _ hno)
         have HNO:=Lib.hid hno
         clear hno hex
         go_wp2_with (first
          | (at_lookup;refine wpList_miss rfl _ _ 107 rfl 3 Tryz.underlying107 (.int .i64 0) (zero_int _) rfl hM (nth l p) rfl hwf hmiss.out ?_)
          | (at_mapUpdate;refine wpList_upd rfl _ _ _ 107 rfl 3 Tryz.underlying107 rfl hM (by unfold maxLen;omega) (nth l p) rfl hwf (.int .i64 (p:Int)) rfl ?_;intro w4 hM4 hg4))
         go_roundw
         case rel=>
          rw[hmiss.out]at hM4
          refine ⟨p+1,qi,_,c+1,by omega,by go_num,hbi.grown hg4 hBi (fun j hj=>by cases hj;omega),Nat.lt_of_lt_of_le hwi hg4.size,?_,hRi.grown hg4 (by simp;omega),HQI.out,hFi,hSi,HCAI.out,?_,by simpa using hM4,by omega,hfst.new HNO.out⟩
          ·refine hagi.trans (.of_grown hg4 (fun b hb e=>?_))
           have:=hb.2
           simp at e;omega
          ·intro u v hu hv e
           by_cases huv:u=v
           ·rw[huv]
           ·by_cases hup:u=p
            ·subst hup;exact absurd e.symm (HNO.out v (by omega))
            ·by_cases hvp:v=p
             ·subst hvp;exact absurd e (HNO.out u (by omega))
             ·exact hCli u v (by omega) (by omega) e
         case measure=>simp[intOf];omega
       ·have hp':p=a.length:=by omega
        subst hp'
        have hfin:=HKL.out qi hCli HCAI.out
        have HFIN:=Lib.hid hfin
        clear hfin
        go_wp2
        go_roundw
        case rel=>exact ⟨k+1,qi,by omega,by go_num,hbi,hagi,hRi,HQI.out,hFi,hSi,HFIN.out.1,HFIN.out.2⟩
        case measure=>simp[intOf];omega
     ·have hk2d:decide ((k:Int)<2)=false:=by simp;omega
      have HG:=Lib.hid (fun i j (hi:i<a.length) (hj:j<a.length)=>gen_iff (by have:=HL.out;omega) hS (hCa (by omega)) (hCb (by omega)) hi hj)
      have HQL:=Lib.hid hql
      clear hCa hCb hql
      go_wp2
      obtain ⟨E,hE⟩:∃E:Nat,E=wr.heap.size:=⟨_,rfl⟩
      rw[←hE]
      have hEg:w1.heap.size+1<E:=by omega
      have hEw:w.heap.size≤E:=by omega
      have HE:=Lib.hid hE
      clear hE
      go_loopw [88] (fun i wi=>∃(t:Nat) (qi:List Int),t≤a.length∧i=.int .i64 t∧Below w.heap.size w wi∧Woods wi w1.heap.size qs qi∧wi.cell? ⟨w1.heap.size+1,0,none⟩=some (.slice (some ⟨w1.heap.size,0,none⟩) a.length a.length)∧Row wi E 3 (partRow (fun i=>(root qs i:Int)) t a.length))
       (fun i _=>a.length - (intOf i).toNat)
      case atStart=>
       refine ⟨0,qs,by omega,rfl,hb3.alloc hB3 _,⟨rfl,hF,fun _ _=>rfl,hR3.alloc _⟩,?_,?_⟩
       ·rw[World.cell?_alloc_past _ _ _ (by omega)];exact hP3
       ·rw[partRow_zero,HE.out];exact Row.made wr (.int .i64 0) a.length 3
      case round=>
       obtain ⟨t,qi,ht,rfl,hbi,hwd,hPi,hRE⟩:=hrel
       obtain ⟨wi,rfl⟩:∃wi:World,wi=wr:=⟨_,rfl⟩
       have hEl:=hRE.lt
       by_cases hlt:t<a.length
       ·have hqi:qi.length=a.length:=by rw[hwd.len,HQL.out]
        have HQI:=Lib.hid hqi
        clear hqi
        go_wp2_with fail
        refine (root_calls hwd.row (P:=w1.heap.size+1) (by rw[HQI.out];exact hPi) (by omega) hwd.forest t (by rw[HQI.out];exact hlt)).mono ?_
        rintro _ wa ⟨qa,rfl,hwa,hba⟩
        have hREa:=hRE.agree (S:=fun b=>b=E) (hba.agree _ (by omega)) rfl
        have hPa:wa.cell? ⟨w1.heap.size+1,0,none⟩=some (.slice (some ⟨w1.heap.size,0,none⟩) a.length a.length):=
         (World.cell?_of_block ((hba.agree (fun b=>b=w1.heap.size+1) (by omega)).block (w1.heap.size+1) rfl (by omega))).trans hPi
        have hrt:root qi t=root qs t:=hwd.roots t (by rw[HQL.out];exact hlt)
        have HRT:=Lib.hid hrt
        rw[hrt]
        clear hrt
        have cE:=hREa.cell (partRow_get hlt)
        have fE:=hREa.free t
        go_wp2_with fail
        go_roundw
        case rel=>
         refine ⟨t+1,qa,by omega,by go_num,(hbi.trans (hba.below w.heap.size hB1)).setCell (by simpa using hEw) _,⟨by rw[hwa.len,hwd.len],hwa.forest,fun j hj=>by rw[hwa.roots j (by rw[hwd.len];exact hj),hwd.roots j hj],?_⟩,?_,?_⟩
         ·exact hwa.row.grown (grownBy_setCell _ _ _ _) (by simp;omega)
         ·exact (World.cell?_of_block (heap_setCell_other _ _ _ _ (by simp;omega))).trans hPa
         ·rw[←partRow_set hlt];exact hREa.set t _
        case measure=>simp[intOf];omega
       ·have ht':t=a.length:=by omega
        subst ht'
        rw[partRow_full]at hRE
        have hI:=hRE.ints (by unfold maxLen;simp;omega) (by
         intro x hx
         obtain ⟨i,hi,rfl⟩:=mem_keys.1 hx
         have:=(root_spec hF i (by rw[HQL.out];exact hi)).2
         exact WF.small (by omega))
        rw[length_keys]at hI
        have hlk:(keys (fun i=>(root qs i:Int)) a.length).length≤65536:=by simp;omega
        have HC:=Lib.hid (labelsInt_calls hI hlk)
        clear hI hlk
        have HJ:=Lib.hid (show labs (keys (fun i=>(root qs i:Int)) a.length)=joinS a b from joinS_of (by simp) (fun i j hi hj=>by
         rw[←HG.out i j hi hj]
         have e:∀k,k<a.length→nth (keys (fun i=>(root qs i:Int)) a.length) k=(root qs k:Int):=fun k hk=>by
          rw[nth_eq (by simpa using hk)];simp[keys]
         rw[e i hi,e j hj];omega))
        have hBi:=hbi.size
        go_wp2_with fail
        refine HC.out.mono ?_
        rintro _ wz ⟨vz,rfl,hbz,hvz⟩
        rw[HJ.out]at hvz
        go_wp2
        go_ret2
        exact .mk (ext_trans hbi hbz) (.mk (hvz.mono (by intro b hb';omega)) (by simp[joinR,H1.out]))
 ·have e1:(bothS a b !=0)=true:=by simp[h1]
  go_wp2_with fail
  go_ret2
  exact .mk hb1 (.nil _ _ rfl (by simp[joinR,h1]))
end Go.Proofs.YtaijafjfafbcfaaGreat
namespace Go.Proofs.YtaijafjfafbcfaaGreat
open Go.RowKit
end Go.Proofs.YtaijafjfafbcfaaGreat
namespace Go.Proofs.YtaijafjfafbcfaaGreat
open Go.RowKit
def Bears (a b os:List Int):Prop:=∀i,i<a.length→∃x:Nat,nth os i=(x:Int)∧x≤i∧Gen a b i x
theorem Bears.id (a b:List Int):Bears a b (idList a.length):=fun i hi=>⟨i,nth_idList hi,Nat.le_refl _,.base hi hi (.inl rfl)⟩
end Go.Proofs.YtaijafjfafbcfaaGreat
namespace Go.Proofs.YtaijafjfafbcfaaGreat
open Go.RowKit
end Go.Proofs.YtaijafjfafbcfaaGreat
