/- Part of the proof that the laws answer true for every input. -/
import Derived.Test.YtjpakklplhabdaaGreatPGaA19
set_option linter.unusedSimpArgs false
set_option linter.unnecessarySimpa false
set_option linter.unusedVariables false
set_option maxRecDepth 100000
set_option maxHeartbeats 40000000
namespace Go.Proofs.YtjpakklplhabdaaGreat
open Go.RowKit
attribute [local go_sem ↓] Go.wp_at_zero Go.wp_at_succ
theorem xd {S:Nat→Prop} {w:World} {v:Value} {l:List (List Int)} (h:Lists S w v l) (hn:l.length≤1000000) (hr:∀r∈l,r.length≤1000000):
  Calls Tryz.prog 60 #[v] w (Post w fun w' r=>Lists (fun b=>w.heap.size≤b) w' r l):=by
 obtain ⟨a,cap,rfl,ad,lo,lm⟩:=h.form
 unfold maxLen at lm
 obtain ⟨i0,hi,hz0,hz1,hz2⟩:=info_parts zF
 have Q:=zhd (zz Tryz.underlying47 hi hz1 ad)
 have HL:=zhd h
 have HR:=zhd hr
 have HAD:=zhd ad
 have HO0:=zhd (OwnList.nil 30 w.heap.size w)
 have KC:=zhd fun (W:World) (u:Value) (r:List Int) (hu:Ints S W u r) (hr:r.length≤1000000)=>xW hu hr
 clear h hr ad hi hz0 hz1 hz2
 go_enter Tryz.func60,Tryz.ntmps60
 go_wp2
 go_loopw [3,5,8] (fun o _ i wr=>∃(k:Nat) (vs:List Value),k≤l.length∧i=.int .i64 k∧Below w.heap.size w wr∧∃oa oc,o=.slice oa k oc∧Hid (OwnList 30 w.heap.size wr (.slice oa k oc) vs (l.take k))) (fun _ _ i _=>l.length - (intOf i).toNat)
 case atStart=>exact ⟨0,[],Nat.zero_le _,rfl,.refl _ _,none,0,rfl,HO0⟩
 case round=>
  obtain ⟨k,vs,hk,rfl,hb,oa,oc,rfl,HO⟩:=hrel
  by_cases hlt:k<l.length
  case neg=>
   obtain rfl:k=l.length:=by omega
   rw[List.take_length]at HO
   have hbb:=hb
   go_wp2
   go_ret
   exact .mk hbb HO.out.lists
  have q:=Q.out k hlt
  obtain ⟨u,cu,hu⟩:=(show∃u,wr.cell? (adr a k)=some u∧Ints S wr u (nthL l k) from by
   obtain ⟨a',cap',e,_,_,_,hc⟩:=HL.out.ext hb
   injection e with e1 e2 e3
   subst e1
   exact hc k hlt)
  have hbk:=World.block_lt_of_cell? _ _ cu
  have KX:=zhd (KC.out wr u (nthL l k) hu (HR.out _ (yl hlt)))
  have HT:=zhd (yP hlt)
  have htl:(l.take k).length=k:=by rw[List.length_take];omega
  obtain ⟨x,hx⟩:∃x,x=nthL l k:=⟨_,rfl⟩
  rw[←hx]at KX HT
  have HWF:=zhd (show∀y∈x,WF y from by rw[hx];exact hu.wf)
  obtain ⟨ua,uc,rfl,_⟩:=hu.form
  have hol:=HO.out.row.lt
  have hbw:=hb.size
  clear hu hx
  go_wp2_with fail
  refine KX.out.mono ?_
  rintro _ w2 ⟨cv,rfl,hb2,hcv⟩
  have hc1:=Ints.of_own hcv HWF.out
  obtain ⟨ca,cc,rfl,_⟩:=hc1.form
  have HOI:=zhd (hc1.mono (S':=fun b=>w.heap.size≤b∧(Value.slice oa k oc).ownBlock≠some b) fun b hb=>⟨by omega,fun e=>by have:=(hol b e).2;omega⟩)
  have HO2:=zhd (HO.out.ext hb2)
  have HROW:=zhd (show w2.ownsRow w.heap.size 30 1 (.slice oa k oc) k vs from by have:=HO2.out.row;rwa [htl]at this)
  have hs2:=hb2.size
  clear hc1 hcv q cu
  go_wp2_with (at_builtin;refine yc rfl (.tmp 12) (.tmp 15) 47 rfl 30 _ 24 Tryz.underlying47 zF rfl w.heap.size (.slice oa k oc) k vs rfl HROW.out (.slice ca x.length cc) rfl rfl (by omega) (by omega) (by omega) ?_;intro g' c' w3 ho hb3 hag hg3)
  have HO3:=zhd (HO2.out.push (u:=.slice ca x.length cc) (l:=x) (by rw[htl];exact ho) hag (fun q hq=>by have e:g'=q:=(by simpa[Value.ownBlock] using hq);rw[←e];exact hg3) HOI.out)
  rw[←HT.out]at HO3
  have hb9:=(za hb hb2).trans hb3
  clear ho hag hg3 HO HO2 HROW HOI hb2 hb3
  go_wp2
  go_roundw
  case rel=>exact ⟨k+1,_,by omega,by go_num,hb9,_,_,rfl,HO3⟩
  case measure=>simp[intOf];omega
theorem Zi {xs:List Value} {i j q z:Nat} {u:Value} (hq:q<z) (hij:i≠j):zzpart (xs.set (i * z+q) u) j z=zzpart xs j z:=by
 apply List.ext_getElem?
 intro r
 by_cases hr:r<z
 ·rw[yf hr,yf hr,List.getElem?_set_ne]
  intro e
  rcases Nat.lt_trichotomy i j with h | h | h
  ·have:(i+1) * z≤j * z:=Nat.mul_le_mul_right _ h
   rw[Nat.add_mul,Nat.one_mul]at this
   omega
  ·exact hij h
  ·have:(j+1) * z≤i * z:=Nat.mul_le_mul_right _ h
   rw[Nat.add_mul,Nat.one_mul]at this
   omega
 ·unfold zzpart
  rw[List.getElem?_take,List.getElem?_take,if_neg hr,if_neg hr]
theorem zcw {w:World} {base g n c z m:Nat} {e:TypeId} {xs:List Value} (h:w.ownsRow base e z (.slice (some ⟨g,0,none⟩) n c) m xs):n=m:=by
 rcases h.2 with ⟨e0,_⟩ | ⟨g',cap,cur,e0,_⟩
 ·cases e0
 ·injection e0
theorem OwnK.set3 {e:TypeId} {base:Nat} {S:Nat→Prop} {w:World} {g n c:Nat} {l:List CaseD} {u1 u2 u3:Value} (h:OwnK kCase e base S w (.slice (some ⟨g,0,none⟩) n c) l) {i:Nat} (hi:i<l.length)
  (hy:kCase.rd (fun b=>S b∧(Value.slice (some ⟨g,0,none⟩) n c).ownBlock≠some b) w [u1,u2,u3] l[i]):
  OwnK kCase e base S (((w.setCell ⟨g,i * 3,none⟩ u1).setCell ⟨g,i * 3+1,none⟩ u2).setCell ⟨g,i * 3+2,none⟩ u3) (.slice (some ⟨g,0,none⟩) n c) l:=by
 obtain ⟨xs,ho,hr⟩:=h
 obtain rfl:=zcw ho
 have h1:=ho.stored (i * 3) u1
 have h2:=h1.1.stored (i * 3+1) u2
 have h3:=h2.1.stored (i * 3+2) u3
 have hag:∀(A B:World) (T:Nat→Prop),A.grownBy B (some g)→(∀b,T b→b≠g)→Agree T A B:=fun A B T hg hT=>.of_grown hg fun b hb e=>hT b hb (by cases e;rfl)
 have hT:∀b,(S b∧(Value.slice (some ⟨g,0,none⟩) l.length c).ownBlock≠some b)→b≠g:=fun b hb e=>hb.2 (by rw[e];rfl)
 have A3:Agree (fun b=>S b∧(Value.slice (some ⟨g,0,none⟩) l.length c).ownBlock≠some b) w (((w.setCell ⟨g,i * 3,none⟩ u1).setCell ⟨g,i * 3+1,none⟩ u2).setCell ⟨g,i * 3+2,none⟩ u3):=((hag _ _ _ h1.2 hT).trans (hag _ _ _ h2.2 hT)).trans (hag _ _ _ h3.2 hT)
 have hlx:xs.length=l.length * 3:=ho.1
 refine ⟨((xs.set (i * 3) u1).set (i * 3+1) u2).set (i * 3+2) u3,h3.1,fun j hj=>?_⟩
 have sz:kCase.size=3:=rfl
 by_cases e:i=j
 ·subst e
  have hp:zzpart (((xs.set (i * 3) u1).set (i * 3+1) u2).set (i * 3+2) u3) i 3=[u1,u2,u3]:=by
   apply List.ext_getElem?
   intro r
   by_cases hr:r<3
   ·rw[yf hr]
    have:r=0∨r=1∨r=2:=by omega
    rcases this with rfl | rfl | rfl
    ·rw[List.getElem?_set_ne (by omega),List.getElem?_set_ne (by omega),Nat.add_zero,List.getElem?_set_self (by omega)];rfl
    ·rw[List.getElem?_set_ne (by omega),List.getElem?_set_self (by simp;omega)];rfl
    ·rw[List.getElem?_set_self (by simp;omega)];rfl
   ·unfold zzpart
    rw[List.getElem?_take,if_neg hr,List.getElem?_eq_none (by simp;omega)]
  rw[sz,hp]
  exact Kd.agree _ hy A3
 ·rw[sz,Zi (q:=2) (by omega) e,Zi (q:=1) (by omega) e,show i * 3=i * 3+0 from rfl,Zi (q:=0) (by omega) e]
  have:=hr j hj
  rw[sz]at this
  exact Kd.agree _ this A3
theorem OwnK.set1 {e:TypeId} {base:Nat} {S:Nat→Prop} {w:World} {g n c:Nat} {st:Moves} {u:Value} (h:OwnK (kSl (kFlat 8)) e base S w (.slice (some ⟨g,0,none⟩) n c) st) {i:Nat} (hi:i<st.length)
  (hy:(kSl (kFlat 8)).rd (fun b=>S b∧(Value.slice (some ⟨g,0,none⟩) n c).ownBlock≠some b) w [u] st[i]):
  OwnK (kSl (kFlat 8)) e base S (w.setCell ⟨g,i,none⟩ u) (.slice (some ⟨g,0,none⟩) n c) st:=by
 obtain ⟨xs,ho,hr⟩:=h
 obtain rfl:=zcw ho
 have h1:=ho.stored i u
 have A3:Agree (fun b=>S b∧(Value.slice (some ⟨g,0,none⟩) st.length c).ownBlock≠some b) w (w.setCell ⟨g,i,none⟩ u):=.of_grown h1.2 fun b hb e=>by cases e;exact hb.2 rfl
 have hlx:xs.length=st.length * 1:=ho.1
 refine ⟨xs.set i u,h1.1,fun j hj=>?_⟩
 have sz:(kSl (kFlat 8)).size=1:=rfl
 by_cases e:i=j
 ·subst e
  have hp:zzpart (xs.set i u) i 1=[u]:=by
   apply List.ext_getElem?
   intro r
   by_cases hr:r<1
   ·obtain rfl:r=0:=by omega
    rw[yf hr,Nat.mul_one,Nat.add_zero,List.getElem?_set_self (by omega)];rfl
   ·unfold zzpart
    rw[List.getElem?_take,if_neg hr,List.getElem?_eq_none (by simp;omega)]
  rw[sz,hp]
  exact Kd.agree _ hy A3
 ·have hp2:zzpart (xs.set i u) j 1=zzpart xs j 1:=by have:=Zi (xs:=xs) (u:=u) (q:=0) (z:=1) (by omega) e;simpa using this
  rw[sz,hp2]
  have:=hr j hj
  rw[sz]at this
  exact Kd.agree _ this A3
def sets (g:Nat) (us:List (Nat×Value)) (w:World):World:=us.foldl (fun w u=>w.setCell ⟨g,u.1,none⟩ u.2) w
theorem zQ (g:Nat):∀(us:List (Nat×Value)) (w:World),Agree (fun b=>b≠g) w (sets g us w)
 | [],w=>.refl _ _
 | u::us,w=>(Agree.of_grown (zj w g u.1 u.2) fun b hb e=>hb (by cases e;rfl)).trans (zQ g us _)
theorem zD {w0:World} {B g:Nat} (hg:B≤g):∀(us:List (Nat×Value)) (w:World),Below B w0 w→Below B w0 (sets g us w)
 | [],w,h=>h
 | u::us,w,h=>zD hg us _ (h.setCell (by simpa using hg) _)
theorem Row.sets {g:Nat} {e:TypeId}:∀(us:List (Nat×Value)) {w:World} {xs:List Value},Row w g e xs→Row (sets g us w) g e (us.foldl (fun xs u=>xs.set u.1 u.2) xs)
 | [],_,_,h=>h
 | u::us,_,_,h=>Row.sets us (h.set u.1 u.2)
theorem OwnK.flat8 {z:Nat} {e:TypeId} {base:Nat} {S S':Nat→Prop} {w:World} {v:Value} {l:List (List Int)} (h:OwnK (kFlat z) e base S w v l):OwnK (kFlat z) e base S' w v l:=by
 obtain ⟨xs,ho,hr⟩:=h
 exact ⟨xs,ho,fun j hj=>hr j hj⟩
theorem OwnK.low {α:Type} {K:Kd α} {e:TypeId} {base base':Nat} {S:Nat→Prop} {w:World} {v:Value} {l:List α} (h:OwnK K e base S w v l) (hb:base'≤base):OwnK K e base' S w v l:=by
 obtain ⟨xs,ho,hr⟩:=h
 refine ⟨xs,⟨ho.1,?_⟩,hr⟩
 rcases ho.2 with hn | ⟨g,cap,cur,rfl,h1,h2,r⟩
 ·exact .inl hn
 ·exact .inr ⟨g,cap,cur,rfl,Nat.le_trans hb h1,h2,r⟩
theorem OwnK.at {α:Type} {K:Kd α} {e:TypeId} {base:Nat} {S:Nat→Prop} {w:World} {g n c:Nat} {l:List α} (h:OwnK K e base S w (.slice (some ⟨g,0,none⟩) n c) l) {j:Nat} (hj:j<l.length):
  ∃cs:List Value,(∀i,i<K.size→w.cell? ⟨g,j * K.size+i,none⟩=cs[i]?)∧K.rd (fun b=>S b∧(Value.slice (some ⟨g,0,none⟩) n c).ownBlock≠some b) w cs l[j]∧cs.length=K.size∧∀q,w.frozen? ⟨g,q,none⟩=false:=by
 obtain ⟨xs,ho,hr⟩:=h
 have hlx:xs.length=l.length * K.size:=ho.1
 obtain rfl:=zcw ho
 refine ⟨zzpart xs j K.size,fun i hi=>?_,hr j hj,K.len (hr j hj),fun q=>ho.frozenAt q⟩
 have hlt:j * K.size+i<l.length * K.size:=by
  have:(j+1) * K.size≤l.length * K.size:=Nat.mul_le_mul_right _ hj
  rw[Nat.add_mul,Nat.one_mul]at this
  omega
 rw[yf hi,ho.cellAt _ hlt]
structure CopyOK (p:ProbD):Prop where
 c:p.cs.length≤1000000
 i:∀k,k<p.cs.length→(nthC p.cs k).inn.length≤1000000∧(nthC p.cs k).out.length≤1000000∧(nthC p.cs k).calm.length≤1000000∧(∀r∈(nthC p.cs k).out,r.length≤1000000)∧∀r∈(nthC p.cs k).calm,r.length≤1000000
 s:p.st.length≤1000000
 m:∀k,k<p.st.length→(nthM p.st k).length≤1000000
theorem Qp {S:Nat→Prop} {w:World} {vc vs:Value} {p:ProbD} (hc:Sl kCase S w vc p.cs) (hs:Sl (kSl (kFlat 8)) S w vs p.st) (hok:CopyOK p):
  Calls Tryz.prog 30 #[.agg #[.int .i64 p.n,.int .i64 p.ins,.int .i64 p.outs,vc,.int .i64 p.an,vs,.int .i64 p.rounds]] w (Post w fun w' r=>∃vc' vs',r=.agg #[.int .i64 p.n,.int .i64 p.ins,.int .i64 p.outs,vc',.int .i64 p.an,vs',.int .i64 p.rounds]∧Sl kCase (fun b=>(S b∧b<w.heap.size)∨w.heap.size≤b) w' vc' p.cs∧Sl (kSl (kFlat 8)) (fun b=>(S b∧b<w.heap.size)∨w.heap.size≤b) w' vs' p.st):=by
 obtain ⟨ca,cc,rfl,_⟩:=hc.form
 obtain ⟨sa,sc,rfl,_⟩:=hs.form
 have ex:Below w.heap.size w ((w.alloc (.cells #[.int .i64 p.n,.int .i64 p.ins,.int .i64 p.outs,.slice ca p.cs.length cc,.int .i64 p.an,.slice sa p.st.length sc,.int .i64 p.rounds] 29)).alloc (.cells #[.int .i64 0,.int .i64 0,.int .i64 0,.slice none 0 0,.int .i64 0,.slice none 0 0,.int .i64 0] 29)):=zg (zb w _) _
 have R:Row ((w.alloc (.cells #[.int .i64 p.n,.int .i64 p.ins,.int .i64 p.outs,.slice ca p.cs.length cc,.int .i64 p.an,.slice sa p.st.length sc,.int .i64 p.rounds] 29)).alloc (.cells #[.int .i64 0,.int .i64 0,.int .i64 0,.slice none 0 0,.int .i64 0,.slice none 0 0,.int .i64 0] 29)) w.heap.size 29 [.int .i64 p.n,.int .i64 p.ins,.int .i64 p.outs,.slice ca p.cs.length cc,.int .i64 p.an,.slice sa p.st.length sc,.int .i64 p.rounds]:=(ze w [_,_,_,_,_,_,_] _).alloc _
 have R2:Row ((w.alloc (.cells #[.int .i64 p.n,.int .i64 p.ins,.int .i64 p.outs,.slice ca p.cs.length cc,.int .i64 p.an,.slice sa p.st.length sc,.int .i64 p.rounds] 29)).alloc (.cells #[.int .i64 0,.int .i64 0,.int .i64 0,.slice none 0 0,.int .i64 0,.slice none 0 0,.int .i64 0] 29)) (w.heap.size+1) 29 [.int .i64 0,.int .i64 0,.int .i64 0,.slice none 0 0,.int .i64 0,.slice none 0 0,.int .i64 0]:=by
  have:=ze (w.alloc (.cells #[.int .i64 p.n,.int .i64 p.ins,.int .i64 p.outs,.slice ca p.cs.length cc,.int .i64 p.an,.slice sa p.st.length sc,.int .i64 p.rounds] 29)) [.int .i64 0,.int .i64 0,.int .i64 0,.slice none 0 0,.int .i64 0,.slice none 0 0,.int .i64 0] 29
  rwa [World.size_alloc]at this
 have K1:=zhd (XB (hc.block.ext ex) hok.c)
 have HOK:=zhd hok
 have hCN:=hok.c
 have hSN:=hok.s
 have HS:=zhd hs
 clear hc hs hok
 go_enter Tryz.func30,Tryz.ntmps30
 go_wp2_with fail
 refine K1.out.mono ?_
 rintro _ w1 ⟨nv,rfl,hb1,hn⟩
 obtain ⟨na,nc,rfl,hna,_⟩:=hn.form
 replace R:=R.ext hb1
 replace R2:=R2.ext hb1
 replace ex:=za ex hb1
 have c3:=R.zc 3 rfl
 have f3:=R.free 3
 have l3:=R.lt
 go_wp2
 have HN:Hid (OwnK kCase 62 (w.heap.size+2) (fun b=>(S b∧b<w.heap.size)∨w.heap.size+2≤b) w1 (.slice na p.cs.length nc) p.cs):=zhd (by
  have:=hn.mono (S':=(fun b=>(S b∧b<w.heap.size)∨w.heap.size+2≤b)) fun b hb=>.inl hb.1
  simpa using this)
 have FRM:Hid (∀W W',W'=(W.setCell ⟨w.heap.size,3,none⟩ (.slice na p.cs.length nc))→Below w.heap.size w W→Row W w.heap.size 29 [.int .i64 p.n,.int .i64 p.ins,.int .i64 p.outs,.slice ca p.cs.length cc,.int .i64 p.an,.slice sa p.st.length sc,.int .i64 p.rounds]→Row W (w.heap.size+1) 29 [.int .i64 0,.int .i64 0,.int .i64 0,.slice none 0 0,.int .i64 0,.slice none 0 0,.int .i64 0]→OwnK kCase 62 (w.heap.size+2) (fun b=>(S b∧b<w.heap.size)∨w.heap.size+2≤b) W (.slice na p.cs.length nc) p.cs→
   Below w.heap.size w W'∧Row W' w.heap.size 29 [.int .i64 p.n,.int .i64 p.ins,.int .i64 p.outs,.slice na p.cs.length nc,.int .i64 p.an,.slice sa p.st.length sc,.int .i64 p.rounds]∧Row W' (w.heap.size+1) 29 [.int .i64 0,.int .i64 0,.int .i64 0,.slice none 0 0,.int .i64 0,.slice none 0 0,.int .i64 0]∧OwnK kCase 62 (w.heap.size+2) (fun b=>(S b∧b<w.heap.size)∨w.heap.size+2≤b) W' (.slice na p.cs.length nc) p.cs):=zhd fun W W' hW h1 h2 h3 h4=>by
  subst hW
  have hgr:=zj W w.heap.size 3 (.slice na p.cs.length nc)
  refine ⟨h1.setCell (by simp) _,h2.set 3 _,h3.grown hgr (by simp),h4.agree (T:=fun b=>b≠w.heap.size) (.of_grown hgr fun b hb e=>hb (by cases e;rfl)) (fun q hq=>by have:=(h4.lt q hq).1;omega) fun b hb=>by rcases hb with h | h<;>omega⟩
 clear hn K1 hb1
 go_wp2
 obtain ⟨wx,hwx⟩:∃wx,wx=w1.setCell ⟨w.heap.size,3,none⟩ (.slice na p.cs.length nc):=⟨_,rfl⟩
 obtain ⟨ex2,R3,R4,HN2⟩:=FRM.out w1 wx hwx ex R R2 HN.out
 have HN2:=zhd HN2
 rw[←hwx]
 clear hwx ex R R2 HN FRM c3 f3 l3
 go_loopw [3,4,17] (fun _ _ i wr=>∃k:Nat,k≤p.cs.length∧i=.int .i64 k∧Below w.heap.size w wr∧Row wr w.heap.size 29 [.int .i64 p.n,.int .i64 p.ins,.int .i64 p.outs,.slice na p.cs.length nc,.int .i64 p.an,.slice sa p.st.length sc,.int .i64 p.rounds]∧Row wr (w.heap.size+1) 29 [.int .i64 0,.int .i64 0,.int .i64 0,.slice none 0 0,.int .i64 0,.slice none 0 0,.int .i64 0]∧Hid (OwnK kCase 62 (w.heap.size+2) (fun b=>(S b∧b<w.heap.size)∨w.heap.size+2≤b) wr (.slice na p.cs.length nc) p.cs)) (fun _ _ i _=>p.cs.length - (intOf i).toNat)
 case atStart=>exact ⟨0,Nat.zero_le _,rfl,ex2,R3,R4,HN2⟩
 case round=>
  clear ex2 R3 R4 HN2
  obtain ⟨k,hk,rfl,hb,R,R2,HN⟩:=hrel
  by_cases hlt:k<p.cs.length
  case pos=>
   obtain ⟨g,rfl⟩:=hna (by omega)
   obtain ⟨cs,hcs,hrd,hcl,hfr⟩:=HN.out.at hlt
   have sz:kCase.size=3:=rfl
   rw[sz]at hcs hcl
   obtain ⟨v1,v2,v3,rfl,i1,i2,i3⟩:=hrd
   have z0:=hcs 0 (by omega)
   have z1:=hcs 1 (by omega)
   have z2:=hcs 2 (by omega)
   rw[Nat.add_zero]at z0
   simp only[List.getElem?_cons_zero,List.getElem?_cons_succ]at z0 z1 z2
   obtain ⟨o1,o2,o3,o4,o5⟩:=HOK.out.i k hlt
   rw[Qd hlt]at o1 o2 o3 o4 o5
   obtain ⟨c,hc⟩:∃c,c=p.cs[k]:=⟨_,rfl⟩
   rw[←hc]at i1 i2 i3 o1 o2 o3 o4 o5
   have HC:=zhd hc
   obtain ⟨a1,c1,rfl,_⟩:=i1.form
   obtain ⟨a2,c2,rfl,_⟩:=i2.form
   obtain ⟨a3,c3,rfl,_⟩:=i3.form
   have hgl:g<wr.heap.size:=(HN.out.lt g rfl).2
   have hgb:w.heap.size+2≤g:=(HN.out.lt g rfl).1
   obtain ⟨ic,hic,hic1⟩:=zL (T:=62) (z:=3) (by kernel_rfl)
   have q:∀W':World,(Instr.indexAt 22 (.slice (some ⟨g,0,none⟩) p.cs.length nc) (.int .i64 k)).run Tryz.prog W'=.ok (.pointer (some ⟨g,k * 3,none⟩)) W':=fun W'=>by
    have:=zJ (P:=Tryz.prog) (S:=fun _=>True) (w:=wr) Tryz.underlying22 hic hic1 (a:=some ⟨g,0,none⟩) (n:=p.cs.length) (cap:=nc) (.inr ⟨g,0,rfl,hgl,trivial⟩) k hlt W'
    rw[zZ,Nat.zero_add]at this
    exact this
   have KI:=zhd fun W (hW:Below wr.heap.size wr W)=>xW (i1.ext hW) o1
   have KV2:=zhd fun W (hW:Below wr.heap.size wr W)=>xd (i2.ext hW) o2 o4
   have KV3:=zhd fun W (hW:Below wr.heap.size wr W)=>xd (i3.ext hW) o3 o5
   have exa:=zb wr (.cells #[.slice a1 c.inn.length c1,.slice a2 c.out.length c2,.slice a3 c.calm.length c3] 62)
   have RK:=ze wr [.slice a1 c.inn.length c1,.slice a2 c.out.length c2,.slice a3 c.calm.length c3] 62
   have t3:=(R.ext exa).zc 3 rfl
   have hbl:=R.lt
   have HWF:=zhd i1.wf
   have FR:Hid (∀W',Below wr.heap.size wr W'→W'.cell? ⟨g,k * 3,none⟩=some (.slice a1 c.inn.length c1)∧W'.cell? ⟨g,k * 3+1,none⟩=some (.slice a2 c.out.length c2)∧W'.cell? ⟨g,k * 3+2,none⟩=some (.slice a3 c.calm.length c3)∧W'.frozen? ⟨g,k * 3,none⟩=false∧W'.frozen? ⟨g,k * 3+1,none⟩=false∧W'.frozen? ⟨g,k * 3+2,none⟩=false∧g<W'.heap.size):=zhd fun W' hW=>by
    obtain ⟨_,_,_,_,hfr'⟩:=(HN.out.ext hW).at hlt
    exact ⟨zm z0 hW,zm z1 hW,zm z2 hW,hfr' _,hfr' _,hfr' _,Nat.lt_of_lt_of_le hgl hW.size⟩
   have KEEP:Hid (∀W',Below (wr.alloc (.cells #[.slice a1 c.inn.length c1,.slice a2 c.out.length c2,.slice a3 c.calm.length c3] 62)).heap.size (wr.alloc (.cells #[.slice a1 c.inn.length c1,.slice a2 c.out.length c2,.slice a3 c.calm.length c3] 62)) W'→W'.cell? ⟨w.heap.size,3,none⟩=some (.slice (some ⟨g,0,none⟩) p.cs.length nc)∧W'.cell? ⟨wr.heap.size,0,none⟩=some (.slice a1 c.inn.length c1)∧W'.cell? ⟨wr.heap.size,1,none⟩=some (.slice a2 c.out.length c2)∧W'.cell? ⟨wr.heap.size,2,none⟩=some (.slice a3 c.calm.length c3)):=zhd fun W' hW=>⟨((R.ext exa).ext hW).zc 3 rfl,(RK.ext hW).zc 0 rfl,(RK.ext hW).zc 1 rfl,(RK.ext hW).zc 2 rfl⟩
   have FIN:Hid (∀w4 b1 d1 b2 d2 b3 d3,Below (wr.alloc (.cells #[.slice a1 c.inn.length c1,.slice a2 c.out.length c2,.slice a3 c.calm.length c3] 62)).heap.size (wr.alloc (.cells #[.slice a1 c.inn.length c1,.slice a2 c.out.length c2,.slice a3 c.calm.length c3] 62)) w4→Ints (fun b=>wr.heap.size≤b) w4 (.slice b1 c.inn.length d1) c.inn→Lists (fun b=>wr.heap.size≤b) w4 (.slice b2 c.out.length d2) c.out→Lists (fun b=>wr.heap.size≤b) w4 (.slice b3 c.calm.length d3) c.calm→
     ∀W',W'=((w4.setCell ⟨g,k * 3,none⟩ (.slice b1 c.inn.length d1)).setCell ⟨g,k * 3+1,none⟩ (.slice b2 c.out.length d2)).setCell ⟨g,k * 3+2,none⟩ (.slice b3 c.calm.length d3)→Below w.heap.size w W'∧Row W' w.heap.size 29 [.int .i64 p.n,.int .i64 p.ins,.int .i64 p.outs,.slice (some ⟨g,0,none⟩) p.cs.length nc,.int .i64 p.an,.slice sa p.st.length sc,.int .i64 p.rounds]∧Row W' (w.heap.size+1) 29 [.int .i64 0,.int .i64 0,.int .i64 0,.slice none 0 0,.int .i64 0,.slice none 0 0,.int .i64 0]∧OwnK kCase 62 (w.heap.size+2) (fun b=>(S b∧b<w.heap.size)∨w.heap.size+2≤b) W' (.slice (some ⟨g,0,none⟩) p.cs.length nc) p.cs):=zhd fun w4 b1 d1 b2 d2 b3 d3 hy h1 h2 h3 W' hW=>by
    subst hW
    have hyy:=za exa hy
    have g1:∀(W:World) (j:Nat) (u:Value),Agree (fun b=>b<w.heap.size+2) W (W.setCell ⟨g,j,none⟩ u):=fun W j u=>.of_grown (zj W g j u) fun b hb e=>by cases e;omega
    have hA:=(((Agree.of_ext hyy).mono (S':=fun b=>b<w.heap.size+2) fun _ _=>trivial).trans (g1 w4 (k * 3) (.slice b1 c.inn.length d1))).trans ((g1 _ (k * 3+1) (.slice b2 c.out.length d2)).trans (g1 _ (k * 3+2) (.slice b3 c.calm.length d3)))
    have tr:∀b,wr.heap.size≤b→((S b∧b<w.heap.size)∨w.heap.size+2≤b)∧(Value.slice (some ⟨g,0,none⟩) p.cs.length nc).ownBlock≠some b:=fun b hb=>⟨.inr (by omega),by simp[Value.ownBlock];omega⟩
    refine ⟨(((hb.trans (hyy.mono hb.size)).setCell (by simp;omega) _).setCell (by simp;omega) _).setCell (by simp;omega) _,R.agree hA (by omega),R2.agree hA (by omega),(HN.out.ext hyy).set3 hlt ⟨_,_,_,rfl,?_,?_,?_⟩⟩
    ·rw[←HC.out];exact h1.mono tr
    ·rw[←HC.out];exact h2.mono tr
    ·rw[←HC.out];exact h3.mono tr
   clear hcs hcl hfr hc i1 i2 i3 hic hic1 o1 o2 o3 o4 o5 sz
   go_wp2
   refine zH (fun w':World=>w'.cell? ⟨w.heap.size,3,none⟩=some (.slice (some ⟨g,0,none⟩) p.cs.length nc)∧w'.cell? ⟨wr.heap.size,0,none⟩=some (.slice a1 c.inn.length c1)∧w'.cell? ⟨wr.heap.size,1,none⟩=some (.slice a2 c.out.length c2)∧w'.cell? ⟨wr.heap.size,2,none⟩=some (.slice a3 c.calm.length c3)) (fun i=>i==15) (by kernel_rfl) ?_ (fun hHeld=>?_)
   ·exact KEEP.out _ (zh _ _ 1)
   refine anyE_take 0 (v:=?_) rfl (by kernel_rfl) (fun _ _ _ h=>h) (by rfl) ?hy0 hHeld ?r0
   case hy0=>(intro w hSw;(try dsimp only at hSw);go_simp;try with_reducible rfl)
   try simp only[Act.put,zsa,zsz,zss]
   refine anyE_take 1 (v:=?_) rfl (by kernel_rfl) (fun _ _ _ h=>h) (by rfl) ?hy1 hHeld ?r1
   case hy1=>(intro w hSw;(try dsimp only at hSw);go_simp;try with_reducible rfl)
   try simp only[Act.put,zsa,zsz,zss]
   refine anyE_take 2 (v:=?_) rfl (by kernel_rfl) (fun _ _ _ h=>h) (by rfl) ?hy2 hHeld ?r2
   case hy2=>(intro w hSw;(try dsimp only at hSw);go_simp;try with_reducible rfl)
   try simp only[Act.put,zsa,zsz,zss]
   refine anyE_take 3 (v:=?_) rfl (by kernel_rfl) (fun _ _ _ h=>h) (by rfl) ?hy3 hHeld ?r3
   case hy3=>(intro w hSw;(try dsimp only at hSw);go_simp;try with_reducible rfl)
   try simp only[Act.put,zsa,zsz,zss]
   refine anyE_take 4 (v:=?_) rfl (by kernel_rfl) (fun _ _ _ h=>h) (by rfl) ?hy4 hHeld ?r4
   case hy4=>(intro w hSw;(try dsimp only at hSw);go_simp;try with_reducible rfl)
   try simp only[Act.put,zsa,zsz,zss]
   refine anyE_take 5 (v:=?_) rfl (by kernel_rfl) (fun _ _ _ h=>h) (by rfl) ?hy5 hHeld ?r5
   case hy5=>(intro w hSw;(try dsimp only at hSw);go_simp;try with_reducible rfl)
   try simp only[Act.put,zsa,zsz,zss]
   refine anyE_take 7 (v:=?_) rfl (by kernel_rfl) (fun _ _ _ h=>h) (by rfl) ?hy7 hHeld ?r7
   case hy7=>(intro w hSw;(try dsimp only at hSw);go_simp;try with_reducible rfl)
   try simp only[Act.put,zsa,zsz,zss]
   refine anyE_take 8 (v:=?_) rfl (by kernel_rfl) (fun _ _ _ h=>h) (by rfl) ?hy8 hHeld ?r8
   case hy8=>(intro w hSw;(try dsimp only at hSw);go_simp;try with_reducible rfl)
   try simp only[Act.put,zsa,zsz,zss]
   refine anyE_take 10 (v:=?_) rfl (by kernel_rfl) (fun _ _ _ h=>h) (by rfl) ?hy10 hHeld ?r10
   case hy10=>(intro w hSw;(try dsimp only at hSw);go_simp;try with_reducible rfl)
   try simp only[Act.put,zsa,zsz,zss]
   refine anyE_take 11 (v:=?_) rfl (by kernel_rfl) (fun _ _ _ h=>h) (by rfl) ?hy11 hHeld ?r11
   case hy11=>(intro w hSw;(try dsimp only at hSw);go_simp;try with_reducible rfl)
   try simp only[Act.put,zsa,zsz,zss]
   refine anyE_one 6 rfl (by kernel_rfl) (fun K hK=>?_)
   go_simp;go_at_call 59;refine (KI.out _ (zx exa 1)).mono ?_;rintro _ w2 ⟨u1,rfl,hb2,h1⟩;have j1:=(Ints.of_own h1 HWF.out).mono (S':=fun b=>wr.heap.size≤b) (fun b hb=>Nat.le_trans exa.size hb);obtain ⟨b1,d1,rfl,_⟩:=j1.form;have y2:=za (zh _ _ 1) hb2
   refine hK.out _ _ (fun _=>KEEP.out _ y2) (fun hHeld=>?_);replace hHeld:=hHeld rfl
   clear hK K
   try simp only[Act.put,zsa,zsz,zss]
   refine anyE_one 9 rfl (by kernel_rfl) (fun K hK=>?_)
   go_simp;go_at_call 60;refine (KV2.out _ (za exa y2)).mono ?_;rintro _ w3 ⟨u2,rfl,hb3,h2⟩;obtain ⟨b2,d2,rfl,_⟩:=h2.form;have y3:=za y2 hb3
   refine hK.out _ _ (fun _=>KEEP.out _ y3) (fun hHeld=>?_);replace hHeld:=hHeld rfl
   clear hK K
   try simp only[Act.put,zsa,zsz,zss]
   refine anyE_one 12 rfl (by kernel_rfl) (fun K hK=>?_)
   go_simp;go_at_call 60;refine (KV3.out _ (za exa y3)).mono ?_;rintro _ w4 ⟨u3,rfl,hb4,h3⟩;obtain ⟨b3,d3,rfl,_⟩:=h3.form;have y4:=za y3 hb4;obtain ⟨e1,e2,e3,e4,e5,e6,e7⟩:=FR.out _ (za exa y4)
   refine hK.out _ _ (fun _=>KEEP.out _ y4) (fun hHeld=>?_);replace hHeld:=hHeld rfl
   clear hK K
   try simp only[Act.put,zsa,zsz,zss]
   refine anyE_take 13 (v:=?_) rfl (by kernel_rfl) (fun _ _ _ h=>h) (by rfl) ?hy13 hHeld ?r13
   case hy13=>(intro w hSw;(try dsimp only at hSw);go_simp;try with_reducible rfl)
   try simp only[Act.put,zsa,zsz,zss]
   refine anyE_take 14 (v:=?_) rfl (by kernel_rfl) (fun _ _ _ h=>h) (by rfl) ?hy14 hHeld ?r14
   case hy14=>(intro w hSw;(try dsimp only at hSw);go_simp;try with_reducible rfl)
   try simp only[Act.put,zsa,zsz,zss]
   refine anyE_one 15 rfl (by kernel_rfl) (fun K hK=>?_)
   go_simp
   refine hK.out _ _ (fun h=>by simp at h) (fun hHeld=>?_)
   clear hK K
   try simp only[Act.put,zsa,zsz,zss]
   refine zy (by kernel_rfl) ?_ _
   have FF:=zhd (FIN.out w4 _ _ _ _ _ _ y4 (j1.ext (za hb3 hb4)) (h2.mono (S':=fun b=>wr.heap.size≤b) (fun b hb=>Nat.le_trans (za exa y2).size hb) |>.ext hb4) (h3.mono fun b hb=>Nat.le_trans (za exa y3).size hb))
   clear hHeld KEEP FR FIN j1 h1 h2 h3 hb2 hb3 hb4 z0 z1 z2 t3
   go_wp2
   go_roundw
   case rel=>
    obtain ⟨r1,r2,r3,r4⟩:=FF.out _ rfl
    exact ⟨k+1,Nat.succ_le_of_lt hlt,by go_num,r1,r2,r3,zhd r4⟩
   case measure=>simp[intOf];omega
  obtain rfl:k=p.cs.length:=by omega
  have HCS:=zhd (HN.out.sl (by omega)).block
  have hN1:=R.lt
  have hN2:=R2.lt
  have K2:=zhd (XA (HS.out.block.ext hb) HOK.out.s)
  obtain ⟨N1,hN1'⟩:∃N1,N1=wr.heap.size:=⟨_,rfl⟩
  have c3:=R.zc 3 rfl
  have c5:=R.zc 5 rfl
  clear HN
  go_wp2_with fail
  refine K2.out.mono ?_
  rintro _ w5 ⟨mv,rfl,hb5,hm⟩
  obtain ⟨ma,mc,rfl,hma,_⟩:=hm.form
  rw[←hN1']at HCS hm hN1 hN2
  have hs5:=hb5.size
  rw[←hN1']at hs5
  replace R:=R.ext hb5
  replace R2:=R2.ext hb5
  have HCS:=zhd (HCS.out.ext hb5)
  replace hb:=za hb hb5
  have HM:Hid (OwnK (kSl (kFlat 8)) 70 N1 (fun b=>(S b∧b<w.heap.size)∨w.heap.size+2≤b) w5 (.slice ma p.st.length mc) p.st):=zhd (hm.mono fun b hb=>.inl hb.1)
  have c5':=R.zc 5 rfl
  have f5:=R.free 5
  have l5:=R.lt
  have FRM:Hid (∀W',W'=(w5.setCell ⟨w.heap.size,5,none⟩ (.slice ma p.st.length mc))→
   Below w.heap.size w W'∧Row W' w.heap.size 29 [.int .i64 p.n,.int .i64 p.ins,.int .i64 p.outs,.slice na p.cs.length nc,.int .i64 p.an,.slice ma p.st.length mc,.int .i64 p.rounds]∧Row W' (w.heap.size+1) 29 [.int .i64 0,.int .i64 0,.int .i64 0,.slice none 0 0,.int .i64 0,.slice none 0 0,.int .i64 0]∧Sl kCase (fun b=>(((S b∧b<w.heap.size)∨w.heap.size+2≤b)∨w.heap.size+2≤b)∧b<N1) W' (.slice na p.cs.length nc) p.cs∧OwnK (kSl (kFlat 8)) 70 N1 (fun b=>(S b∧b<w.heap.size)∨w.heap.size+2≤b) W' (.slice ma p.st.length mc) p.st):=zhd fun W' hW=>by
   subst hW
   have hgr:=zj w5 w.heap.size 5 (.slice ma p.st.length mc)
   have hA:Agree (fun b=>b≠w.heap.size) w5 (w5.setCell ⟨w.heap.size,5,none⟩ (.slice ma p.st.length mc)):=.of_grown hgr fun b hb e=>hb (by cases e;rfl)
   exact ⟨hb.setCell (by simp) _,R.set 5 _,R2.grown hgr (by simp),HCS.out.agree (hA.mono fun b hb=>by omega),HM.out.agree hA (fun q hq=>by have:=(HM.out.lt q hq).1;omega) fun b hb=>by rcases hb with h | h<;>omega⟩
  clear hm K2 c3 c5 hN1'
  go_wp2
  obtain ⟨wx,hwx⟩:∃wx,wx=w5.setCell ⟨w.heap.size,5,none⟩ (.slice ma p.st.length mc):=⟨_,rfl⟩
  obtain ⟨ex2,R3,R4,HC2,HM2⟩:=FRM.out wx hwx
  have HM2:=zhd HM2
  have HC2:=zhd HC2
  rw[←hwx]
  clear hwx hb R R2 HM HCS FRM c5' f5 l5 hb5
  go_loopw [5,6,48] (fun _ _ i wr=>∃k:Nat,k≤p.st.length∧i=.int .i64 k∧Below w.heap.size w wr∧Row wr w.heap.size 29 [.int .i64 p.n,.int .i64 p.ins,.int .i64 p.outs,.slice na p.cs.length nc,.int .i64 p.an,.slice ma p.st.length mc,.int .i64 p.rounds]∧Row wr (w.heap.size+1) 29 [.int .i64 0,.int .i64 0,.int .i64 0,.slice none 0 0,.int .i64 0,.slice none 0 0,.int .i64 0]∧Hid (Sl kCase (fun b=>(((S b∧b<w.heap.size)∨w.heap.size+2≤b)∨w.heap.size+2≤b)∧b<N1) wr (.slice na p.cs.length nc) p.cs)∧Hid (OwnK (kSl (kFlat 8)) 70 N1 (fun b=>(S b∧b<w.heap.size)∨w.heap.size+2≤b) wr (.slice ma p.st.length mc) p.st)) (fun _ _ i _=>p.st.length - (intOf i).toNat)
  case atStart=>exact ⟨0,Nat.zero_le _,rfl,ex2,R3,R4,HC2,HM2⟩
  case round=>
   clear ex2 R3 R4 HC2 HM2
   obtain ⟨k,hk,rfl,hb,R,R2,HCS,HM⟩:=hrel
   by_cases hlt:k<p.st.length
   case neg=>
    obtain rfl:k=p.st.length:=by omega
    have c0:=R.zc 0 rfl
    have c1:=R.zc 1 rfl
    have c2:=R.zc 2 rfl
    have c3:=R.zc 3 rfl
    have c4:=R.zc 4 rfl
    have c5:=R.zc 5 rfl
    have c6:=R.zc 6 rfl
    have d0:=R2.zc 0 rfl
    have f0:=R2.free 0
    have d1:=R2.zc 1 rfl
    have f1:=R2.free 1
    have d2:=R2.zc 2 rfl
    have f2:=R2.free 2
    have d3:=R2.zc 3 rfl
    have f3:=R2.free 3
    have d4:=R2.zc 4 rfl
    have f4:=R2.free 4
    have d5:=R2.zc 5 rfl
    have f5:=R2.free 5
    have d6:=R2.zc 6 rfl
    have f6:=R2.free 6
    have l2:=R2.lt
    have l1:=R.lt
    have HRZ:=zhd (R2.sets [(0,.int .i64 p.n),(1,.int .i64 p.ins),(2,.int .i64 p.outs),(3,.slice na p.cs.length nc),(4,.int .i64 p.an),(5,.slice ma p.st.length mc),(6,.int .i64 p.rounds)])
    have HAG:=zhd (zQ (w.heap.size+1) [(0,.int .i64 p.n),(1,.int .i64 p.ins),(2,.int .i64 p.outs),(3,.slice na p.cs.length nc),(4,.int .i64 p.an),(5,.slice ma p.st.length mc),(6,.int .i64 p.rounds)] wr)
    have HBZ:=zhd (zD (Nat.le_succ _) [(0,.int .i64 p.n),(1,.int .i64 p.ins),(2,.int .i64 p.outs),(3,.slice na p.cs.length nc),(4,.int .i64 p.an),(5,.slice ma p.st.length mc),(6,.int .i64 p.rounds)] wr hb)
    go_wp2
    obtain ⟨W7,hW7⟩:∃W7,W7=sets (w.heap.size+1) [(0,.int .i64 p.n),(1,.int .i64 p.ins),(2,.int .i64 p.outs),(3,.slice na p.cs.length nc),(4,.int .i64 p.an),(5,.slice ma p.st.length mc),(6,.int .i64 p.rounds)] wr:=⟨_,rfl⟩
    rw[←hW7]at HRZ HAG HBZ
    have q0:W7.cell? ⟨w.heap.size+1,0,none⟩=some _:=HRZ.out.zc 0 rfl
    have q1:W7.cell? ⟨w.heap.size+1,1,none⟩=some _:=HRZ.out.zc 1 rfl
    have q2:W7.cell? ⟨w.heap.size+1,2,none⟩=some _:=HRZ.out.zc 2 rfl
    have q3:W7.cell? ⟨w.heap.size+1,3,none⟩=some _:=HRZ.out.zc 3 rfl
    have q4:W7.cell? ⟨w.heap.size+1,4,none⟩=some _:=HRZ.out.zc 4 rfl
    have q5:W7.cell? ⟨w.heap.size+1,5,none⟩=some _:=HRZ.out.zc 5 rfl
    have q6:W7.cell? ⟨w.heap.size+1,6,none⟩=some _:=HRZ.out.zc 6 rfl
    unfold sets at hW7
    simp only[List.foldl_cons,List.foldl_nil]at hW7
    rw[←hW7]
    refine bodyPost_ret (v:=.agg #[.int .i64 p.n,.int .i64 p.ins,.int .i64 p.outs,.slice na p.cs.length nc,.int .i64 p.an,.slice ma p.st.length mc,.int .i64 p.rounds]) (by simp[results,Tryz.results30,go_sem,q0,q1,q2,q3,q4,q5,q6]) rfl ?_
    exact .mk HBZ.out ⟨_,_,rfl,(HCS.out.agree (HAG.out.mono fun b hb=>by omega)).mono fun b hb=>(by rcases hb.1 with (h | h) | h;exact .inl h;exact .inr (by omega);exact .inr (by omega)),((HM.out.agree HAG.out (fun q hq=>by have:=(HM.out.lt q hq).1;omega) fun b hb=>by rcases hb with h | h<;>omega).sl (by omega)).mono fun b hb=>(by rcases hb with (h | h) | h;exact .inl h;exact .inr (by omega);have hN1x:=hN1;exact .inr (by omega))⟩
   obtain ⟨g,rfl⟩:=hma (by omega)
   obtain ⟨cs,hcs,hrd,hcl,hfr⟩:=HM.out.at hlt
   have sz:(kSl (kFlat 8)).size=1:=rfl
   rw[sz]at hcs hcl
   obtain ⟨v1,rfl,i1⟩:=hrd
   have z0:=hcs 0 (by omega)
   rw[Nat.add_zero,Nat.mul_one]at z0
   simp only[List.getElem?_cons_zero]at z0
   have o1:=HOK.out.m k hlt
   rw[show nthM p.st k=p.st[k] by simp[nthM,hlt]]at o1
   obtain ⟨c,hc⟩:∃c,c=p.st[k]:=⟨_,rfl⟩
   rw[←hc]at i1 o1
   have HC:=zhd hc
   obtain ⟨a1,c1,rfl,_⟩:=i1.form
   have hgl:g<wr.heap.size:=(HM.out.lt g rfl).2
   have hgb:N1≤g:=(HM.out.lt g rfl).1
   obtain ⟨ic,hic,_,hic1,_⟩:=info_parts ZM
   have q:∀W':World,(Instr.indexAt 25 (.slice (some ⟨g,0,none⟩) p.st.length mc) (.int .i64 k)).run Tryz.prog W'=.ok (.pointer (some ⟨g,k,none⟩)) W':=fun W'=>by
    have:=zz (P:=Tryz.prog) (S:=fun _=>True) (w:=wr) Tryz.underlying25 hic hic1 (a:=some ⟨g,0,none⟩) (n:=p.st.length) (cap:=mc) (.inr ⟨g,0,rfl,hgl,trivial⟩) k hlt W'
    rw[zZ,Nat.zero_add]at this
    exact this
   have KI:=zhd fun W (hW:Below wr.heap.size wr W)=>Qo (i1.ext hW) o1
   have c5:=R.zc 5 rfl
   have hbl:=R.lt
   have FR:Hid (∀W',Below wr.heap.size wr W'→W'.cell? ⟨g,k,none⟩=some (.slice a1 c.length c1)∧W'.frozen? ⟨g,k,none⟩=false∧g<W'.heap.size):=zhd fun W' hW=>by
    obtain ⟨_,_,_,_,hfr'⟩:=(HM.out.ext hW).at hlt
    exact ⟨zm z0 hW,hfr' _,Nat.lt_of_lt_of_le hgl hW.size⟩
   have KEEP:Hid (∀W',Below wr.heap.size wr W'→W'.cell? ⟨w.heap.size,5,none⟩=some (.slice (some ⟨g,0,none⟩) p.st.length mc)):=zhd fun W' hW=>(R.ext hW).zc 5 rfl
   have FIN:Hid (∀w4 b1 d1,Below wr.heap.size wr w4→OwnK (kFlat 8) 69 wr.heap.size (fun _=>False) w4 (.slice b1 c.length d1) c→
     ∀W',W'=w4.setCell ⟨g,k,none⟩ (.slice b1 c.length d1)→Below w.heap.size w W'∧Row W' w.heap.size 29 [.int .i64 p.n,.int .i64 p.ins,.int .i64 p.outs,.slice na p.cs.length nc,.int .i64 p.an,.slice (some ⟨g,0,none⟩) p.st.length mc,.int .i64 p.rounds]∧Row W' (w.heap.size+1) 29 [.int .i64 0,.int .i64 0,.int .i64 0,.slice none 0 0,.int .i64 0,.slice none 0 0,.int .i64 0]∧Sl kCase (fun b=>(((S b∧b<w.heap.size)∨w.heap.size+2≤b)∨w.heap.size+2≤b)∧b<N1) W' (.slice na p.cs.length nc) p.cs∧OwnK (kSl (kFlat 8)) 70 N1 (fun b=>(S b∧b<w.heap.size)∨w.heap.size+2≤b) W' (.slice (some ⟨g,0,none⟩) p.st.length mc) p.st):=zhd fun w4 b1 d1 hy h1 W' hW=>by
    subst hW
    have g1:Agree (fun b=>b<N1) w4 (w4.setCell ⟨g,k,none⟩ (.slice b1 c.length d1)):=.of_grown (zj w4 g k _) fun b hb e=>by cases e;omega
    have hA:=((Agree.of_ext hy).mono (S':=fun b=>b<N1) fun _ _=>trivial).trans g1
    refine ⟨(hb.trans (hy.mono hb.size)).setCell (by simp;omega) _,R.agree hA (by omega),R2.agree hA (by omega),HCS.out.agree (hA.mono fun b hb=>hb.2),(HM.out.ext hy).set1 hlt ⟨_,rfl,?_⟩⟩
    rw[←HC.out]
    refine (h1.sl (by omega)).mono fun b hb=>?_
    rcases hb with h | h
    ·exact h.elim
    ·exact ⟨.inr (by omega),by simp[Value.ownBlock];omega⟩
   clear hcs hcl hfr hc i1 hic hic1 sz
   go_wp2
   refine zH (fun w':World=>w'.cell? ⟨w.heap.size,5,none⟩=some (.slice (some ⟨g,0,none⟩) p.st.length mc)) (fun i=>i==7) (by kernel_rfl) ?_ (fun hHeld=>?_)
   ·exact KEEP.out _ (zh _ _ 1)
   refine anyE_take 0 (v:=?_) rfl (by kernel_rfl) (fun _ _ _ h=>h) (by rfl) ?hy0b hHeld ?r0b
   case hy0b=>(intro w hSw;(try dsimp only at hSw);go_simp;try with_reducible rfl)
   try simp only[Act.put,zsa,zsz,zss]
   refine anyE_take 1 (v:=?_) rfl (by kernel_rfl) (fun _ _ _ h=>h) (by rfl) ?hy1b hHeld ?r1b
   case hy1b=>(intro w hSw;(try dsimp only at hSw);go_simp;try with_reducible rfl)
   try simp only[Act.put,zsa,zsz,zss]
   refine anyE_take 2 (v:=?_) rfl (by kernel_rfl) (fun _ _ _ h=>h) (by rfl) ?hy2b hHeld ?r2b
   case hy2b=>(intro w hSw;(try dsimp only at hSw);go_simp;try with_reducible rfl)
   try simp only[Act.put,zsa,zsz,zss]
   refine anyE_take 3 (v:=?_) rfl (by kernel_rfl) (fun _ _ _ h=>h) (by rfl) ?hy3b hHeld ?r3b
   case hy3b=>(intro w hSw;(try dsimp only at hSw);go_simp;try with_reducible rfl)
   try simp only[Act.put,zsa,zsz,zss]
   refine anyE_take 4 (v:=?_) rfl (by kernel_rfl) (fun _ _ _ h=>h) (by rfl) ?hy4b hHeld ?r4b
   case hy4b=>(intro w hSw;(try dsimp only at hSw);go_simp;try with_reducible rfl)
   try simp only[Act.put,zsa,zsz,zss]
   refine anyE_one 5 rfl (by kernel_rfl) (fun K hK=>?_)
   go_simp;go_at_call 62;refine (KI.out _ (zh _ _ 1)).mono ?_;rintro _ w4 ⟨u1,rfl,hb4,h4⟩;replace h4:=h4.low (base':=wr.heap.size) (Nat.le_refl _);obtain ⟨b1,d1,rfl,_⟩:=h4.form;have y4:=za (zh _ _ 1) hb4;obtain ⟨e1,e2,e3⟩:=FR.out _ y4
   refine hK.out _ _ (fun _=>KEEP.out _ y4) (fun hHeld=>?_);replace hHeld:=hHeld rfl
   clear hK K
   try simp only[Act.put,zsa,zsz,zss]
   refine anyE_take 6 (v:=?_) rfl (by kernel_rfl) (fun _ _ _ h=>h) (by rfl) ?hy6b hHeld ?r6b
   case hy6b=>(intro w hSw;(try dsimp only at hSw);go_simp;try with_reducible rfl)
   try simp only[Act.put,zsa,zsz,zss]
   refine anyE_one 7 rfl (by kernel_rfl) (fun K hK=>?_)
   go_simp
   refine hK.out _ _ (fun h=>by simp at h) (fun hHeld=>?_)
   clear hK K
   try simp only[Act.put,zsa,zsz,zss]
   refine zy (by kernel_rfl) ?_ _
   have FF:=zhd (FIN.out w4 _ _ y4 h4.flat8)
   clear hHeld KEEP FR FIN h4 hb4 z0 c5
   go_wp2
   go_roundw
   case rel=>
    obtain ⟨r1,r2,r3,r4,r5⟩:=FF.out _ rfl
    exact ⟨k+1,by omega,by go_num,r1,r2,r3,zhd r4,zhd r5⟩
   case measure=>simp[intOf];omega
end Go.Proofs.YtjpakklplhabdaaGreat
