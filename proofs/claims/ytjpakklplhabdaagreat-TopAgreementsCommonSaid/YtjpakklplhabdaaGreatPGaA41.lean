/- Part of the proof that the laws answer true for every input. -/
import Derived.Test.YtjpakklplhabdaaGreatPGaA40
import Derived.Maps.OwnIn
set_option linter.unusedSimpArgs false
set_option linter.unnecessarySimpa false
set_option linter.unusedVariables false
set_option maxRecDepth 100000
set_option maxHeartbeats 40000000
namespace Go.Proofs.YtjpakklplhabdaaGreat
open Go.RowKit
attribute [local go_sem ↓] Go.wp_at_zero Go.wp_at_succ
theorem xN {α:Type} (l:Nat) (f:Nat×Nat→α):∀c,(pairsIT l c).map f=(List.range (c * l)).map fun i=>f (i / l,i % l)
 | 0=>by simp[pairsIT]
 | c+1=>by
  rw[yn,List.map_append,xN l f c,Nat.succ_mul,List.range_add,List.map_append,List.map_map,List.map_map]
  congr 1
  apply List.map_congr_left
  intro j hj
  have hj:=List.mem_range.1 hj
  show f (c,j)=f ((c * l+j) / l,(c * l+j) % l)
  rw[Nat.mul_comm c l,Nat.mul_add_div (by omega),Nat.mul_add_mod,Nat.div_eq_of_lt hj,Nat.mod_eq_of_lt hj,Nat.add_zero]
theorem zc8 {K:Type} [DecidableEq K] (l:List K):(firsts l).length≤l.length:=qx l
theorem Row.of_heap {w:World} {g:Nat} {e:TypeId} {xs:List Value} (h:w.heap[g]? =some (.cells xs.toArray e)):Row w g e xs:=h
def kL {E K:Nat} (key:Nat→Nat→Int) (pre:List (Pnt E K)):List Int:=pre.map fun x=>key x.1.1 x.1.2
theorem zcl {E K:Nat} (key:Nat→Nat→Int) (pre:List (Pnt E K)) (x:Pnt E K):kL key (pre++[x])=kL key pre++[key x.1.1 x.1.2]:=by simp[kL]
theorem zbW {E K:Nat} (key:Nat→Nat→Int) (pre:List (Pnt E K)):(kL key pre).length=pre.length:=by simp[kL]
theorem ze2 {E K:Nat} {key:Nat→Nat→Int} (h:∀e k,e<E→k<K+1→WF (key e k)) (pre:List (Pnt E K)):∀x∈kL key pre,WF x:=fun x hx=>by
 obtain ⟨y,_,rfl⟩:=List.mem_map.1 hx
 exact h _ _ y.2.1 y.2.2
def NumI {E K:Nat} (key:Nat→Nat→Int) (OB MB:Nat) (w w3:World) (pre:List (Pnt E K)) (W:World):Prop:=∃rv,Row W OB 30 [rv]∧W.ownsRow w3.heap.size 3 1 rv pre.length ((zzlabs (kL key pre)).map (Value.int .i64))∧MapV keyInt W MB (labMap (kL key pre)) (firsts (kL key pre)).length∧Agree (fun b=>b<w3.heap.size∧b≠OB∧b≠MB) w3 W∧Below w.heap.size w W
theorem NumI.from {E K:Nat} {key:Nat→Nat→Int} {OB MB:Nat} {w w3:World} (h1:OB<w3.heap.size) (h2:MB<w3.heap.size) (h3:w.heap.size≤w3.heap.size):OwnFrom w3.heap.size (NumI (E:=E) (K:=K) key OB MB w w3):=fun pre A C row h hg hr=>by
 obtain ⟨rv,a1,a2,a3,a4,a5⟩:=h
 exact ⟨rv,a1.grown hg (fun e=>by have:=(hr _ e).1;omega),zcR a2 hg hr,a3.agree (S:=fun b=>b=MB) (.of_grown hg fun b hb e=>by have:=(hr _ e).1;omega) rfl,a4.trans (.of_grown hg fun b hb e=>by have:=(hr _ e).1;have:=hb.1;omega),a5.grown hg a5.size (fun k hk=>by have:=(hr k hk).1;omega)⟩
theorem NumI.step {E K:Nat} {key:Nat→Nat→Int} {OB MB:Nat} {w w3 W W2 W4 W5:World} {pre:List (Pnt E K)} {x:Pnt E K} {rv:Value} {g6 cp6:Nat} {y:Int} (h1:OB<w3.heap.size) (h2:MB<w3.heap.size) (h3:w.heap.size≤w3.heap.size) (hne:OB≠MB) (hwM:w.heap.size≤MB) (hwO:w.heap.size≤OB) (hws:w3.heap.size≤W.heap.size)
  (hA:Agree (fun b=>b<w3.heap.size∧b≠OB∧b≠MB) w3 W) (hB:Below w.heap.size w W) (hb:Below W.heap.size W W2) (hM:W2.grownBy W4 (some MB)) (hR:Row W OB 30 [rv]) (hO:W.ownsRow w3.heap.size 3 1 rv pre.length ((zzlabs (kL key pre)).map (Value.int .i64)))
  (hM4:MapV keyInt W4 MB (labMap (kL key (pre++[x]))) (firsts (kL key (pre++[x]))).length) (hy:y=(lab (kL key pre++[key x.1.1 x.1.2]) (key x.1.1 x.1.2):Nat))
  (hown:W5.ownsRow w3.heap.size 3 1 (.slice (some ⟨g6,0,none⟩) (pre.length+1) cp6) (pre.length+1) ((zzlabs (kL key pre)).map (Value.int .i64)++[.int .i64 y])) (hgr:(W4.alloc (.cells #[.int .i64 y] 3)).grownBy W5 rv.ownBlock):
  ∀W6,W6=W5.setCell ⟨OB,0,none⟩ (.slice (some ⟨g6,0,none⟩) (pre.length+1) cp6)→KeepsFrom w3.heap.size W W6∧Agree (fun b=>b<w3.heap.size∧b≠OB∧b≠MB) W W6∧NumI key OB MB w w3 (pre++[x]) W6:=by
 rintro W6 rfl
 have HNE:∀k,rv.ownBlock=some k→w3.heap.size≤k∧k<W.heap.size:=fun k hk=>hO.lt k hk
 have hs2:=hb.size
 have hs4:=hM.size
 have e4:(W4.alloc (.cells #[.int .i64 y] 3)).heap.size=W4.heap.size+1:=by simp
 have hs5:=hgr.size
 have hset:=zj W5 OB 0 (.slice (some ⟨g6,0,none⟩) (pre.length+1) cp6)
 have A2:Agree (fun _=>True) W W2:=.of_ext hb
 have A4:Agree (fun b=>b≠MB) W2 W4:=.of_grown hM fun b hb e=>hb (by injection e with e;exact e.symm)
 have A4':Agree (fun _=>True) W4 (W4.alloc (.cells #[.int .i64 y] 3)):=.of_grown (World.grownBy_alloc W4 (.cells #[.int .i64 y] 3) none) (by simp)
 have A5:Agree (fun b=>rv.ownBlock≠some b) (W4.alloc (.cells #[.int .i64 y] 3)) W5:=.of_grown hgr fun b hb e=>hb e
 have A6:Agree (fun b=>b≠OB) W5 (W5.setCell ⟨OB,0,none⟩ (.slice (some ⟨g6,0,none⟩) (pre.length+1) cp6)):=.of_grown hset fun b hb e=>hb (by injection e with e;exact e.symm)
 have hT:Agree (fun b=>b<w3.heap.size∧b≠OB∧b≠MB) W (W5.setCell ⟨OB,0,none⟩ (.slice (some ⟨g6,0,none⟩) (pre.length+1) cp6)):=
  (A2.mono fun _ _=>trivial).trans ((A4.mono fun b hb=>hb.2.2).trans ((A4'.mono fun _ _=>trivial).trans ((A5.mono fun b hb e=>by have:=(HNE b e).1;omega).trans (A6.mono fun b hb=>hb.2.1))))
 have hlt6:=(hown.lt g6 rfl).1
 have hR5:Row W5 OB 30 [rv]:=(((hR.agree A2 trivial).agree A4 hne).agree A4' trivial).agree A5 fun e=>by have:=(HNE _ e).1;omega
 refine ⟨?_,hT,_,hR5.set 0 _,?_,?_,hA.trans hT,?_⟩
 ·refine ((zR (B:=w3.heap.size) A2 fun _ _ _ _ _=>trivial).trans (zR A4 fun k o hk _ _=>by omega)).trans (((zR A4' fun _ _ _ _ _=>trivial).trans (zR A5 fun k o hk h0 ho e=>?_)).trans (zR A6 fun k o hk _ _=>by omega))
  rcases hO.2 with ⟨hrv,_⟩ | ⟨g,cap,cur,hrv,_,hc,_⟩
  ·rw[hrv]at e;cases e
  ·rw[hrv]at e
   cases e
   have h9:(W4.alloc (.cells #[.int .i64 y] 3)).heap[g]? =W.heap[g]?:=by
    have hl:=(Array.getElem?_eq_some_iff.1 hc).1
    rw[A4'.2 g trivial (by omega),A4.2 g (by omega) (by omega),A2.2 g trivial (by omega)]
   rw[h9,hc]at h0
   cases h0
   cases ho
 ·rw[zcl,zci,List.map_append,List.length_append,List.map_cons,List.map_nil,←hy]
  exact zO (S:=fun b=>b≠OB) hown A6 (fun k hk=>by have:=(hown.lt k hk).1;show k≠_;omega)
 ·exact ((hM4.agree A4' trivial).agree A5 fun e=>by have:=(HNE _ e).1;omega).agree A6 (Ne.symm hne)
 ·have b2:=za hB hb
  have hz:=b2.size
  have b4:=b2.grown hM hz (fun k hk=>by cases hk;omega)
  have b4':=zg b4 (.cells #[.int .i64 y] 3)
  have b5:=b4'.grown hgr (by have:=b4'.size;omega) (fun k hk=>by have:=(HNE k hk).1;omega)
  exact b5.setCell (by simp;omega) _
end Go.Proofs.YtjpakklplhabdaaGreat
namespace Go.Proofs.YtjpakklplhabdaaGreat
open Go.RowKit Go.Shelf
attribute [local go_sem ↓] Go.wp_at_zero Go.wp_at_succ
attribute [local go_sem] Oper.semAt_some
theorem ZS {w:World} {K:Nat} {ca sa ta xa:Option Addr} {cc sc tc xc:Nat} {s:SysF} {p0 p1:Option Addr} (key:Nat→Nat→Int) (hK:K≤6) (hE:s.ex.length≤60) (hwf:∀e k,e<s.ex.length→k<K+1→WF (key e k))
  (KY:∀W,Below w.heap.size w W→∀e k,e<s.ex.length→k<K+1→Calls Tryz.prog 118 #[.agg #[.int .i64 (e:Nat),.int .i64 (k:Nat)],.pointer p0,.pointer p1] W (Post W fun _ r=>r=.int .i64 (key e k))):
  Calls Tryz.prog 117 #[.agg #[.int .i64 s.p.n,.int .i64 s.p.ins,.int .i64 s.p.outs,.slice ca s.p.cs.length cc,.int .i64 s.p.an,.slice sa s.p.st.length sc,.int .i64 K,.int .i64 s.tn,.slice ta s.tab.length tc,.slice xa s.ex.length xc],.func (.func 118) #[] #[.pointer p0,.pointer p1]] w (Post w fun w' r=>Ints (fun b=>w.heap.size≤b) w' r (zzlabs ((pairsI s.ex.length (K+1)).map fun x=>key x.1 x.2))):=by
 have HKY:=zhd KY
 have HWF:=zhd hwf
 have ex:Below w.heap.size w (((((w.alloc (.cells #[.int .i64 s.p.n,.int .i64 s.p.ins,.int .i64 s.p.outs,.slice ca s.p.cs.length cc,.int .i64 s.p.an,.slice sa s.p.st.length sc,.int .i64 K,.int .i64 s.tn,.slice ta s.tab.length tc,.slice xa s.ex.length xc] 39)).alloc (.cells #[.func (.func 118) #[] #[.pointer p0,.pointer p1]] 176)).alloc (.map #[] 0)).alloc (.cells #[.map (some (w.heap.size+1+1))] 193)).alloc (.cells #[.slice none 0 0] 30)):=zg (zg (zg (zg (zb w (.cells #[.int .i64 s.p.n,.int .i64 s.p.ins,.int .i64 s.p.outs,.slice ca s.p.cs.length cc,.int .i64 s.p.an,.slice sa s.p.st.length sc,.int .i64 K,.int .i64 s.tn,.slice ta s.tab.length tc,.slice xa s.ex.length xc] 39)) (.cells #[.func (.func 118) #[] #[.pointer p0,.pointer p1]] 176)) (.map #[] 0)) (.cells #[.map (some (w.heap.size+1+1))] 193)) (.cells #[.slice none 0 0] 30)
 have R0:=((((ze w [.int .i64 s.p.n,.int .i64 s.p.ins,.int .i64 s.p.outs,.slice ca s.p.cs.length cc,.int .i64 s.p.an,.slice sa s.p.st.length sc,.int .i64 K,.int .i64 s.tn,.slice ta s.tab.length tc,.slice xa s.ex.length xc] 39).alloc (.cells #[.func (.func 118) #[] #[.pointer p0,.pointer p1]] 176)).alloc (.map #[] 0)).alloc (.cells #[.map (some (w.heap.size+1+1))] 193)).alloc (.cells #[.slice none 0 0] 30)
 have RF:=(((ze (w.alloc (.cells #[.int .i64 s.p.n,.int .i64 s.p.ins,.int .i64 s.p.outs,.slice ca s.p.cs.length cc,.int .i64 s.p.an,.slice sa s.p.st.length sc,.int .i64 K,.int .i64 s.tn,.slice ta s.tab.length tc,.slice xa s.ex.length xc] 39)) [.func (.func 118) #[] #[.pointer p0,.pointer p1]] 176).alloc (.map #[] 0)).alloc (.cells #[.map (some (w.heap.size+1+1))] 193)).alloc (.cells #[.slice none 0 0] 30)
 have RM:=((MapV.made keyInt ((w.alloc (.cells #[.int .i64 s.p.n,.int .i64 s.p.ins,.int .i64 s.p.outs,.slice ca s.p.cs.length cc,.int .i64 s.p.an,.slice sa s.p.st.length sc,.int .i64 K,.int .i64 s.tn,.slice ta s.tab.length tc,.slice xa s.ex.length xc] 39)).alloc (.cells #[.func (.func 118) #[] #[.pointer p0,.pointer p1]] 176))).alloc (.cells #[.map (some (w.heap.size+1+1))] 193)).alloc (.cells #[.slice none 0 0] 30)
 have RV:=(ze (((w.alloc (.cells #[.int .i64 s.p.n,.int .i64 s.p.ins,.int .i64 s.p.outs,.slice ca s.p.cs.length cc,.int .i64 s.p.an,.slice sa s.p.st.length sc,.int .i64 K,.int .i64 s.tn,.slice ta s.tab.length tc,.slice xa s.ex.length xc] 39)).alloc (.cells #[.func (.func 118) #[] #[.pointer p0,.pointer p1]] 176)).alloc (.map #[] 0)) [.map (some (w.heap.size+1+1))] 193).alloc (.cells #[.slice none 0 0] 30)
 have RO:=ze ((((w.alloc (.cells #[.int .i64 s.p.n,.int .i64 s.p.ins,.int .i64 s.p.outs,.slice ca s.p.cs.length cc,.int .i64 s.p.an,.slice sa s.p.st.length sc,.int .i64 K,.int .i64 s.tn,.slice ta s.tab.length tc,.slice xa s.ex.length xc] 39)).alloc (.cells #[.func (.func 118) #[] #[.pointer p0,.pointer p1]] 176)).alloc (.map #[] 0)).alloc (.cells #[.map (some (w.heap.size+1+1))] 193)) [.slice none 0 0] 30
 simp only[World.size_alloc]at RF RM RV RO
 have hmm:=@run_makeMap Tryz.prog
 obtain ⟨t0,t1,t2,t3,t4,t5,t6,t7,t8,t9⟩:=R0.ten
 have l0:=R0.lt
 clear KY hwf
 refine (callsIn_wide (n:=6)).1 ?_
 refine callsIn_of_wp_marks Tryz.func117 rfl trivial ?_ rfl
 simp only[Tryz.ntmps117,List.size_toArray,List.length_cons,List.length_nil,Nat.reduceAdd,Nat.reduceSub,Array.replicate_succ,Array.replicate_zero,List.push_toArray,List.append_toArray,List.nil_append,List.cons_append]
 refine wpIn_wide.2 ?_
 go_wp2_with fail
 obtain ⟨w2,hw2⟩:∃w2,w2=(((((w.alloc (.cells #[.int .i64 s.p.n,.int .i64 s.p.ins,.int .i64 s.p.outs,.slice ca s.p.cs.length cc,.int .i64 s.p.an,.slice sa s.p.st.length sc,.int .i64 K,.int .i64 s.tn,.slice ta s.tab.length tc,.slice xa s.ex.length xc] 39)).alloc (.cells #[.func (.func 118) #[] #[.pointer p0,.pointer p1]] 176)).alloc (.map #[] 0)).alloc (.cells #[.map (some (w.heap.size+1+1))] 193)).alloc (.cells #[.slice none 0 0] 30)):=⟨_,rfl⟩
 rw[←hw2]at ex R0 RF RM RV RO ⊢
 have hz2:w2.heap.size=w.heap.size+5:=by rw[hw2];simp
 clear hw2 t0 t1 t2 t3 t4 t5 t6 t7 t8 t9 l0 hmm
 obtain ⟨OB,hOB⟩:∃b,b=w.heap.size+1+1+1+1:=⟨_,rfl⟩
 rw[←hOB]at RO ⊢
 obtain ⟨VB,hVB⟩:∃b,b=w.heap.size+1+1+1:=⟨_,rfl⟩
 rw[←hVB]at RV ⊢
 obtain ⟨MB,hMB⟩:∃b,b=w.heap.size+1+1:=⟨_,rfl⟩
 rw[←hMB]at RM RV ⊢
 obtain ⟨FB,hFB⟩:∃b,b=w.heap.size+1:=⟨_,rfl⟩
 rw[←hFB]at RF ⊢
 have KP:=zhd (zby w2 (E:=s.ex.length) (K:=K) (ca:=ca) (cc:=cc) (sa:=sa) (sc:=sc) (ta:=ta) (tc:=tc) (xa:=xa) (xc:=xc) (s:=s))
 refine KP.out.mono ?_
 rintro _ _ ⟨rfl,rfl⟩
 clear KP
 have e3:=zb w2 (.cells #[.int .i64 s.p.n,.int .i64 s.p.ins,.int .i64 s.p.outs,.slice ca s.p.cs.length cc,.int .i64 s.p.an,.slice sa s.p.st.length sc,.int .i64 K,.int .i64 s.tn,.slice ta s.tab.length tc,.slice xa s.ex.length xc] 39)
 have RP:=ze w2 [.int .i64 s.p.n,.int .i64 s.p.ins,.int .i64 s.p.outs,.slice ca s.p.cs.length cc,.int .i64 s.p.an,.slice sa s.p.st.length sc,.int .i64 K,.int .i64 s.tn,.slice ta s.tab.length tc,.slice xa s.ex.length xc] 39
 have RF3:=RF.ext e3
 have RM3:=RM.ext e3
 have RV3:=RV.ext e3
 have RO3:=RO.ext e3
 have ex3:=za ex e3
 have hz3:(w2.alloc (.cells #[.int .i64 s.p.n,.int .i64 s.p.ins,.int .i64 s.p.outs,.slice ca s.p.cs.length cc,.int .i64 s.p.an,.slice sa s.p.st.length sc,.int .i64 K,.int .i64 s.tn,.slice ta s.tab.length tc,.slice xa s.ex.length xc] 39)).heap.size=w.heap.size+6:=by simp[hz2]
 obtain ⟨w3,hw3⟩:∃w3,w3=w2.alloc (.cells #[.int .i64 s.p.n,.int .i64 s.p.ins,.int .i64 s.p.outs,.slice ca s.p.cs.length cc,.int .i64 s.p.an,.slice sa s.p.st.length sc,.int .i64 K,.int .i64 s.tn,.slice ta s.tab.length tc,.slice xa s.ex.length xc] 39):=⟨_,rfl⟩
 obtain ⟨PB,hPB⟩:∃B,B=w2.heap.size:=⟨_,rfl⟩
 rw[←hPB]at RP
 rw[←hw3]at RP RF3 RM3 RV3 RO3 ex3 hz3
 rw[←hw3,←hPB]
 have z3:=RP.lt
 clear hw3 e3 R0 RF RM RV RO ex
 have hHT:∀b,b<w3.heap.size∧b≠OB∧b≠MB→b<w3.heap.size:=fun b h=>h.1
 have HST:=zcJ (T:=(fun b=>b<w3.heap.size∧b≠OB∧b≠MB)) (n:=5) (by decide) RP ⟨z3,by omega,by omega⟩ hK hE
 have HI0:NumI (E:=s.ex.length) (K:=K) key OB MB w w3 [] w3:=⟨_,RO3,World.ownsRow_nil _ _ _ _,by rw[show kL key ([]:List (Pnt s.ex.length K))=[] from rfl,zbc];exact RM3,.refl _ _,ex3⟩
 have HOB:Hid (OB<w3.heap.size∧MB<w3.heap.size∧w.heap.size≤w3.heap.size∧OB≠MB∧w.heap.size≤MB∧w.heap.size≤OB∧VB<w3.heap.size∧VB≠OB∧VB≠MB∧FB<w3.heap.size∧FB≠OB∧FB≠MB):=zhd (by omega)
 have HRF:=zhd RF3
 have HRV:=zhd RV3
 have HPE:Hid ((pairsI s.ex.length (K+1)).length≤420):=zhd (by
  have h1:=congrArg List.length (xN (K+1) (fun x:Nat×Nat=>x) s.ex.length)
  rw[List.length_map,List.length_map,List.length_range]at h1
  have h2:s.ex.length * (K+1)≤60 * 7:=Nat.mul_le_mul hE (by omega)
  show (pairsIT (K+1) s.ex.length).length≤420
  omega)
 clear RF3 RV3 RM3 RO3 RP ex3 hOB hVB hMB hFB hPB hz2 hz3 z3
 go_wp2
 refine wpIn_wide (n:=6).1 ?_
 apply Xs (n:=6) rfl (by decide) (gf:=148) (lb:=#[.pointer (some ⟨PB,0,none⟩)]) rfl trivial (enters_of Tryz.func148 (by kernel_rfl) rfl)
  HST xt (xr hHT) YO (fun _=>rfl) (NumI (E:=s.ex.length) (K:=K) key OB MB w w3) (fun c (pre:List (Pnt s.ex.length K)) W=>False)
  (NumI.from HOB.out.1 HOB.out.2.1 HOB.out.2.2.1) (fun c=>yt _) HI0 (fun pre W h=>by obtain ⟨_,_,_,_,h,_⟩:=h;exact h.size) (fun x=>.cells #[.int .i64 (x.1.1:Nat),.int .i64 (x.1.2:Nat)] 175) (fun x=>rfl)
 case hassign=>
  intro l x W g K' hgW hK
  gi_wp2
  rw[←hgW]
  exact hK
 case hstop=>
  rintro D c pre W hD hSp hF hK
  exact hF.elim
 case hbody=>
  clear HST
  rintro l pre x g W ⟨rv,hR,hO,hM,hA,hB⟩ hg hPl hlen
  have HX:=zhd x.2
  obtain ⟨h1,h2,h3,h4,h5,h6,h7,h8,h9,h10,h11,h12⟩:=HOB.out
  have hWs:=hA.size
  have RQ:=Row.of_heap (xs:=[.int .i64 (x.1.1:Nat),.int .i64 (x.1.2:Nat)]) hPl
  have q0:=RQ.zc 0 rfl
  have q1:=RQ.zc 1 rfl
  have ql:=RQ.lt
  have F0:=(HRF.out.agree hA ⟨h10,h11,h12⟩)
  have V0:=(HRV.out.agree hA ⟨h7,h8,h9⟩)
  have f0:=F0.zc 0 rfl
  have fl:=F0.lt
  have KS:=zhd (HKY.out W hB x.1.1 x.1.2 x.2.1 x.2.2)
  have hwfx:=HWF.out x.1.1 x.1.2 x.2.1 x.2.2
  have HST:=zhd fun (W2 W4 W5:World) (g6 cp6:Nat) (y:Int) hb hgM hM4 hy hown hgr=>NumI.step (w:=w) (w3:=w3) (W:=W) (W2:=W2) (W4:=W4) (W5:=W5) (key:=key) (OB:=OB) (MB:=MB) (pre:=pre) (x:=x) (rv:=rv) (g6:=g6) (cp6:=cp6) (y:=y) h1 h2 h3 h4 h5 h6 hWs hA hB hb hgM hR hO hM4 hy hown hgr _ rfl
  have HOW:=zhd hO
  have HNE:Hid (∀k,rv.ownBlock=some k→w3.heap.size≤k∧k<W.heap.size):=zhd fun k hk=>hO.lt k hk
  have hfl:=zc8 (kL key pre)
  rw[zbW]at hfl
  have hlp:pre.length<420:=Nat.lt_of_lt_of_le hlen HPE.out
  have HKS:=zhd (zcl key pre x)
  have HML:=zhd (Ye (l:=kL key pre) (x:=key x.1.1 x.1.2))
  have HMM:=zhd (XK (l:=kL key pre) (x:=key x.1.1 x.1.2))
  obtain ⟨y,hy⟩:∃y,y=key x.1.1 x.1.2:=⟨_,rfl⟩
  rw[←hy]at KS hwfx HKS HML HMM
  have HYK:=zhd hy
  obtain ⟨xe,hxe⟩:∃xe,xe=x.1.1:=⟨_,rfl⟩
  obtain ⟨xk,hxk⟩:∃xk,xk=x.1.2:=⟨_,rfl⟩
  rw[←hxe]at q0 KS
  rw[←hxk]at q1 KS
  clear hPl RQ hy hxe hxk hlen
  gi_wp2_with fail
  refine ⟨trivial,(callsIn_wide.2 KS.out).mono ?_⟩
  rintro _ W2 ⟨_,rfl,hb,rfl⟩
  have V2:=V0.ext hb
  have R2:=hR.ext hb
  have M2:=hM.ext hb
  have hs2:=hb.size
  have v0:=V2.zc 0 rfl
  have vl:=V2.lt
  have o0:=R2.zc 0 rfl
  have ol:=R2.lt
  have of:=R2.free 0
  clear KS q0 q1 ql f0 fl F0 V0
  by_cases hin:y∈kL key pre
  ·have hl1:(Instr.lookup 193 (.map (some MB)) (.int .i64 y) true).run Tryz.prog W2=.ok (.tuple #[.int .i64 (lab (kL key pre) y:Nat),.bool true]) W2:=by
    have:=M2.look Tryz.underlying193 (Zd W2) (x:=y) hwfx true
    rw[HML.out hin]at this;exact this
   have hl2:(Instr.lookup 193 (.map (some MB)) (.int .i64 y) false).run Tryz.prog W2=.ok (.int .i64 (lab (kL key pre) y:Nat)) W2:=by
    have:=M2.look Tryz.underlying193 (Zd W2) (x:=y) hwfx false
    rw[HML.out hin]at this;exact this
   have HST2:=zhd fun W5 g6 cp6 hown hgr=>HST.out W2 W2 W5 g6 cp6 (lab (kL key pre) y:Nat) hb (World.grownBy.refl _ _) (by rw[HKS.out,zbN hin,zbF hin];exact M2) (by rw[←HYK.out,Zh hin]) hown hgr
   have HOW2:=zhd (zO (S:=fun _=>True) HOW.out (.of_ext hb) fun _ _=>trivial)
   obtain ⟨z,hz⟩:∃z:Nat,z=lab (kL key pre) y:=⟨_,rfl⟩
   rw[←hz]at hl1 hl2 HST2
   obtain ⟨pl,hpl⟩:∃pl,pl=pre.length:=⟨_,rfl⟩
   rw[←hpl]at HOW2 HST2 hlp
   clear hin hz HST HOW hO hM hR hA hB hb M2 HML HMM HKS hpl V2 hfl
   gi_wp2_with (gi_at_builtin;refine xy rfl _ _ 30 rfl 3 _ 8 Tryz.underlying30 zC rfl w3.heap.size _ _ _ rfl HOW2.out (.int .i64 z) rfl rfl (by omega) (by omega) (by omega) ?_;intro g6 cp6 W5 hown6 hgr6 hat6;have R6:=(R2.alloc (.cells #[.int .i64 z] 3)).grown hgr6 (fun e=>by have:=(HNE.out _ e).1;omega);have f6:=R6.free 0;have c6:=R6.zc 0 rfl)
   exact HST2.out W5 g6 cp6 hown6 hgr6
  ·have hl1:(Instr.lookup 193 (.map (some MB)) (.int .i64 y) true).run Tryz.prog W2=.ok (.tuple #[.int .i64 0,.bool false]) W2:=by
    have:=M2.look Tryz.underlying193 (Zd W2) (x:=y) hwfx true
    rw[HMM.out hin]at this;exact this
   have hln:∀ty:TypeId,(Builtin.len_ #[193] ty #[.map (some MB)]).run Tryz.prog W2=.ok (.int .i64 ((firsts (kL key pre)).length:Nat)) W2:=fun ty=>M2.len Tryz.underlying193 ty
   obtain ⟨W4,hu,M4,hg4⟩:=M2.store Tryz.underlying193 (by unfold maxLen;omega) (x:=y) hwfx (.int .i64 ((firsts (kL key pre)).length:Nat))
   have hu':(Instr.mapUpdate 193 (.map (some MB)) (.int .i64 y) (.int .i64 ((firsts (kL key pre)).length:Nat))).run Tryz.prog W2=.ok () W4:=hu
   rw[HMM.out hin,zbI hin]at M4
   have M4':MapV keyInt W4 MB (labMap (kL key (pre++[x]))) (firsts (kL key (pre++[x]))).length:=by
    rw[HKS.out,zbA hin]
    simpa using M4
   have hl2:(Instr.lookup 193 (.map (some MB)) (.int .i64 y) false).run Tryz.prog W4=.ok (.int .i64 ((firsts (kL key pre)).length:Nat)) W4:=by
    have:=M4.look Tryz.underlying193 (Zd W4) (x:=y) hwfx false
    rw[Ye (by simp),zaE hin]at this;exact this
   have HST2:=zhd fun W5 g6 cp6 hown hgr=>HST.out W2 W4 W5 g6 cp6 ((firsts (kL key pre)).length:Nat) hb hg4 M4' (by rw[←HYK.out,zaE hin]) hown hgr
   have HOW2:=zhd (zO (S:=fun b=>b≠MB) (zO (S:=fun _=>True) HOW.out (.of_ext hb) fun _ _=>trivial) (.of_grown hg4 fun b hb e=>hb (by injection e with e;exact e.symm)) fun k hk=>by have:=(HNE.out k hk).1;show k≠_;omega)
   have V4:=V2.grown hg4 (by intro e;injection e with e;omega)
   have R4:=R2.grown hg4 (by intro e;injection e with e;omega)
   have v4:=V4.zc 0 rfl
   have vl4:=V4.lt
   have o4:=R4.zc 0 rfl
   have ol4:=R4.lt
   have of4:=R4.free 0
   have hs4:=hg4.size
   obtain ⟨z,hz⟩:∃z:Nat,z=(firsts (kL key pre)).length:=⟨_,rfl⟩
   rw[←hz]at hln hu' hl2 HST2
   obtain ⟨pl,hpl⟩:∃pl,pl=pre.length:=⟨_,rfl⟩
   rw[←hpl]at HOW2 HST2 hlp
   clear hin hz HST HOW hO hM hR hA hB hb M2 M4 M4' hu HML HMM HKS hpl V2 R2 hfl V4 hg4
   gi_wp2_with (gi_at_builtin;refine xy rfl _ _ 30 rfl 3 _ 8 Tryz.underlying30 zC rfl w3.heap.size _ _ _ rfl HOW2.out (.int .i64 z) rfl rfl (by omega) (by omega) (by omega) ?_;intro g6 cp6 W5 hown6 hgr6 hat6;have R6:=(R4.alloc (.cells #[.int .i64 z] 3)).grown hgr6 (fun e=>by have:=(HNE.out _ e).1;omega);have f6:=R6.free 0;have c6:=R6.zc 0 rfl)
   exact HST2.out W5 g6 cp6 hown6 hgr6
 case hdone=>
  rintro D xs W hD hS ⟨rv,hR,hO,hM,hA,hB⟩ hK
  have e1:kL key xs=(pairsI s.ex.length (K+1)).map fun x=>key x.1 x.2:=by rw[←hS,List.map_map];rfl
  have hwl:=ze2 HWF.out xs
  have hxl:xs.length=(zzlabs (kL key xs)).length:=by rw[length_labs,zbW]
  have hxs:xs.length≤420:=by rw[←hS,List.length_map]at HPE;exact HPE.out
  have c2:=hR.zc 0 rfl
  have cl:=hR.lt
  have hB9:=hB.grown (grownBy_putObj' W D (.deferred none)) hB.size (fun k hk=>by cases hk;have:=HOB.out.2.2.1;omega)
  rw[hxl]at hO
  have hO9:=ownsRow_putObj hO (.deferred none) hK rfl
  have hI:=(Ints.of_own hO9 (zep (by rw[zbW];omega))).mono (S':=fun b=>w.heap.size≤b) fun b hb=>by have:=HOB.out.2.2.1;omega
  rw[e1]at hI
  have HKD:=zhd hK
  have HI:=zhd hI
  have HB9:=zhd hB9
  clear hO hS e1 hO9 hI hB9 hK hR hM hA hB hxl hwl HST
  go_wp2
  refine Zq (Yt HKD.out ?_)
  exact ⟨rv,by simp[results,Tryz.results117,go_sem],.mk HB9.out HI.out⟩
end Go.Proofs.YtjpakklplhabdaaGreat
