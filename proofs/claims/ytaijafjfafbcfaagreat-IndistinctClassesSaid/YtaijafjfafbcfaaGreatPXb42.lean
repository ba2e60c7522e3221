/- Part of the proof that the laws answer true for every input. -/
import Derived.Test.YtaijafjfafbcfaaGreatPXb41
import Derived.Test.YtaijafjfafbcfaaGreatPXb34
import Derived.Test.YtaijafjfafbcfaaGreatPXb15
import Derived.Test.YtaijafjfafbcfaaGreatPXb16
import Derived.ArgAppend
set_option linter.unusedSimpArgs false
set_option linter.unnecessarySimpa false
set_option linter.unusedVariables false
set_option maxRecDepth 100000
set_option maxHeartbeats 40000000
namespace Go.Proofs.YtaijafjfafbcfaaGreat
open Go.RowKit Go.Shelf
attribute [local go_sem ↓] Go.wp_at_zero Go.wp_at_succ
def nbTo (s:SysF) (e k:Nat):List Nat:=(List.range k).filter fun x=>adjB s e x
def nbL (s:SysF) (e:Nat):List Nat:=nbTo s e s.ex.length
theorem nbTo_hit {s:SysF} {e k:Nat} (h:adjB s e k=true):nbTo s e (k+1)=nbTo s e k++[k]:=by
 unfold nbTo;rw[List.range_succ,List.filter_append,List.filter_cons,h];rfl
theorem nbTo_skip {s:SysF} {e k:Nat} (h:adjB s e k=false):nbTo s e (k+1)=nbTo s e k:=by
 unfold nbTo;rw[List.range_succ,List.filter_append,List.filter_cons,h];simp
theorem nbTo_prefix (s:SysF) (e:Nat) {k:Nat} (h:k≤s.ex.length):nbTo s e k<+:nbL s e:=by
 unfold nbL nbTo
 obtain ⟨d,hd⟩:∃d,s.ex.length=k+d:=⟨s.ex.length - k,by omega⟩
 rw[hd,List.range_add,List.filter_append]
 exact List.prefix_append _ _
theorem nbTo_len (s:SysF) (e k:Nat):(nbTo s e k).length≤k:=by
 unfold nbTo
 exact Nat.le_trans (List.length_filter_le _ _) (by simp)
theorem mem_nbTo {s:SysF} {e k x:Nat}:x∈nbTo s e k↔x<k∧adjB s e x=true:=by unfold nbTo;rw[List.mem_filter,List.mem_range]
theorem nb_ahead {s:SysF} {e y:Nat} {l:List Nat} (h:l++[y]<+:nbL s e):y<s.ex.length∧adjB s e y=true∧l=nbTo s e y:=by
 obtain ⟨r,hr⟩:=h
 have hs:(nbL s e).Pairwise (·<·):=by
  unfold nbL nbTo
  exact List.Pairwise.filter _ List.pairwise_lt_range
 have hm:y∈nbL s e:=by rw[←hr];simp
 obtain ⟨h1,h2⟩:=mem_nbTo.1 hm
 refine ⟨h1,h2,?_⟩
 have hp:=nbTo_prefix s e (k:=y+1) h1
 rw[nbTo_hit h2]at hp
 obtain ⟨r2,hr2⟩:=hp
 have key:∀(a b c d:List Nat),(a++[y]++b).Pairwise (·<·)→a++[y]++b=c++[y]++d→a=c:=by
  intro a
  induction a with
  | nil=>
   intro b c d h1 h2
   cases c with
   | nil=>rfl
   | cons z c=>
    simp only[List.nil_append,List.cons_append,List.cons.injEq]at h2
    obtain ⟨rfl,h3⟩:=h2
    simp only[List.nil_append,List.singleton_append]at h1
    have:=(List.pairwise_cons.1 h1).1 y (by rw[h3];simp)
    omega
  | cons z a ih=>
   intro b c d h1 h2
   cases c with
   | nil=>
    simp only[List.nil_append,List.cons_append,List.cons.injEq]at h2
    obtain ⟨rfl,h3⟩:=h2
    simp only[List.cons_append]at h1
    have:=(List.pairwise_cons.1 h1).1 z (by simp)
    omega
   | cons z2 c=>
    simp only[List.cons_append,List.cons.injEq]at h2
    obtain ⟨rfl,h3⟩:=h2
    simp only[List.cons_append]at h1
    rw[ih b c d (List.pairwise_cons.1 h1).2 (by simpa using h3)]
 exact key l r _ r2 (by rw[hr];exact hs) (by rw[hr,hr2])
theorem nbrsM_calls (w:World) (g:Nat) (e:Int):Calls Tryz.prog 43 #[.pointer (some ⟨g,0,none⟩),.int .i64 e] w fun q w'=>q=.returned (.func (.func 65) #[] #[.pointer (some ⟨w.heap.size,0,none⟩),.pointer (some ⟨w.heap.size+1,0,none⟩)])∧w'=(w.alloc (.cells #[.pointer (some ⟨g,0,none⟩)] 83)).alloc (.cells #[.int .i64 e] 3):=by
 go_enter Tryz.func43,Tryz.ntmps43
 go_wp2
 go_ret
 exact ⟨rfl,rfl⟩
theorem nbrs_stops {T:Nat→Prop} {w:World} {n B1 B2 g e:Nat} {la:Option Addr} {lc:Nat} {s:SysF} (hn:1≤n) (R1:Row w B1 83 [.pointer (some ⟨g,0,none⟩)]) (R2:Row w B2 3 [.int .i64 e]) (V:FinT T w g la lc s)
  (hN5:s.N≤5) (he:e<s.ex.length) (hx:s.ex.length≤4096) (hT1:T B1) (hT2:T B2) (hTw:∀b,T b→b<w.heap.size):
  SeqStopsK Fence.wide n Tryz.prog 65 #[.pointer (some ⟨B1,0,none⟩),.pointer (some ⟨B2,0,none⟩)] (fun x:{x:Nat // x<s.ex.length∧adjB s e x=true}=>#[.int .i64 x.1,.int .i64 (lowP s e x.1)]) (Agree T) (fun l=>l.map (·.1)=nbL s e) (fun pre=>pre.map (·.1)<+:nbL s e) s.ex.length w:=by
 intro l J Jx W hW hJ hJx hY h0
 have HY:=Lib.hid hY
 have H0:=Lib.hid h0
 have HJ:=Lib.hid hJ
 have R1:=R1.ext hW
 have R2:=R2.ext hW
 have V:=V.ext hW
 have HR1:Hid (∀W',Agree T W W'→Row W' B1 83 [.pointer (some ⟨g,0,none⟩)]):=Lib.hid fun W' h=>R1.agree h hT1
 have HR2:Hid (∀W',Agree T W W'→Row W' B2 3 [.int .i64 e]):=Lib.hid fun W' h=>R2.agree h hT2
 have HV:Hid (∀W',Agree T W W'→FinT T W' g la lc s):=Lib.hid fun W' h=>V.agree h
 have p1:=R1.cell (j:=0) rfl
 have l1:=R1.lt
 have x1:=V.x1
 have lg:=V.row.lt
 have hag:Agree T W W:=.refl _ _
 clear hJ hJx hY h0 R1 R2 V hTw hT1 hT2
 refine callsIn_of_wp Tryz.func65 rfl trivial ?_ rfl
 simp only[Tryz.ntmps65,List.size_toArray,List.length_cons,List.length_nil,Nat.reduceAdd,Nat.reduceSub,Array.replicate_succ,Array.replicate_zero,List.push_toArray,List.append_toArray,List.nil_append,List.cons_append]
 gi_wp2
 clear p1 l1 x1 lg
 gi_loopw [4,5,6,12] (fun _ _ _ i wr=>∃(k:Nat) (pre:List {x:Nat // x<s.ex.length∧adjB s e x=true}),k≤s.ex.length∧i=.int .i64 k∧Hid (J pre wr)∧Hid (pre.map (·.1)=nbTo s e k)∧Agree T W wr) (fun _ _ _ i _=>s.ex.length - (intOf i).toNat)
 case atStart=>exact ⟨0,[],Nat.zero_le _,rfl,H0,Lib.hid rfl,hag⟩
 case round=>
  clear hag
  obtain ⟨k,pre,hk,rfl,HJs,HP,hA⟩:=hrel
  by_cases hlt:k<s.ex.length
  case neg=>
   obtain rfl:k=s.ex.length:=by omega
   have HPE:Hid (pre.map (·.1)=nbL s e):=Lib.hid HP.out
   gi_wp2
   go_end0
   exact ⟨⟨_,rfl⟩,.inl ⟨pre,HPE.out,HJs.out⟩⟩
  have p1:=(HR1.out wr hA).cell (j:=0) rfl
  have l1:=(HR1.out wr hA).lt
  have p2:=(HR2.out wr hA).cell (j:=0) rfl
  have l2:=(HR2.out wr hA).lt
  have KL:=Lib.hid ((linked_quiet (HV.out wr hA) hN5 he hlt).mono fun _ _ h=>h.take)
  have HAD:Hid (adjB s e k=(!(byN s e k==0)&& !(e==k))):=Lib.hid rfl
  have HLW:=Lib.hid (fun h=>low_spec (s:=s) (e:=e) (g:=k) h)
  have HBT:Hid (∀q,(byN s e k).testBit q=(decide (q<s.N)&&lkB s q e k)):=Lib.hid (byN_bit s e k)
  obtain ⟨z,hz⟩:∃z,z=byN s e k:=⟨_,rfl⟩
  rw[←hz]at KL HAD HLW HBT
  obtain ⟨lp,hlp⟩:∃lp,lp=lowP s e k:=⟨_,rfl⟩
  rw[←hlp]at HLW
  have HLP:=Lib.hid hlp
  clear hz hlp
  gi_wp2_with fail
  refine ⟨trivial,(callsIn_wide.2 KL.out).mono ?_⟩
  rintro _ w1 ⟨_,rfl,hq1,rfl⟩
  replace HJs:=Lib.hid (abides_q HJ.out HJs.out hq1)
  replace hA:Agree T W w1:=hA.trans (.of_ext hq1.ext)
  clear KL p1 l1 p2 l2 hq1
  have p2:=(HR2.out w1 hA).cell (j:=0) rfl
  have l2:=(HR2.out w1 hA).lt
  by_cases hz0:z=0
  ·have d0:((z:Int)==0)=true:=by simp[hz0]
   have HP2:Hid (pre.map (·.1)=nbTo s e (k+1)):=Lib.hid (by rw[nbTo_skip (by rw[HAD.out,hz0];rfl)];exact HP.out)
   clear hz0
   gi_wp2
   go_roundw
   case rel=>exact ⟨k+1,pre,by omega,by go_num,HJs,HP2,hA⟩
   case measure=>simp[intOf];omega
  have d0:((z:Int)==0)=false:=by simp[hz0]
  by_cases hek:e=k
  ·have d1:((e:Int)==(k:Int))=true:=by simp[hek]
   have HP2:Hid (pre.map (·.1)=nbTo s e (k+1)):=Lib.hid (by rw[nbTo_skip (by rw[HAD.out,hek];simp)];exact HP.out)
   clear hz0 hek
   gi_wp2
   go_roundw
   case rel=>exact ⟨k+1,pre,by omega,by go_num,HJs,HP2,hA⟩
   case measure=>simp[intOf];omega
  have d1:((e:Int)==(k:Int))=false:=by simp;omega
  have hadj:adjB s e k=true:=by rw[HAD.out];simp[hz0,hek]
  have HLS:=Lib.hid (HLW.out hz0)
  have HPN:Hid ((pre++[(⟨k,hlt,hadj⟩:{x:Nat // x<s.ex.length∧adjB s e x=true})]).map (·.1)=nbTo s e (k+1)):=Lib.hid (by rw[nbTo_hit hadj,List.map_append,HP.out];rfl)
  have HPX:Hid ((pre++[(⟨k,hlt,hadj⟩:{x:Nat // x<s.ex.length∧adjB s e x=true})]).map (·.1)<+:nbL s e):=Lib.hid (by rw[HPN.out];exact nbTo_prefix s e (by omega))
  have hpl:pre.length<s.ex.length:=by
   have h2:=congrArg List.length HP.out
   rw[List.length_map]at h2
   have:=nbTo_len s e k
   omega
  have hlp5:lp≤4:=by have:=HLS.out.1;omega
  obtain ⟨wo,hwo⟩:∃wo:World,wo=w1:=⟨_,rfl⟩
  rw[←hwo]at HJs hA p2 l2 ⊢
  have HADJ:=Lib.hid hadj
  clear hwo hz0 hek HAD HLW HADJ
  gi_wp2
  clear d0 d1 p2 l2
  gi_loopw [6] (fun qv wi=>∃q:Nat,q≤lp∧qv=.int .i64 q∧wi=wo) (fun qv _=>lp - (intOf qv).toNat)
  case atStart=>exact ⟨0,Nat.zero_le _,rfl,rfl⟩
  case round=>
   obtain ⟨q,hq,rfl,rfl⟩:=hrel
   by_cases hql:q<lp
   ·have d2:(bits .and .i64 ((z:Int) / 2 ^ q) 1==0)=true:=by
     rw[bit_if,HBT.out,HLS.out.2.2 q hql,Bool.and_false];rfl
    gi_wp2
    go_roundw
    case rel=>exact ⟨q+1,by omega,by go_num,by first | exact trivial | rfl⟩
    case measure=>simp[intOf];omega
   obtain rfl:q=lp:=by omega
   have d2:(bits .and .i64 ((z:Int) / 2 ^ q) 1==0)=false:=by
    rw[bit_if,HBT.out,HLS.out.2.1,decide_eq_true HLS.out.1];rfl
   obtain ⟨fn,tmps,assign,body,hyy,hRnd⟩:=HY.out pre ⟨k,hlt,hadj⟩ _ HJs.out hpl
   dsimp only at hyy
   rw[←HLP.out]at hyy
   clear hql
   gi_wp2
   refine hRnd.mono ?_
   rintro e W3 (⟨rfl,hJ3,hk3⟩ | ⟨rfl,hJx3⟩)
   ·have HJ3:=Lib.hid hJ3
    have hA3:=hA.trans hk3
    clear hJ3 hyy hRnd
    gi_wp2
    go_roundw
    case rel=>exact ⟨k+1,_,by omega,by go_num,HJ3,HPN,hA3⟩
    case measure=>simp[intOf];omega
   ·have HJ3:=Lib.hid hJx3
    clear hJx3 hyy hRnd
    gi_wp2
    refine bodyPost_ret (results_none rfl _ _ _) rfl ?_
    exact ⟨⟨_,rfl⟩,.inr ⟨_,HPX.out,HJ3.out⟩⟩
end Go.Proofs.YtaijafjfafbcfaaGreat
namespace Go.Proofs.YtaijafjfafbcfaaGreat
open Go.RowKit
def OwnQ (w:World) (base:Nat) (v:Value) (l:List Int):Prop:=
 ∃g off cap cur,v=.slice (some ⟨g,off,none⟩) l.length cap∧base≤g∧Row w g 3 cur∧off+cap≤cur.length∧l.length≤cap∧cap≤maxLen∧∀j,j<l.length→cur[off+j]? =some (.int .i64 (nth l j))
theorem OwnQ.agree {S:Nat→Prop} {w w':World} {base:Nat} {v:Value} {l:List Int} (h:OwnQ w base v l) (hw:Agree S w w') (hS:∀k,v.ownBlock=some k→S k):OwnQ w' base v l:=by
 obtain ⟨g,off,cap,cur,rfl,h1,h2,h3⟩:=h
 exact ⟨g,off,cap,cur,rfl,h1,h2.agree hw (hS g rfl),h3⟩
theorem OwnQ.ext {w w':World} {base:Nat} {v:Value} {l:List Int} (h:OwnQ w base v l) (hw:Below w.heap.size w w'):OwnQ w' base v l:=h.agree (S:=fun _=>True) (.of_ext hw) fun _ _=>trivial
theorem OwnQ.form {w:World} {base:Nat} {v:Value} {l:List Int} (h:OwnQ w base v l):∃g off cap,v=.slice (some ⟨g,off,none⟩) l.length cap∧base≤g∧g<w.heap.size∧l.length≤cap∧cap≤maxLen:=by
 obtain ⟨g,off,cap,cur,rfl,h1,h2,h3,h4,h5,_⟩:=h
 exact ⟨g,off,cap,rfl,h1,h2.lt,h4,h5⟩
theorem OwnQ.head {w:World} {base g off n cap:Nat} {x:Int} {l:List Int} (h:OwnQ w base (.slice (some ⟨g,off,none⟩) n cap) (x::l)):w.cell? ⟨g,off,none⟩=some (.int .i64 x):=by
 obtain ⟨g',off',cap',cur,he,h1,h2,h3,h4,h5,h6⟩:=h
 cases he
 exact h2.cell (by have:=h6 0 (by simp);simpa[nth] using this)
theorem OwnQ.pop {w:World} {base g off n cap:Nat} {x:Int} {l:List Int} (h:OwnQ w base (.slice (some ⟨g,off,none⟩) n cap) (x::l)):OwnQ w base (.slice (some ⟨g,off+1,none⟩) l.length (cap - 1)) l:=by
 obtain ⟨g',off',cap',cur,he,h1,h2,h3,h4,h5,h6⟩:=h
 cases he
 simp only[List.length_cons]at h4
 refine ⟨g,off+1,cap - 1,cur,rfl,h1,h2,by omega,by omega,by omega,fun j hj=>?_⟩
 have:=h6 (j+1) (by simp;omega)
 rw[show off+1+j=off+(j+1) by omega,this]
 simp[nth]
theorem OwnQ.pop0 {w:World} {base g off n cap:Nat} {x:Int} {l:List Int} (h:OwnQ w base (.slice (some ⟨g,off,none⟩) n cap) (x::l)) (hc:cap - 1=0):OwnQ w base (.slice (some ⟨g,off,none⟩) l.length 0) l:=by
 obtain ⟨g',off',cap',cur,he,h1,h2,h3,h4,h5,h6⟩:=h
 cases he
 simp only[List.length_cons]at h4
 exact ⟨g,off,0,cur,rfl,h1,h2,by omega,by omega,by omega,fun j hj=>by omega⟩
theorem OwnQ.one {w:World} {base g:Nat} {x:Int} (R:Row w g 3 [.int .i64 x]) (hb:base≤g):OwnQ w base (.slice (some ⟨g,0,none⟩) 1 1) [x]:=by
 refine ⟨g,0,1,_,rfl,hb,R,by simp,by simp,by simp[maxLen],fun j hj=>?_⟩
 obtain rfl:j=0:=by simp at hj;omega
 rfl
theorem OwnQ.apart {w:World} {base g:Nat} {t:TypeId} {v:Value} {l:List Int} {xs:List Value} (h:OwnQ w base v l) (R:Row w g t xs) (ht:t≠3):v.ownBlock≠some g:=by
 obtain ⟨g',off,cap,cur,rfl,_,h2,_⟩:=h
 intro e
 cases e
 unfold Row at R h2
 rw[R]at h2
 injection h2 with h2
 injection h2 with _ h3
 exact ht h3
theorem run_pushQ {w:World} {base:Nat} {v:Value} {l:List Int} (h:OwnQ w base v l) (hn:l.length≤100000) (hbase:base≤w.heap.size) (x:Int) (ty:TypeId):
  ∃v' w',(Builtin.append_ #[44,44] ty #[v,.slice (some ⟨w.heap.size,0,none⟩) 1 1]).run Tryz.prog (w.alloc (.cells #[.int .i64 x] 3))=.ok v' w'∧OwnQ w' base v' (l++[x])∧(w.alloc (.cells #[.int .i64 x] 3)).grownBy w' v.ownBlock∧(v'.ownBlock=v.ownBlock∨∃k,v'.ownBlock=some k∧w.heap.size≤k):=by
 obtain ⟨g,off,cap,cur,rfl,h1,h2,h3,h4,h5,h6⟩:=h
 obtain ⟨i,hi,hz,hz2,hz3⟩:=info_parts info_int
 have hcell:∀j u,[Value.int .i64 x][j]? =some u→(w.alloc (.cells #[.int .i64 x] 3)).cell? ((⟨w.heap.size,0,none⟩:Addr).add j)=some u:=fun j u hj=>by
  cases j with
  | zero=>simp at hj;subst hj;rw[Addr.add_lit,World.cell?_alloc_new];rfl
  | succ j=>simp at hj
 have hone:∀u∈[Value.int .i64 x],u.oneCell'=true:=fun u hu=>by rw[List.mem_singleton.1 hu];rfl
 have hg:=h2.lt
 have RA:=h2.alloc (.cells #[.int .i64 x] 3)
 by_cases hr:l.length+1≤cap
 ·have hlt:off+l.length<cur.length:=by omega
  have hrun:=run_append_room_cells (P:=Tryz.prog) (w.alloc (.cells #[.int .i64 x] 3)) 44 ty 3 i Tryz.underlying44 hi g off l.length cap ⟨w.heap.size,0,none⟩ 1 1 [.int .i64 x] (by rw[hz2];rfl) hcell hone hr
   (fun j hj=>by
    obtain rfl:j=0:=by simp at hj;omega
    rw[hz2,Nat.mul_one,Nat.add_zero,RA.cell (List.getElem?_eq_getElem hlt)];rfl)
   (fun j hj=>RA.free _)
  rw[hz2,Nat.mul_one]at hrun
  refine ⟨_,_,hrun,?_,grownBy_setCell _ _ _ _,.inl rfl⟩
  refine ⟨g,off,cap,cur.set (off+l.length) (.int .i64 x),by simp,h1,RA.set _ _,by rw[List.length_set];exact h3,by simpa using hr,h5,fun j hj=>?_⟩
  rw[List.length_append]at hj
  simp only[List.length_cons,List.length_nil]at hj
  rw[List.getElem?_set]
  by_cases e:j=l.length
  ·subst e
   rw[if_pos rfl,if_pos hlt]
   simp[nth]
  ·rw[if_neg (by omega),h6 j (by omega),nth_app (by omega)]
 ·obtain ⟨v',w',hrun,r1,r2⟩:=run_append_arg_grows (P:=Tryz.prog) (w.alloc (.cells #[.int .i64 x] 3)) 44 ty 3 i (.int .i64 0) 1 8 Tryz.underlying44 hi hz hz2 hz3 rfl (by decide) ⟨g,off,none⟩ l.length cap (l.map (Value.int .i64)) (by simp)
   (fun j u hj=>by
    have hjl:j<l.length:=by have:=(List.getElem?_eq_some_iff.1 hj).1;simpa using this
    rw[Addr.add_lit,RA.cell (h6 j hjl)]
    rw[List.getElem?_map,get?_nth hjl]at hj
    exact hj)
   ⟨w.heap.size,0,none⟩ 1 1 [.int .i64 x] rfl hcell (by omega) (by unfold maxLen;omega) (by omega)
  have hl:=r1.lt
  obtain ⟨_,hn0 | ⟨g',cap',cur',rfl,hb',hg',hnc,hcm,hcs,htk⟩⟩:=r1
  ·omega
  ·have hbb:w.heap.size≤g':=by rw[World.size_alloc]at hb';omega
   refine ⟨_,_,hrun,?_,⟨r2.os,r2.tape,r2.output,r2.size,fun k hk _=>r2.block k hk (by simp)⟩,.inr ⟨g',rfl,hbb⟩⟩
   refine ⟨g',0,cap',cur'.toList,by simp,by omega,by unfold Row;simpa using hg',by simp[hcs],by simpa using hnc,hcm,fun j hj=>?_⟩
   have hj':j<l.length+1:=by simpa using hj
   rw[Nat.zero_add]
   have e1:cur'.toList[j]? =(cur'.toList.take ((l.length+1) * 1))[j]?:=by rw[List.getElem?_take_of_lt (by omega)]
   rw[e1,htk,←List.map_singleton,←List.map_append,List.getElem?_map,get?_nth hj]
   rfl
theorem wpListIn_pushQ {F:Fence} {nf:Nat} {w:World} {ops:Array Oper} {rest:List Oper} {o:Oper} {a:Act} {Q:Exit→Act→World→Prop} (hgd:o.guard=none) (s x:Operand)
  (ho:o.op=.call {callee:=.builtin .append,args:=#[s,x],argTypes:=#[44,44]}) (base:Nat) (v:Value) (l:List Int) (hs:a.eval s=v) (hown:OwnQ w base v l) (hn:l.length≤100000) (hbase:base≤w.heap.size)
  (u:Int) (hx:a.eval x=.slice (some ⟨w.heap.size,0,none⟩) 1 1)
  (h:∀v' w',OwnQ w' base v' (l++[u])→(w.alloc (.cells #[.int .i64 u] 3)).grownBy w' v.ownBlock→(v'.ownBlock=v.ownBlock∨∃k,v'.ownBlock=some k∧w.heap.size≤k)→wpListIn F nf Tryz.prog ops Q rest (a.put o.dst v') w'):
  wpListIn F nf Tryz.prog ops Q (o::rest) a (w.alloc (.cells #[.int .i64 u] 3)):=by
 refine wpListIn_plain hgd fun K hK'=>?_
 obtain ⟨v',w',hrun,r1,r2,r3⟩:=run_pushQ hown hn hbase u o.type
 unfold Oper.wpIn
 refine ⟨?_,?_⟩
 ·simp[Oper.about,ho,resolve,Target.leads,Sem.run_pure]
 ·rw[Oper.semAt_plain F _ _ (by rw[ho];intro c hc';cases hc')]
  simp[execOp,ho,resolve,invoke,builtin,hs,hx,hrun,Result.andThen]
  exact hK' _ _ (h v' w' r1 r2 r3)
def castL (l:List Nat):List Int:=l.map fun x:Nat=>(x:Int)
theorem castL_len (l:List Nat):(castL l).length=l.length:=by simp[castL]
theorem castL_snoc (l:List Nat) (y:Nat):castL (l++[y])=castL l++[(y:Int)]:=by simp[castL]
def negN (l:List Int):Nat:=(l.filter fun x=>decide (x<0)).length
theorem negN_set {l:List Int}:∀{j:Nat} {x:Int},j<l.length→nth l j<0→0≤x→negN l=negN (l.set j x)+1:=by
 induction l with
 | nil=>intro j x hj;simp at hj
 | cons a l ih=>
  intro j x hj h0 hx
  cases j with
  | zero=>
   have ha:a<0:=by simpa[nth] using h0
   simp[negN,List.filter_cons,ha,show¬x<0 by omega]
  | succ j=>
   have h1:nth l j<0:=by simpa[nth] using h0
   have:=ih (j:=j) (x:=x) (by simpa using hj) h1 hx
   unfold negN at this ⊢
   rw[zss,List.filter_cons,List.filter_cons]
   split
   ·simp only[List.length_cons];omega
   ·exact this
theorem negN_le (l:List Int):negN l≤l.length:=List.length_filter_le _ _
def negR (w:World) (g:Nat):Nat:=match w.heap[g]? with | some (.cells cs _ _)=>(cs.toList.filter fun v=>decide (intOf v<0)).length | _=>0
theorem negR_eq {w:World} {g:Nat} {t:TypeId} {l:List Int} (R:Row w g t (l.map (Value.int .i64))):negR w g=negN l:=by
 unfold negR negN
 unfold Row at R
 rw[R]
 simp only[List.filter_map,List.length_map]
 rfl
def lenC (w:World):Value→Nat
 | .pointer (some a)=>match w.cell? a with | some u=>lenV u | none=>0
 | _=>0
theorem lenC_eq {w:World} {g:Nat} {u:Value} (h:w.cell? ⟨g,0,none⟩=some u):lenC w (.pointer (some ⟨g,0,none⟩))=lenV u:=by
 show (match w.cell? ⟨g,0,none⟩ with | some u=>lenV u | none=>0)=_
 rw[h]
structure BfsP (s:SysF) (f x:Nat) (done:List Nat) (out:List Int) (Q:List Nat):Prop where
 inn:BfsIn s f x 0 out Q
 got:∀g∈done,0≤nth out g
theorem BfsIn.at {s:SysF} {f x i j:Nat} {out:List Int} {Q:List Nat} (h:BfsIn s f x i out Q) (hp:∀g,g<j→adjB s x g=true→0≤nth out g):BfsIn s f x j out Q:=
 ⟨h.len,h.val,h.qin,h.srt,h.done,h.low,hp,h.home⟩
theorem BfsIn.hit {s:SysF} {f x i j:Nat} {out:List Int} {Q:List Nat} (h:BfsIn s f x i out Q) (hf:f<s.ex.length) (hj:j<s.ex.length) (ha:adjB s x j=true) (h0:nth out j<0):
  BfsIn s f x 0 (out.set j (nth out x+1)) (Q++[j])∧(∀k,0≤nth out k→0≤nth (out.set j (nth out x+1)) k)∧0≤nth (out.set j (nth out x+1)) j:=by
 obtain ⟨hx,hxo,hx0⟩:=h.head
 have hlen:=h.len
 have hset:=fun i=>nth_set' (l:=out) (k:=j) (i:=i) (x:=nth out x+1) (by omega)
 have hd:=dst_adj (f:=f) hj hx (by rw[adjB_comm];exact ha) hx0
 have hdj:dstV s f j=dstV s f x+1:=by
  by_cases e:dstV s f j≤dstV s f x
  ·have:=h.low j hj hd.1 e;omega
  ·omega
 have mono:∀i,0≤nth out i→0≤nth (out.set j (nth out x+1)) i:=fun i hi=>by
  rw[hset]
  split
  ·omega
  ·exact hi
 refine ⟨⟨by rw[List.length_set];exact hlen,fun e he=>?_,fun y hy=>?_,?_,fun e he h1 h2 g hg h3=>?_,fun e he h1 h2=>mono e (h.low e he h1 h2),fun g hg h1=>absurd hg (by omega),mono f h.home⟩,mono,by rw[hset,if_pos rfl];omega⟩
 ·rw[hset]
  by_cases ej:e=j
  ·subst ej;rw[if_pos rfl];right;omega
  ·rw[if_neg ej];exact h.val e he
 ·rcases List.mem_append.1 hy with hy | hy
  ·obtain ⟨a,b⟩:=h.qin y hy
   exact ⟨a,mono y b⟩
  ·rw[List.mem_singleton.1 hy]
   refine ⟨hj,?_⟩
   rw[hset,if_pos rfl];omega
 ·obtain ⟨A,B,e,h1,h2⟩:=h.srt
  refine ⟨A,B++[j],by rw[e];simp,h1,fun y hy=>?_⟩
  rcases List.mem_append.1 hy with hy | hy
  ·exact h2 y hy
  ·rw[List.mem_singleton.1 hy];exact hdj
 ·rw[hset]at h1
  have hej:e≠j:=fun e1=>h2 (by rw[e1];simp)
  rw[if_neg hej]at h1
  exact mono g (h.done e he h1 (fun hm=>h2 (List.mem_append_left _ hm)) g hg h3)
theorem BfsP.upto {s:SysF} {f x y:Nat} {out:List Int} {Q:List Nat} (h:BfsP s f x (nbTo s x y) out Q):BfsIn s f x y out Q:=h.inn.at fun g hg ha=>h.got g (mem_nbTo.2 ⟨hg,ha⟩)
theorem BfsP.hit {s:SysF} {f x y:Nat} {out:List Int} {Q l:List Nat} (h:BfsP s f x l out Q) (hf:f<s.ex.length) (hy:y<s.ex.length) (ha:adjB s x y=true) (h0:nth out y<0):BfsP s f x (l++[y]) (out.set y (nth out x+1)) (Q++[y]):=by
 obtain ⟨h1,h2,h3⟩:=h.inn.hit hf hy ha h0
 refine ⟨h1,fun g hg=>?_⟩
 rcases List.mem_append.1 hg with hg | hg
 ·exact h2 g (h.got g hg)
 ·rw[List.mem_singleton.1 hg];exact h3
theorem BfsP.skip {s:SysF} {f x y:Nat} {out:List Int} {Q l:List Nat} (h:BfsP s f x l out Q) (h0:¬nth out y<0):BfsP s f x (l++[y]) out Q:=
 ⟨h.inn,fun g hg=>by
  rcases List.mem_append.1 hg with hg | hg
  ·exact h.got g hg
  ·rw[List.mem_singleton.1 hg];omega⟩
def BfsS (s:SysF) (f:Nat) (out:List Int) (Q:List Nat):Prop:=(Q=[]∧Far s f out)∨∃x R,Q=x::R∧BfsIn s f x 0 out Q
theorem BfsP.done {s:SysF} {f x:Nat} {out:List Int} {R l:List Nat} (h:BfsP s f x l out (x::R)) (hl:l=nbL s x):BfsS s f out R:=by
 subst hl
 have h2:BfsIn s f x s.ex.length out (x::R):=h.upto
 rcases h2.pop with ⟨e1,e2⟩ | ⟨y,R',e1,e2⟩
 ·exact .inl ⟨e1,e2⟩
 ·exact .inr ⟨y,R',e1,e2⟩
theorem BfsIn.few {s:SysF} {f x j:Nat} {out:List Int} {Q:List Nat} (h:BfsIn s f x j out Q) (hl:s.ex.length≤4096):∀e,e<s.ex.length→ -1≤nth out e∧nth out e<4096:=fun e he=>by
 have:=dst_bound f he
 rcases h.val e he with h1 | h1<;>omega
end Go.Proofs.YtaijafjfafbcfaaGreat
namespace Go.Proofs.YtaijafjfafbcfaaGreat
open Go.RowKit Go.Shelf
attribute [local go_sem ↓] Go.wp_at_zero Go.wp_at_succ
attribute [local go_sem] Oper.semAt_some
theorem TimV.ext {w w':World} {S S2:Nat→Prop} {xa:Option Addr} {xc:Nat} {xs:List ExecD} {e N K:Nat} {a2:Option Addr} {c2:Nat} {ch:List Int} (h:TimV w S S2 xa xc xs e N K a2 c2 ch) (hw:Below w.heap.size w w'):TimV w' S S2 xa xc xs e N K a2 c2 ch:=
 ⟨h.ex.ext hw,h.lt,h.len,h.rows,h.vw,h.rule.ext hw,h.N5,h.K6⟩
end Go.Proofs.YtaijafjfafbcfaaGreat
namespace Go.Proofs.YtaijafjfafbcfaaGreat
open Go.RowKit Go.Shelf
attribute [local go_sem ↓] Go.wp_at_zero Go.wp_at_succ
attribute [local go_sem] Oper.semAt_some
end Go.Proofs.YtaijafjfafbcfaaGreat
