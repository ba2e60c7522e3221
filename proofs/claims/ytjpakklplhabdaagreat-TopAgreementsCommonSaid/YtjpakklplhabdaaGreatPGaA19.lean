/- Part of the proof that the laws answer true for every input. -/
import Derived.Test.YtjpakklplhabdaaGreatPGaA18
set_option linter.unusedSimpArgs false
set_option linter.unnecessarySimpa false
set_option linter.unusedVariables false
set_option maxRecDepth 100000
set_option maxHeartbeats 40000000
namespace Go.Proofs.YtjpakklplhabdaaGreat
open Go.RowKit
attribute [local go_sem ↓] Go.wp_at_zero Go.wp_at_succ
abbrev kWord:Kd (List (List Int)):=kSl (kFlat 7)
theorem qE:(Tryz.prog.info? 67).map (fun i=>(i.zero,i.size,i.bytes))=some (some (.agg #[.int .i64 0,.int .i64 0,.int .i64 0,.int .i64 0,.int .i64 0,.int .i64 0,.int .i64 0]),7,56):=by kernel_rfl
theorem xD:(Tryz.prog.info? 46).map (fun i=>(i.zero,i.size,i.bytes))=some (some (.slice none 0 0),1,24):=by kernel_rfl
def wordsTo (st:Moves) (k s i:Nat):List (List (List Int)):=((nthM st s).take i).flatMap fun m=>(wordsD st k (nth m 7).toNat).map fun w=>m.take 7::w
theorem Qq (st:Moves) (k s:Nat):wordsTo st k s 0=[]:=rfl
theorem qX (st:Moves) (k s:Nat):wordsTo st k s (nthM st s).length=wordsD st (k+1) s:=by unfold wordsTo;rw[List.take_length];rfl
theorem xQ {st:Moves} {k s i:Nat} (h:i<(nthM st s).length):wordsTo st k s (i+1)=wordsTo st k s i++(wordsD st k (nth (nthL (nthM st s) i) 7).toNat).map fun w=>(nthL (nthM st s) i).take 7::w:=by
 unfold wordsTo;rw[yP h,List.flatMap_append];simp
theorem ZH {st:Moves} {k s:Nat} (i:Nat):(wordsTo st k s i).length≤cntW st (k+1) s:=by
 rw[←zS,←qX]
 unfold wordsTo
 rw[List.take_length]
 have h:(nthM st s)=(nthM st s).take i++(nthM st s).drop i:=(List.take_append_drop i _).symm
 conv=>rhs;rw[h,List.flatMap_append,List.length_append]
 omega
theorem take7 {m:List Int} (h:m.length=8):m.take 7=[nth m 0,nth m 1,nth m 2,nth m 3,nth m 4,nth m 5,nth m 6]:=by
 match m,h with
 | [a,b,c,d,e,f,g,i],_=>rfl
theorem zcc {st:Moves} {k s i:Nat} (h:i<(nthM st s).length):cntW st k (nth (nthL (nthM st s) i) 7).toNat≤cntW st (k+1) s:=by
 have le_sum:∀(l:List Nat) (x:Nat),x∈l→x≤l.sum:=by
  intro l
  induction l with
  | nil=>intro x hx;cases hx
  | cons y r ih=>
   intro x hx
   rw[List.sum_cons]
   rcases List.mem_cons.1 hx with rfl | hx
   ·omega
   ·have:=ih x hx;omega
 rw[zM h]
 exact le_sum _ _ (List.mem_map.2 ⟨_,List.getElem_mem h,rfl⟩)
def nthW (l:List (List (List Int))) (j:Nat):List (List Int):=l.getD j []
theorem qt {l:List (List (List Int))} {j:Nat} (h:j<l.length):nthW l j=l[j]:=by simp[nthW,h]
theorem Sl.word {S:Nat→Prop} {w W:World} {a:Option Addr} {m cap:Nat} {l:List (List (List Int))} (h:Sl kWord S w (.slice a m cap) l) (hb:Agree S w W) {k:Nat} (hk:k<l.length):
  ∃b c,W.cell? (adr a k)=some (.slice b (nthW l k).length c)∧Sl (kFlat 7) S W (.slice b (nthW l k).length c) (nthW l k):=by
 obtain ⟨v,h1,h2⟩:=(h.agree hb).row hk
 rw[←qt hk]at h2
 obtain ⟨b,c,rfl,_⟩:=h2.form
 exact ⟨b,c,h1,h2⟩
theorem Sl.idxW {S:Nat→Prop} {w:World} {a:Option Addr} {m cap:Nat} {l:List (List (List Int))} (h:Sl kWord S w (.slice a m cap) l):
  Hid (∀k:Nat,k<l.length→∀W:World,(Instr.indexAt 90 (.slice a l.length cap) (.int .i64 k)).run Tryz.prog W=.ok (.pointer (some (adr a k))) W):=by
 obtain ⟨i,hi,_,h1,_⟩:=info_parts xD
 exact zhd (zz Tryz.underlying90 hi h1 h.ad.1)
theorem rd7 {m:List Int} (h:m.length=8) (hw:∀x∈m,WF x) (S:Nat→Prop) (w:World):(kFlat 7).rd S w [.int .i64 (nth m 0),.int .i64 (nth m 1),.int .i64 (nth m 2),.int .i64 (nth m 3),.int .i64 (nth m 4),.int .i64 (nth m 5),.int .i64 (nth m 6)] (m.take 7):=
 ⟨by simp[h],by rw[take7 h];rfl,fun x hx=>hw x (List.mem_of_mem_take hx)⟩
theorem Yh:∀(k:Nat) {S:Nat→Prop} {w:World} {vs:Value} {st:Moves} (n:Int) (hs:Sl (kSl (kFlat 8)) S w vs st) (hok:MovesOK n st) (hl:st.length≤1000) (s:Nat) (hsl:s<st.length) (hk:k≤6) (hc:cntW st k s≤100000),
  Calls Tryz.prog 106 #[.agg #[.int .i64 n,vs],.int .i64 s,.int .i64 k] w (Post w fun w' r=>Sl kWord (fun b=>w.heap.size≤b) w' r (wordsD st k s))
 | 0,S,w,vs,st,n,hs,hok,hl,s,hsl,hk,hc=>by
  obtain ⟨sa,sc,rfl,hm⟩:=hs.addr
  clear hs hok
  have exb:=zg (zb w (.cells #[.int .i64 n,.slice sa st.length sc] 27)) (.cells #[.slice none 0 0] 46)
  have R:=ze (w.alloc (.cells #[.int .i64 n,.slice sa st.length sc] 27)) [.slice none 0 0] 46
  go_enter Tryz.func106,Tryz.ntmps106
  go_wp2
  go_ret
  rw[World.size_alloc]at R
  refine .mk exb ⟨_,_,rfl,.inr ⟨_,0,rfl,R.lt,by simp⟩,Nat.le_refl _,⟨by simp[wordsD,maxLen],by simp[wordsD]⟩,fun j hj=>⟨[.slice none 0 0],fun i hi=>?_,.slice none 0 0,rfl,?_⟩⟩
  ·obtain rfl:j=0:=by simp[wordsD]at hj;omega
   obtain rfl:i=0:=by have:kWord.size=1:=rfl;omega
   have:=R.zc 0 rfl
   simpa[adr] using this
  ·obtain rfl:j=0:=by simp[wordsD]at hj;omega
   exact Sl.nil _ _ _
 | k+1,S,w,vs,st,n,hs,hok,hl,s,hsl,hk,hc=>by
  have IH:=zhd fun W (hW:Below w.heap.size w W) to (h1:to<st.length) (h2:cntW st k to≤100000)=>Yh k n (hs.ext hW) hok hl to h1 (by omega) h2
  obtain ⟨sa,sc,rfl,hm⟩:=hs.addr
  have Q:=hs.idxS.out s hsl
  have HROW:Hid (∀W,Below w.heap.size w W→∃b c,W.cell? (adr sa s)=some (.slice b (nthM st s).length c)∧Sl (kFlat 8) S W (.slice b (nthM st s).length c) (nthM st s)):=zhd fun W hW=>hs.mrow hW hsl
  have HTO:=zhd (hok s hsl).2
  have hrl:(nthM st s).length≤140737488355328:=hs.rows_few s hsl
  have HNX:=zhd fun i (h:i<(nthM st s).length)=>xQ (k:=k) h
  have HAL:=zhd (qX st k s)
  have HCP:=zhd fun i (h:i<(nthM st s).length)=>Nat.le_trans (zcc (k:=k) h) hc
  have HLN:=zhd fun i=>Nat.le_trans (ZH (st:=st) (k:=k) (s:=s) i) hc
  have HBK:=zhd (hs.ad.1)
  obtain ⟨row,hrow⟩:∃row,row=nthM st s:=⟨_,rfl⟩
  rw[←hrow]at HROW HTO hrl HNX HAL HCP
  clear hs hok hrow hc
  have ex:=zb w (.cells #[.int .i64 n,.slice sa st.length sc] 27)
  have R:Row (w.alloc (.cells #[.int .i64 n,.slice sa st.length sc] 27)) w.heap.size 27 [.int .i64 n,.slice sa st.length sc]:=ze w [_,_] _
  have HO0:=zhd (OwnK.nil kWord 46 (w.heap.size+1) (fun b=>w.heap.size+1≤b) (w.alloc (.cells #[.int .i64 n,.slice sa st.length sc] 27)))
  have w1':IntKind.i64.wrap (((k+1:Nat):Int) - 1)=(k:Int):=by rw[IntKind.wrap_i64];omega
  have w2':(((k+1:Nat):Int)==0)=false:=by simp;omega
  have w3':decide (((k+1:Nat):Int)=0)=false:=by simp;omega
  obtain ⟨k1,hk1⟩:∃k1:Int,k1=((k+1:Nat):Int):=⟨_,rfl⟩
  rw[←hk1]at w1' w2' w3' ⊢
  have w4':¬k1=0:=by omega
  clear hk1
  go_enter Tryz.func106,Tryz.ntmps106
  go_wp2
  go_loopw [7,8,9,10,11,12] (fun v i _ _ _ _ wr=>∃i':Nat,i'≤row.length∧i=.int .i64 i'∧Below w.heap.size w wr∧Row wr w.heap.size 27 [.int .i64 n,.slice sa st.length sc]∧∃a c,v=.slice a (wordsTo st k s i').length c∧Hid (OwnK kWord 46 (w.heap.size+1) (fun b=>w.heap.size+1≤b) wr (.slice a (wordsTo st k s i').length c) (wordsTo st k s i'))) (fun _ i _ _ _ _ _=>row.length - (intOf i).toNat)
  case atStart=>exact ⟨0,Nat.zero_le _,rfl,ex,R,none,0,rfl,HO0⟩
  case round=>
   clear ex R HO0
   obtain ⟨i,hi,rfl,hb,R,va,vc,rfl,HO⟩:=hrel
   have t1:=R.zc 1 rfl
   obtain ⟨b,c,cu,hrow⟩:=HROW.out wr hb
   by_cases hit:i<row.length
   case neg=>
    obtain rfl:i=row.length:=by omega
    have hfew:=HLN.out row.length
    have HF:=zhd (HO.out.sl (by omega))
    go_wp2
    go_ret
    refine .mk hb ?_
    rw[←HAL.out]
    exact HF.out.mono fun b hb=>by rcases hb with h | h<;>omega
   have QM:=hrow.idxM.out i hit
   have hz:=hrow.nums hit (by decide)
   have hlen8:=(hrow.num hit).1
   have hwf8:=(hrow.num hit).2.1
   have z0:=hz.1
   have z1:=hz.2 1 (by decide)
   have z2:=hz.2 2 (by decide)
   have z3:=hz.2 3 (by decide)
   have z4:=hz.2 4 (by decide)
   have z5:=hz.2 5 (by decide)
   have z6:=hz.2 6 (by decide)
   have z7:=hz.2 7 (by decide)
   have hbk:=zI hrow.ad.1 (by omega) (i * 8)
   obtain ⟨_,_,hto1,hto2⟩:=HTO.out i hit
   have HN:=zhd (HNX.out i hit)
   have HC:=HCP.out i hit
   obtain ⟨m,hm'⟩:∃m,m=nthL row i:=⟨_,rfl⟩
   rw[←hm']at z0 z1 z2 z3 z4 z5 z6 z7 hlen8 hwf8 hto1 hto2 HN HC
   obtain ⟨to,hto⟩:∃t:Nat,nth m 7=t:=⟨(nth m 7).toNat,by omega⟩
   have HRD:=zhd (rd7 hlen8 hwf8)
   have HT7:=zhd (take7 hlen8)
   rw[hto,Int.toNat_natCast]at HN HC
   have htl:to<st.length:=by omega
   have HTO7:=zhd hto
   have RM:=ze wr [.int .i64 (nth m 0),.int .i64 (nth m 1),.int .i64 (nth m 2),.int .i64 (nth m 3),.int .i64 (nth m 4),.int .i64 (nth m 5),.int .i64 (nth m 6),.int .i64 (nth m 7)] 69
   have ex2:=zg hb (.cells #[.int .i64 (nth m 0),.int .i64 (nth m 1),.int .i64 (nth m 2),.int .i64 (nth m 3),.int .i64 (nth m 4),.int .i64 (nth m 5),.int .i64 (nth m 6),.int .i64 (nth m 7)] 69)
   have R2:=R.alloc (.cells #[.int .i64 (nth m 0),.int .i64 (nth m 1),.int .i64 (nth m 2),.int .i64 (nth m 3),.int .i64 (nth m 4),.int .i64 (nth m 5),.int .i64 (nth m 6),.int .i64 (nth m 7)] 69)
   have HO2:=zhd (HO.out.ext (zb wr (.cells #[.int .i64 (nth m 0),.int .i64 (nth m 1),.int .i64 (nth m 2),.int .i64 (nth m 3),.int .i64 (nth m 4),.int .i64 (nth m 5),.int .i64 (nth m 6),.int .i64 (nth m 7)] 69)))
   have KF:=zhd (IH.out _ ex2 to htl HC)
   rw[←hto]at KF
   have hown:=HO.out.lt
   have hRl:=R.lt
   have m7:(wr.alloc (.cells #[.int .i64 (nth m 0),.int .i64 (nth m 1),.int .i64 (nth m 2),.int .i64 (nth m 3),.int .i64 (nth m 4),.int .i64 (nth m 5),.int .i64 (nth m 6),.int .i64 (nth m 7)] 69)).cell? ⟨wr.heap.size,7,none⟩=some (.int .i64 (nth m 7)):=RM.zc 7 rfl
   have t0':=R2.zc 0 rfl
   have t1':=R2.zc 1 rfl
   clear hz hm' hto hto1 hto2 hrow hb R HO
   go_wp2_with fail
   refine KF.out.mono ?_
   rintro _ w2 ⟨rv,rfl,hb2,hrs⟩
   obtain ⟨ra,rc,rfl,_,_,_,rfew⟩:=hrs.form2
   rw[World.size_alloc]at hrs
   have HRS:=zhd hrs.block
   have QW:=hrs.idxW
   have hw2:=hb2.size
   rw[World.size_alloc]at hw2
   have R3:=R2.ext hb2
   have RM3:=RM.ext hb2
   have ex3:=za ex2 hb2
   have HO3:=zhd (HO2.out.ext hb2)
   obtain ⟨W,hW⟩:∃W,W=wordsD st k to:=⟨_,rfl⟩
   have HWL:Hid (∀j,j<W.length→(nthW W j).length≤6):=zhd fun j hj=>by
    have:=qA st k to (nthW W j) (by rw[←hW,qt hj];exact List.getElem_mem hj)
    omega
   obtain ⟨acc,hacc⟩:∃acc:Nat→List (List (List Int)),acc=fun j=>wordsTo st k s i++(W.take j).map fun x=>m.take 7::x:=⟨_,rfl⟩
   have HA0:Hid (acc 0=wordsTo st k s i):=zhd (by rw[hacc];simp)
   have HAE:Hid (acc W.length=wordsTo st k s (i+1)):=zhd (by rw[hacc,HN.out,←hW];simp)
   have HAN:Hid (∀j,j<W.length→acc (j+1)=acc j++[m.take 7::nthW W j]):=zhd fun j hj=>by
    rw[hacc]
    dsimp only
    rw[←List.take_append_getElem hj,List.map_append,qt hj,List.append_assoc]
    rfl
   have HAF:Hid (∀j,j≤W.length→(acc j).length≤100000):=zhd fun j hj=>by
    have h1:=HLN.out (i+1)
    rw[←HAE.out,hacc]at h1
    rw[hacc]
    simp only[List.length_append,List.length_map,List.length_take]at h1 ⊢
    omega
   rw[←hW]at HRS QW rfew ⊢
   rw[←HA0.out]at HO3 ⊢
   obtain ⟨MB,hMB⟩:∃MB,MB=wr.heap.size:=⟨_,rfl⟩
   have hne:∀g,(Value.slice va (acc 0).length vc).ownBlock=some g→¬(fun b=>b=MB∨(MB+1≤b∧b<w2.heap.size)) g:=fun g hg hp=>by
    have h1:=hown g (by rw[←hg,HA0.out])
    rcases hp with h | h<;>omega
   rw[←hMB]at hw2 HRS RM3 ⊢
   clear R2 RM ex2 HO2 hb2 KF hown hRl hrs hW hacc m7 t0' t1' t1 cu z0 z1 z2 z3 z4 z5 z6 z7 QM hbk hMB
   go_wp2
   go_loopw [7,11,12] (fun v i _ wr=>∃j:Nat,j≤W.length∧i=.int .i64 j∧Below w.heap.size w wr∧Row wr w.heap.size 27 [.int .i64 n,.slice sa st.length sc]∧Row wr MB 69 [.int .i64 (nth m 0),.int .i64 (nth m 1),.int .i64 (nth m 2),.int .i64 (nth m 3),.int .i64 (nth m 4),.int .i64 (nth m 5),.int .i64 (nth m 6),.int .i64 (nth m 7)]∧Agree (fun b=>b=MB∨(MB+1≤b∧b<w2.heap.size)) w2 wr∧∃a c,v=.slice a (acc j).length c∧Hid (OwnK kWord 46 (w.heap.size+1) (fun b=>w.heap.size+1≤b) wr (.slice a (acc j).length c) (acc j))∧(∀g,(Value.slice a (acc j).length c).ownBlock=some g→¬(fun b=>b=MB∨(MB+1≤b∧b<w2.heap.size)) g)) (fun _ i _ _=>W.length - (intOf i).toNat)
   case atStart=>exact ⟨0,Nat.zero_le _,rfl,ex3,R3,RM3,.refl _ _,va,vc,rfl,HO3,hne⟩
   case round=>
    clear R3 RM3 ex3 HO3 hne
    obtain ⟨j,hj,rfl,hb,R,RM,hag,va,vc,rfl,HO,hne⟩:=hrel
    by_cases hjt:j<W.length
    case neg=>
     obtain rfl:j=W.length:=by omega
     rw[HAE.out]at HO ⊢
     go_wp2
     go_roundw
     case rel=>exact ⟨i+1,by omega,by go_num,hb,R,va,vc,rfl,HO⟩
     case measure=>simp[intOf];omega
    have qw:=QW.out j hjt
    obtain ⟨b2,c2,cu2,hw⟩:=HRS.out.word (hag.mono fun b hb=>.inr ⟨hb.1,hb.2⟩) hjt
    obtain ⟨news,hnl,hnc,hnp,hno⟩:=hw.parts
    have hle6:=HWL.out j hjt
    have hrow1:=ze wr [.int .i64 (nth m 0),.int .i64 (nth m 1),.int .i64 (nth m 2),.int .i64 (nth m 3),.int .i64 (nth m 4),.int .i64 (nth m 5),.int .i64 (nth m 6)] 67
    have hadd:=hw.ad.1
    have hbk2:=World.block_lt_of_cell? _ _ cu2
    have OW:=zhd (hrow1.ownsW (base:=wr.heap.size) (z:=7) (n:=1) (Nat.le_refl _) rfl (by simp[maxLen]))
    have had:=zhd ((hadd.mono (S':=fun _=>True) fun _ _=>trivial).agree (w':=wr.alloc (.cells #[.int .i64 (nth m 0),.int .i64 (nth m 1),.int .i64 (nth m 2),.int .i64 (nth m 3),.int .i64 (nth m 4),.int .i64 (nth m 5),.int .i64 (nth m 6)] 67)) (.of_ext (zb _ _)))
    have hnc:Hid (∀q,q<(nthW W j).length * 7→(wr.alloc (.cells #[.int .i64 (nth m 0),.int .i64 (nth m 1),.int .i64 (nth m 2),.int .i64 (nth m 3),.int .i64 (nth m 4),.int .i64 (nth m 5),.int .i64 (nth m 6)] 67)).cell? (adr b2 q)=some (news.getD q undef)):=zhd fun q hq=>zm (hnc q hq) (zb _ _)
    have hnl:=zhd hnl
    have hno:=zhd hno
    have hwN:w.heap.size+1≤wr.heap.size:=R.lt
    have hol:=HO.out.lt
    have HY:Hid (∀v5 w5,w5.ownsRow wr.heap.size 67 7 v5 (1+(nthW W j).length) ([.int .i64 (nth m 0),.int .i64 (nth m 1),.int .i64 (nth m 2),.int .i64 (nth m 3),.int .i64 (nth m 4),.int .i64 (nth m 5),.int .i64 (nth m 6)]++news)→Below wr.heap.size (wr.alloc (.cells #[.int .i64 (nth m 0),.int .i64 (nth m 1),.int .i64 (nth m 2),.int .i64 (nth m 3),.int .i64 (nth m 4),.int .i64 (nth m 5),.int .i64 (nth m 6)] 67)) w5→kWord.rd (fun b=>w.heap.size+1≤b∧(Value.slice va (acc j).length vc).ownBlock≠some b) w5 [v5] (m.take 7::nthW W j)):=zhd fun v5 w5 ho hb5=>by
     refine ⟨v5,rfl,?_⟩
     have hK:OwnK (kFlat 7) 67 wr.heap.size (fun _=>False) w5 v5 (m.take 7::nthW W j):=OwnK.cons (by rw[Nat.add_comm];exact ho) (HRD.out _ _) fun q hq=>by
      have:=hnp q hq
      exact this
     refine (hK.sl (by simp;omega)).mono fun b hb=>?_
     rcases hb with h | h
     ·exact h.elim
     ·exact ⟨by omega,fun e=>by have:=(hol b e).2;omega⟩
    have HBY:Hid (((acc j).length+1) * 24≤140737488355328):=zhd (by have:=HAF.out j hj;omega)
    have HBN:Hid ((acc j).length<9223372036854775807):=zhd (by have:=HAF.out j hj;omega)
    have m0:=RM.zc 0 rfl
    have m1:=RM.zc 1 rfl
    have m2:=RM.zc 2 rfl
    have m3:=RM.zc 3 rfl
    have m4:=RM.zc 4 rfl
    have m5:=RM.zc 5 rfl
    have m6:=RM.zc 6 rfl
    have hMl:=RM.lt
    clear hrow1 hadd hol hw hnp
    go_wp2_with (first | (at_builtin;refine ya rfl (.tmp 50) (.tmp 54) 46 rfl 67 _ 7 56 Tryz.underlying46 qE rfl (by decide) wr.heap.size _ 1 [.int .i64 (nth m 0),.int .i64 (nth m 1),.int .i64 (nth m 2),.int .i64 (nth m 3),.int .i64 (nth m 4),.int .i64 (nth m 5),.int .i64 (nth m 6)] rfl OW.out (fun _=>True) b2 (nthW W j).length c2 news rfl had.out hnl.out hnc.out hno.out (by omega) (by omega) (by simp) ?_;intro v5 w5 ho5 hb5 hag5 hv5;have hB5:=(zb wr (.cells #[.int .i64 (nth m 0),.int .i64 (nth m 1),.int .i64 (nth m 2),.int .i64 (nth m 3),.int .i64 (nth m 4),.int .i64 (nth m 5),.int .i64 (nth m 6)] 67)).trans hb5;have HO5:=zhd (HO.out.ext hB5);have hY5:=HY.out v5 w5 ho5 hb5;have hs5:=hB5.size;obtain ⟨g5,c5,rfl⟩:=Zg ho5 (by omega);have HY5:=zhd hY5;clear ho5 hag5 hv5 hY5) | (at_builtin;refine yF (K:=kWord) (v:=.slice va (acc j).length vc) (l:=acc j) (S:=fun b=>w.heap.size+1≤b) (base:=w.heap.size+1) rfl (.tmp 49) (.tmp 56) 90 rfl 46 _ 24 Tryz.underlying90 xD rfl (by decide) rfl HO5.out (cs:=[.slice (some ⟨g5,0,none⟩) (1+(nthW W j).length) c5]) rfl HY5.out HBY.out HBN.out (by omega) ?_;intro g6 c6 w6 ho6 hb6 hag6 hg6))
    have hagP:=hag6 (fun b=>b=MB∨(MB+1≤b∧b<w2.heap.size)) hne
    have HLE:Hid ((acc (j+1)).length=(acc j).length+1):=zhd (by rw[HAN.out j hjt,List.length_append];rfl)
    have HO6:Hid (OwnK kWord 46 (w.heap.size+1) (fun b=>w.heap.size+1≤b) w6 (.slice (some ⟨g6,0,none⟩) (acc (j+1)).length c6) (acc (j+1))):=zhd (by rw[HLE.out,HAN.out j hjt];exact ho6)
    have hne6:∀g,(Value.slice (some ⟨g6,0,none⟩) (acc (j+1)).length c6).ownBlock=some g→¬(fun b=>b=MB∨(MB+1≤b∧b<w2.heap.size)) g:=fun g hg hp=>by
     have e3:g6=g:=by simpa[Value.ownBlock] using hg
     subst e3
     rcases hg6 with h | h
     ·exact hne _ h hp
     ·have:=hag.size
      rcases hp with h1 | h1<;>omega
    have hb9:=hb.trans ((hB5.mono (by omega)).trans (hb6.mono (Nat.le_succ _)))
    have R9:=Y1 (R.ext hB5) hb6
    have RM9:=(RM.ext hB5).agree hagP (.inl rfl)
    have hag9:=hag.trans ((Agree.of_ext hB5).trans hagP)
    clear hag6 ho6 hg6 hb6 HO HO5 R RM hag hB5
    go_wp2
    go_roundw
    case rel=>exact ⟨j+1,by omega,by go_num,hb9,R9,RM9,hag9,_,_,(by rw[HLE.out]),HO6,hne6⟩
    case measure=>simp[intOf];omega
theorem yw:(Tryz.prog.info? 62).map (fun i=>(i.zero,i.size,i.bytes))=some (some (.agg #[.slice none 0 0,.slice none 0 0,.slice none 0 0]),3,72):=by kernel_rfl
theorem za8:(Tryz.prog.info? 69).map (fun i=>(i.zero,i.size,i.bytes))=some (some (.agg #[.int .i64 0,.int .i64 0,.int .i64 0,.int .i64 0,.int .i64 0,.int .i64 0,.int .i64 0,.int .i64 0]),8,64):=by kernel_rfl
theorem xV {S:Nat→Prop} {w:World} {v:Value} {l:List (List Int)} (h:Sl (kFlat 7) S w v l) (hn:l.length≤1000000):
  Calls Tryz.prog 32 #[v] w (Post w fun w' r=>OwnK (kFlat 7) 67 w.heap.size (fun b=>S b∧b<w.heap.size) w' r l):=by
 obtain ⟨a,cap,rfl,ad,l1,l2,l3⟩:=h.form2
 cases a with
 | none=>
  have h0:l.length=0∧cap=0:=by
   rcases ad with h | ⟨b,off,e,_⟩
   ·exact h
   ·cases e
  obtain ⟨h0,rfl⟩:=h0
  obtain rfl:l=[]:=List.length_eq_zero_iff.1 h0
  clear h ad l1 l2 l3 h0
  have hn1:=@Lib.run_eql_slice_nil Tryz.prog w 46 67 none 0 0 0 0 Tryz.underlying46
  go_enter Tryz.func32,Tryz.ntmps32
  go_wp2
  go_ret
  exact .mk (.refl _ _) (OwnK.nil _ _ _ _ _)
 | some x=>
  have ex:=zb w (.cells #[] 67)
  have hown0:=(ze w [] 67).ownsW (base:=w.heap.size) (z:=7) (n:=0) (Nat.le_refl _) rfl (by simp[maxLen])
  have OW:=zhd hown0
  obtain ⟨xs,x1,x2,x3,x4⟩:=h.block.parts
  have X1:=zhd x1
  have X3:=zhd x3
  have X4:=zhd x4
  have AD:=zhd (ad.agree (.of_ext ex))
  have X2:Hid (∀j,j<l.length * 7→(w.alloc (.cells #[] 67)).cell? (adr (some x) j)=some (xs.getD j undef)):=zhd fun j hj=>zm (x2 j hj) ex
  have B1:Hid ((0+l.length) * 56≤140737488355328):=zhd (by omega)
  clear hown0 h ad x1 x2 x3 x4
  have hn1:=@Lib.run_eql_slice_nil Tryz.prog w 46 67 (some x) l.length cap 0 0 Tryz.underlying46
  go_enter Tryz.func32,Tryz.ntmps32
  go_wp2_with (at_builtin;refine ya rfl (.tmp 5) (.tmp 6) 46 rfl 67 _ 7 56 Tryz.underlying46 qE rfl (by decide) w.heap.size (.slice (some ⟨w.heap.size,0,none⟩) 0 0) 0 [] rfl OW.out S (some x) l.length cap xs rfl AD.out X1.out X2.out X4.out B1.out (by omega) (by simp) ?_;intro v3 w3 hown3 hb3 hag3 hv3)
  rw[Nat.zero_add,List.nil_append]at hown3
  have hbb:Below w.heap.size w w3:=ex.trans hb3
  have HO:=zhd hown3
  have hlt3:=hown3.lt
  clear hown3 hag3 hv3 hb3
  go_wp2
  go_ret
  refine .mk hbb ⟨xs,HO.out,fun j hj=>?_⟩
  exact Kd.mono _ (Kd.agree _ (X3.out j hj) (.of_ext hbb)) fun b hb=>⟨hb,fun e=>by have:=(hlt3 b e).1;omega⟩
theorem XB {S:Nat→Prop} {w:World} {v:Value} {l:List CaseD} (h:Sl kCase S w v l) (hn:l.length≤1000000):
  Calls Tryz.prog 58 #[v] w (Post w fun w' r=>OwnK kCase 62 w.heap.size (fun b=>S b∧b<w.heap.size) w' r l):=by
 obtain ⟨a,cap,rfl,ad,l1,l2,l3⟩:=h.form2
 cases a with
 | none=>
  have h0:l.length=0∧cap=0:=by
   rcases ad with h | ⟨b,off,e,_⟩
   ·exact h
   ·cases e
  obtain ⟨h0,rfl⟩:=h0
  obtain rfl:l=[]:=List.length_eq_zero_iff.1 h0
  clear h ad l1 l2 l3 h0
  have hn1:=@Lib.run_eql_slice_nil Tryz.prog w 22 62 none 0 0 0 0 Tryz.underlying22
  go_enter Tryz.func58,Tryz.ntmps58
  go_wp2
  go_ret
  exact .mk (.refl _ _) (OwnK.nil _ _ _ _ _)
 | some x=>
  have ex:=zb w (.cells #[] 62)
  have hown0:=(ze w [] 62).ownsW (base:=w.heap.size) (z:=3) (n:=0) (Nat.le_refl _) rfl (by simp[maxLen])
  have OW:=zhd hown0
  obtain ⟨xs,x1,x2,x3,x4⟩:=h.block.parts
  have X1:=zhd x1
  have X3:=zhd x3
  have X4:=zhd x4
  have AD:=zhd (ad.agree (.of_ext ex))
  have X2:Hid (∀j,j<l.length * 3→(w.alloc (.cells #[] 62)).cell? (adr (some x) j)=some (xs.getD j undef)):=zhd fun j hj=>zm (x2 j hj) ex
  have B1:Hid ((0+l.length) * 72≤140737488355328):=zhd (by omega)
  clear hown0 h ad x1 x2 x3 x4
  have hn1:=@Lib.run_eql_slice_nil Tryz.prog w 22 62 (some x) l.length cap 0 0 Tryz.underlying22
  go_enter Tryz.func58,Tryz.ntmps58
  go_wp2_with (at_builtin;refine ya rfl (.tmp 5) (.tmp 6) 22 rfl 62 _ 3 72 Tryz.underlying22 yw rfl (by decide) w.heap.size (.slice (some ⟨w.heap.size,0,none⟩) 0 0) 0 [] rfl OW.out S (some x) l.length cap xs rfl AD.out X1.out X2.out X4.out B1.out (by omega) (by simp) ?_;intro v3 w3 hown3 hb3 hag3 hv3)
  rw[Nat.zero_add,List.nil_append]at hown3
  have hbb:Below w.heap.size w w3:=ex.trans hb3
  have HO:=zhd hown3
  have hlt3:=hown3.lt
  clear hown3 hag3 hv3 hb3
  go_wp2
  go_ret
  refine .mk hbb ⟨xs,HO.out,fun j hj=>?_⟩
  exact Kd.mono _ (Kd.agree _ (X3.out j hj) (.of_ext hbb)) fun b hb=>⟨hb,fun e=>by have:=(hlt3 b e).1;omega⟩
theorem XA {S:Nat→Prop} {w:World} {v:Value} {l:Moves} (h:Sl (kSl (kFlat 8)) S w v l) (hn:l.length≤1000000):
  Calls Tryz.prog 61 #[v] w (Post w fun w' r=>OwnK (kSl (kFlat 8)) 70 w.heap.size (fun b=>S b∧b<w.heap.size) w' r l):=by
 obtain ⟨a,cap,rfl,ad,l1,l2,l3⟩:=h.form2
 cases a with
 | none=>
  have h0:l.length=0∧cap=0:=by
   rcases ad with h | ⟨b,off,e,_⟩
   ·exact h
   ·cases e
  obtain ⟨h0,rfl⟩:=h0
  obtain rfl:l=[]:=List.length_eq_zero_iff.1 h0
  clear h ad l1 l2 l3 h0
  have hn1:=@Lib.run_eql_slice_nil Tryz.prog w 25 70 none 0 0 0 0 Tryz.underlying25
  go_enter Tryz.func61,Tryz.ntmps61
  go_wp2
  go_ret
  exact .mk (.refl _ _) (OwnK.nil _ _ _ _ _)
 | some x=>
  have ex:=zb w (.cells #[] 70)
  have hown0:=(ze w [] 70).ownsW (base:=w.heap.size) (z:=1) (n:=0) (Nat.le_refl _) rfl (by simp[maxLen])
  have OW:=zhd hown0
  obtain ⟨xs,x1,x2,x3,x4⟩:=h.block.parts
  have X1:=zhd x1
  have X3:=zhd x3
  have X4:=zhd x4
  have AD:=zhd (ad.agree (.of_ext ex))
  have X2:Hid (∀j,j<l.length * 1→(w.alloc (.cells #[] 70)).cell? (adr (some x) j)=some (xs.getD j undef)):=zhd fun j hj=>zm (x2 j hj) ex
  have B1:Hid ((0+l.length) * 24≤140737488355328):=zhd (by omega)
  clear hown0 h ad x1 x2 x3 x4
  have hn1:=@Lib.run_eql_slice_nil Tryz.prog w 25 70 (some x) l.length cap 0 0 Tryz.underlying25
  go_enter Tryz.func61,Tryz.ntmps61
  go_wp2_with (at_builtin;refine ya rfl (.tmp 5) (.tmp 6) 25 rfl 70 _ 1 24 Tryz.underlying25 ZM rfl (by decide) w.heap.size (.slice (some ⟨w.heap.size,0,none⟩) 0 0) 0 [] rfl OW.out S (some x) l.length cap xs rfl AD.out X1.out X2.out X4.out B1.out (by omega) (by simp) ?_;intro v3 w3 hown3 hb3 hag3 hv3)
  rw[Nat.zero_add,List.nil_append]at hown3
  have hbb:Below w.heap.size w w3:=ex.trans hb3
  have HO:=zhd hown3
  have hlt3:=hown3.lt
  clear hown3 hag3 hv3 hb3
  go_wp2
  go_ret
  refine .mk hbb ⟨xs,HO.out,fun j hj=>?_⟩
  exact Kd.mono _ (Kd.agree _ (X3.out j hj) (.of_ext hbb)) fun b hb=>⟨hb,fun e=>by have:=(hlt3 b e).1;omega⟩
theorem Qo {S:Nat→Prop} {w:World} {v:Value} {l:List (List Int)} (h:Sl (kFlat 8) S w v l) (hn:l.length≤1000000):
  Calls Tryz.prog 62 #[v] w (Post w fun w' r=>OwnK (kFlat 8) 69 w.heap.size (fun b=>S b∧b<w.heap.size) w' r l):=by
 obtain ⟨a,cap,rfl,ad,l1,l2,l3⟩:=h.form2
 cases a with
 | none=>
  have h0:l.length=0∧cap=0:=by
   rcases ad with h | ⟨b,off,e,_⟩
   ·exact h
   ·cases e
  obtain ⟨h0,rfl⟩:=h0
  obtain rfl:l=[]:=List.length_eq_zero_iff.1 h0
  clear h ad l1 l2 l3 h0
  have hn1:=@Lib.run_eql_slice_nil Tryz.prog w 70 69 none 0 0 0 0 Tryz.underlying70
  go_enter Tryz.func62,Tryz.ntmps62
  go_wp2
  go_ret
  exact .mk (.refl _ _) (OwnK.nil _ _ _ _ _)
 | some x=>
  have ex:=zb w (.cells #[] 69)
  have hown0:=(ze w [] 69).ownsW (base:=w.heap.size) (z:=8) (n:=0) (Nat.le_refl _) rfl (by simp[maxLen])
  have OW:=zhd hown0
  obtain ⟨xs,x1,x2,x3,x4⟩:=h.block.parts
  have X1:=zhd x1
  have X3:=zhd x3
  have X4:=zhd x4
  have AD:=zhd (ad.agree (.of_ext ex))
  have X2:Hid (∀j,j<l.length * 8→(w.alloc (.cells #[] 69)).cell? (adr (some x) j)=some (xs.getD j undef)):=zhd fun j hj=>zm (x2 j hj) ex
  have B1:Hid ((0+l.length) * 64≤140737488355328):=zhd (by omega)
  clear hown0 h ad x1 x2 x3 x4
  have hn1:=@Lib.run_eql_slice_nil Tryz.prog w 70 69 (some x) l.length cap 0 0 Tryz.underlying70
  go_enter Tryz.func62,Tryz.ntmps62
  go_wp2_with (at_builtin;refine ya rfl (.tmp 5) (.tmp 6) 70 rfl 69 _ 8 64 Tryz.underlying70 za8 rfl (by decide) w.heap.size (.slice (some ⟨w.heap.size,0,none⟩) 0 0) 0 [] rfl OW.out S (some x) l.length cap xs rfl AD.out X1.out X2.out X4.out B1.out (by omega) (by simp) ?_;intro v3 w3 hown3 hb3 hag3 hv3)
  rw[Nat.zero_add,List.nil_append]at hown3
  have hbb:Below w.heap.size w w3:=ex.trans hb3
  have HO:=zhd hown3
  have hlt3:=hown3.lt
  clear hown3 hag3 hv3 hb3
  go_wp2
  go_ret
  refine .mk hbb ⟨xs,HO.out,fun j hj=>?_⟩
  exact Kd.mono _ (Kd.agree _ (X3.out j hj) (.of_ext hbb)) fun b hb=>⟨hb,fun e=>by have:=(hlt3 b e).1;omega⟩
end Go.Proofs.YtjpakklplhabdaaGreat
