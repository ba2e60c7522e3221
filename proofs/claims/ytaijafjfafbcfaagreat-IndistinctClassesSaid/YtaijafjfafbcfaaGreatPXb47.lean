/- Part of the proof that the laws answer true for every input. -/
import Derived.Test.YtaijafjfafbcfaaGreatPXb46
import Derived.Test.YtaijafjfafbcfaaGreatPXb33
set_option linter.unusedSimpArgs false
set_option linter.unnecessarySimpa false
set_option linter.unusedVariables false
set_option maxRecDepth 100000
set_option maxHeartbeats 40000000
namespace Go.Proofs.YtaijafjfafbcfaaGreat
open Go.RowKit
attribute [local go_sem ↓] Go.wp_at_zero Go.wp_at_succ
theorem flat25 {n:Nat}:∀{xs:List (List Value)} {j i:Nat},(∀c∈xs,c.length=n)→j<xs.length→i<n→xs.flatten[j * n+i]? =(xs.getD j [])[i]?
 | [],j,i,_,hj,_=>by simp at hj
 | c::xs,0,i,h,_,hi=>by
  have:=h c (by simp)
  rw[List.flatten_cons,List.getElem?_append_left (by omega)]
  simp
 | c::xs,j+1,i,h,hj,hi=>by
  have hc:=h c (by simp)
  have:=flat25 (xs:=xs) (j:=j) (i:=i) (fun d hd=>h d (List.mem_cons_of_mem _ hd)) (by simpa using hj) hi
  rw[List.flatten_cons,List.getElem?_append_right (by rw[hc,Nat.add_mul];omega),hc,show (j+1) * n+i - n=j * n+i by rw[Nat.add_mul];omega,this]
  simp
theorem sl_row25 {α:Type} {K:Kd α} {S:Nat→Prop} {w:World} {b:Nat} {e:TypeId} {l:List α} (xs:List (List Value)) (R:Row w b e xs.flatten) (hS:S b) (hl:l.length=xs.length) (hs:∀c∈xs,c.length=K.size) (hm:l.length≤100000) (hr:∀j (h:j<l.length),K.rd S w (xs.getD j []) l[j]):Sl K S w (.slice (some ⟨b,0,none⟩) l.length l.length) l:=by
 refine ⟨_,_,rfl,.inr ⟨b,0,rfl,R.lt,hS⟩,Nat.le_refl _,⟨by unfold maxLen;omega,by omega⟩,fun j hj=>⟨xs.getD j [],fun i hi=>?_,hr j hj⟩⟩
 rw[adr_add,Nat.zero_add]
 have h1:=flat25 hs (show j<xs.length by omega) hi
 cases h2:(xs.getD j [])[i]? with
 | none=>
  rw[List.getElem?_eq_none_iff]at h2
  have:=hs (xs.getD j []) (by rw[List.getD_eq_getElem?_getD,List.getElem?_eq_getElem (by omega)];exact List.getElem_mem _)
  omega
 | some u=>exact R.cell (by rw[h1,h2])
theorem pbuild25 {S:Nat→Prop} {w:World} {vc vs:Value} {p:ProbD} (hc:Sl kCase S w vc p.cs) (hs:Sl (kSl (kFlat 8)) S w vs p.st) (hf:PFew p) (h0:buildE p=0):
  Calls Tryz.prog 49 #[.agg #[.int .i64 p.n,.int .i64 p.ins,.int .i64 p.outs,vc,.int .i64 p.an,vs,.int .i64 p.rounds]] w (Post w fun w' r=>∃v,r=.tuple #[v,.int .i64 0]∧SysV (fun b=>(S b∧b<w.heap.size)∨w.heap.size≤b) w' v p.full):=by
 obtain ⟨h1,h2⟩:=buildE_zero h0
 obtain ⟨N,hok⟩:=probOK h1
 obtain ⟨h3,h4⟩:=hf.small h1 h2
 obtain ⟨n,ins,outs,cs,an,st,rounds⟩:=p
 obtain ⟨K,hK⟩:∃K:Nat,rounds=K:=⟨rounds.toNat,by have:=hok.r;dsimp only at this;omega⟩
 have e1:=hok.n
 have e2:=hok.an
 dsimp only at e1 e2
 subst e1 e2 hK
 exact pbuild_okS hc.block hs.block hok hf.cp h1 h3 (by dsimp only at h4;omega)
theorem full25 {p:ProbD} (h:buildE p=0):verE p.full=0:=by
 unfold verE
 have e:p.full.p=p:=rfl
 rw[e,if_pos h,if_pos ⟨rfl,rfl,rfl⟩]
theorem lists25 {S:Nat→Prop} {w:World} {b:Nat} {e:TypeId} {v:Value} {l:List Int} (R:Row w b e [v]) (hS:S b) (h:Ints S w v l):Lists S w (.slice (some ⟨b,0,none⟩) 1 1) [l]:=by
 refine ⟨_,_,rfl,.inr ⟨b,0,rfl,R.lt,hS⟩,Nat.le_refl _,by unfold maxLen;simp,fun j hj=>?_⟩
 obtain rfl:j=0:=by simpa using hj
 exact ⟨v,R.cell (j:=0) rfl,h⟩
def mv25:List (List Int):=[[2,1,3,0,0,0,0,0],[2,3,3,0,0,0,0,0]]
theorem mv25_take {k:Nat} (hk:k<2):mv25.take (k+1)=mv25.take k++[[2,nth [1,3] k,3,0,0,0,0,0]]:=by
 have:k=0∨k=1:=by omega
 rcases this with rfl | rfl<;>rfl
theorem nth13 (k:Nat):WF (nth [1,3] k):=by
 match k with
 | 0=>exact WF.small (by decide)
 | 1=>exact WF.small (by decide)
 | k+2=>exact WF.small (by simp[nth])
theorem example25_calls (w:World):Calls Tryz.prog 31 #[] w (Post w fun w' r=>∃v,r=.tuple #[v,.bool true]∧SysV TT w' v e25S):=by
 have RS:=(row_new w [.int .i64 0,.int .i64 0,.int .i64 0,.slice none 0 0,.int .i64 0,.slice none 0 0,.int .i64 0,.int .i64 0,.slice none 0 0,.slice none 0 0] 35).alloc (.cells #[.int .i64 1,.int .i64 3] 3)
 have RB:=row_new (w.alloc (.cells #[.int .i64 0,.int .i64 0,.int .i64 0,.slice none 0 0,.int .i64 0,.slice none 0 0,.int .i64 0,.int .i64 0,.slice none 0 0,.slice none 0 0] 35)) [.int .i64 1,.int .i64 3] 3
 have ex:=ext_alloc' (ext_alloc w (.cells #[.int .i64 0,.int .i64 0,.int .i64 0,.slice none 0 0,.int .i64 0,.slice none 0 0,.int .i64 0,.int .i64 0,.slice none 0 0,.slice none 0 0] 35)) (.cells #[.int .i64 1,.int .i64 3] 3)
 rw[World.size_alloc]at RB
 obtain ⟨w1,hw1⟩:∃w1,w1=((w.alloc (.cells #[.int .i64 0,.int .i64 0,.int .i64 0,.slice none 0 0,.int .i64 0,.slice none 0 0,.int .i64 0,.int .i64 0,.slice none 0 0,.slice none 0 0] 35)).alloc (.cells #[.int .i64 1,.int .i64 3] 3)):=⟨_,rfl⟩
 rw[←hw1]at RS RB ex
 have HW1:=Lib.hid hw1
 obtain ⟨la,hla⟩:∃la:Option Addr,la=some ⟨w.heap.size+1,0,none⟩:=⟨_,rfl⟩
 have HI:Hid (Ints TT w1 (.slice la 2 2) [1,3]):=Lib.hid (by rw[hla];exact (Row.ints (l:=[1,3]) RB (by decide) (by intro x hx;simp at hx;unfold WF;omega)).mono fun _ _=>trivial)
 have HLA:=Lib.hid hla
 have HS1:Hid (w.heap.size<w1.heap.size):=Lib.hid RS.lt
 have HRS:=Lib.hid RS
 have HEX:=Lib.hid ex
 clear hw1 hla RS RB ex
 go_enter Tryz.func31,Tryz.ntmps31
 go_wp2
 rw[←HW1.out,←HLA.out]
 clear HW1 HLA
 go_loopw [2,4,10] (fun q _ i wr=>∃k:Nat,k≤2∧i=.int .i64 k∧Below w1.heap.size w1 wr∧OwnK (kFlat 8) 121 w1.heap.size (fun _=>False) wr q (mv25.take k)) (fun _ _ i _=>2 - (intOf i).toNat)
 case atStart=>exact ⟨0,by decide,rfl,.refl _ _,OwnK.nil _ _ _ _ _⟩
 case round=>
  obtain ⟨k,hk,rfl,hb,hO⟩:=hrel
  by_cases hlt:k<2
  ·have hi:=HI.out.ext hb
   have q1:∀W:World,(Instr.indexAt 44 (.slice la 2 2) (.int .i64 k)).run Tryz.prog W=.ok (.pointer (some (adr la k))) W:=hi.idx (k:=k) hlt
   have c1:=hi.cellN (k:=k) hlt
   have HWF:=Lib.hid (nth13 k)
   have HT:=Lib.hid (mv25_take hlt)
   obtain ⟨y,hy⟩:∃y,y=nth [1,3] k:=⟨_,rfl⟩
   rw[←hy]at c1 HWF HT
   have bl:=World.block_lt_of_cell? _ _ c1
   have HLN:Hid ((mv25.take k).length=k):=Lib.hid (by rw[List.length_take];exact Nat.min_eq_left (by simpa[mv25] using hk))
   obtain ⟨acc,hacc⟩:∃acc,acc=mv25.take k:=⟨_,rfl⟩
   rw[←hacc]at hO HT HLN
   obtain ⟨oa,oc,rfl,_⟩:=hO.form
   have HRD:Hid ((kFlat 8).rd (fun b=>False∧(Value.slice oa acc.length oc).ownBlock≠some b) wr [.int .i64 2,.int .i64 y,.int .i64 3,.int .i64 0,.int .i64 0,.int .i64 0,.int .i64 0,.int .i64 0] [2,y,3,0,0,0,0,0]):=Lib.hid ⟨rfl,rfl,fun z hz=>by
    simp only[List.mem_cons,List.not_mem_nil,or_false]at hz
    have:=HWF.out
    unfold WF at *
    omega⟩
   have HO:=Lib.hid hO
   have HB:=Lib.hid hb
   have HBY:Hid ((acc.length+1) * 64≤140737488355328):=Lib.hid (by rw[HLN.out];omega)
   have HBN:Hid (acc.length<9223372036854775807):=Lib.hid (by rw[HLN.out];omega)
   have HBS:=Lib.hid hb.size
   clear hy hacc hO hb hi
   go_wp2_with (at_builtin;refine wpList_pushK (K:=kFlat 8) (w:=wr) (S:=fun _=>False) (base:=w1.heap.size) (v:=.slice oa acc.length oc) (l:=acc) rfl (.tmp 14) (.tmp 20) 114 rfl 121 _ 64 Tryz.underlying114 info_moveB rfl (by decide) rfl HO.out (cs:=[.int .i64 2,.int .i64 y,.int .i64 3,.int .i64 0,.int .i64 0,.int .i64 0,.int .i64 0,.int .i64 0]) rfl HRD.out HBY.out HBN.out HBS.out ?_;intro g7 c7 w7 ho hb7 hag hg7)
   have hO7:OwnK (kFlat 8) 121 w1.heap.size (fun _=>False) w7 (.slice (some ⟨g7,0,none⟩) (acc.length+1) c7) (mv25.take (k+1)):=by rw[HT.out];exact ho
   have HO7:=Lib.hid hO7
   have ex7:=HB.out.trans hb7
   clear ho hag hg7 hb7 c1 q1 bl hO7
   go_wp2
   go_roundw
   case rel=>exact ⟨k+1,hlt,by go_num,ex7,HO7.out⟩
   case measure=>simp[intOf];omega
  obtain rfl:k=2:=by omega
  have hO2:OwnK (kFlat 8) 121 w1.heap.size (fun _=>False) wr u2 mv25:=hO
  obtain ⟨oa,oc,hq,hpos,_⟩:=hO2.form
  replace hq:u2=.slice oa 2 oc:=hq
  obtain ⟨g,rfl⟩:=hpos (by decide)
  subst hq
  have hm0:=hO2.sl (by decide)
  have hs1:=HS1.out
  have hm:Sl (kFlat 8) (fun b=>b≠w.heap.size) wr (.slice (some ⟨g,0,none⟩) 2 oc) mv25:=hm0.mono fun b hb=>by
   rcases hb with h | h
   ·exact h.elim
   ·show b≠w.heap.size;omega
  have hsz:=hb.size
  have B0:=((((((((row_new wr [.int .i64 0,.int .i64 0] 3).alloc (.cells #[.int .i64 0,.int .i64 0] 3)).alloc (.cells #[.slice (some ⟨wr.heap.size+1,0,none⟩) 2 2] 44)).alloc (.cells #[.int .i64 0,.int .i64 1] 3)).alloc (.cells #[.int .i64 0,.int .i64 0] 3)).alloc (.cells #[.slice (some ⟨wr.heap.size+1+1+1+1,0,none⟩) 2 2] 44)).alloc (.cells #[.slice (some ⟨wr.heap.size,0,none⟩) 2 2,.slice (some ⟨wr.heap.size+1+1,0,none⟩) 1 1,.slice none 0 0,.slice (some ⟨wr.heap.size+1+1+1,0,none⟩) 2 2,.slice (some ⟨wr.heap.size+1+1+1+1+1,0,none⟩) 1 1,.slice none 0 0] 123)).alloc (.cells #[.int .i64 2,.int .i64 2,.int .i64 1,.slice (some ⟨wr.heap.size+1+1+1+1+1+1,0,none⟩) 2 2] 24)).alloc (.cells #[.slice (some ⟨g,0,none⟩) 2 oc] 114)
  have B1:=(((((((row_new (wr.alloc (.cells #[.int .i64 0,.int .i64 0] 3)) [.int .i64 0,.int .i64 0] 3).alloc (.cells #[.slice (some ⟨wr.heap.size+1,0,none⟩) 2 2] 44)).alloc (.cells #[.int .i64 0,.int .i64 1] 3)).alloc (.cells #[.int .i64 0,.int .i64 0] 3)).alloc (.cells #[.slice (some ⟨wr.heap.size+1+1+1+1,0,none⟩) 2 2] 44)).alloc (.cells #[.slice (some ⟨wr.heap.size,0,none⟩) 2 2,.slice (some ⟨wr.heap.size+1+1,0,none⟩) 1 1,.slice none 0 0,.slice (some ⟨wr.heap.size+1+1+1,0,none⟩) 2 2,.slice (some ⟨wr.heap.size+1+1+1+1+1,0,none⟩) 1 1,.slice none 0 0] 123)).alloc (.cells #[.int .i64 2,.int .i64 2,.int .i64 1,.slice (some ⟨wr.heap.size+1+1+1+1+1+1,0,none⟩) 2 2] 24)).alloc (.cells #[.slice (some ⟨g,0,none⟩) 2 oc] 114)
  have B2:=((((((row_new ((wr.alloc (.cells #[.int .i64 0,.int .i64 0] 3)).alloc (.cells #[.int .i64 0,.int .i64 0] 3)) [.slice (some ⟨wr.heap.size+1,0,none⟩) 2 2] 44).alloc (.cells #[.int .i64 0,.int .i64 1] 3)).alloc (.cells #[.int .i64 0,.int .i64 0] 3)).alloc (.cells #[.slice (some ⟨wr.heap.size+1+1+1+1,0,none⟩) 2 2] 44)).alloc (.cells #[.slice (some ⟨wr.heap.size,0,none⟩) 2 2,.slice (some ⟨wr.heap.size+1+1,0,none⟩) 1 1,.slice none 0 0,.slice (some ⟨wr.heap.size+1+1+1,0,none⟩) 2 2,.slice (some ⟨wr.heap.size+1+1+1+1+1,0,none⟩) 1 1,.slice none 0 0] 123)).alloc (.cells #[.int .i64 2,.int .i64 2,.int .i64 1,.slice (some ⟨wr.heap.size+1+1+1+1+1+1,0,none⟩) 2 2] 24)).alloc (.cells #[.slice (some ⟨g,0,none⟩) 2 oc] 114)
  have B3:=(((((row_new (((wr.alloc (.cells #[.int .i64 0,.int .i64 0] 3)).alloc (.cells #[.int .i64 0,.int .i64 0] 3)).alloc (.cells #[.slice (some ⟨wr.heap.size+1,0,none⟩) 2 2] 44)) [.int .i64 0,.int .i64 1] 3).alloc (.cells #[.int .i64 0,.int .i64 0] 3)).alloc (.cells #[.slice (some ⟨wr.heap.size+1+1+1+1,0,none⟩) 2 2] 44)).alloc (.cells #[.slice (some ⟨wr.heap.size,0,none⟩) 2 2,.slice (some ⟨wr.heap.size+1+1,0,none⟩) 1 1,.slice none 0 0,.slice (some ⟨wr.heap.size+1+1+1,0,none⟩) 2 2,.slice (some ⟨wr.heap.size+1+1+1+1+1,0,none⟩) 1 1,.slice none 0 0] 123)).alloc (.cells #[.int .i64 2,.int .i64 2,.int .i64 1,.slice (some ⟨wr.heap.size+1+1+1+1+1+1,0,none⟩) 2 2] 24)).alloc (.cells #[.slice (some ⟨g,0,none⟩) 2 oc] 114)
  have B4:=((((row_new ((((wr.alloc (.cells #[.int .i64 0,.int .i64 0] 3)).alloc (.cells #[.int .i64 0,.int .i64 0] 3)).alloc (.cells #[.slice (some ⟨wr.heap.size+1,0,none⟩) 2 2] 44)).alloc (.cells #[.int .i64 0,.int .i64 1] 3)) [.int .i64 0,.int .i64 0] 3).alloc (.cells #[.slice (some ⟨wr.heap.size+1+1+1+1,0,none⟩) 2 2] 44)).alloc (.cells #[.slice (some ⟨wr.heap.size,0,none⟩) 2 2,.slice (some ⟨wr.heap.size+1+1,0,none⟩) 1 1,.slice none 0 0,.slice (some ⟨wr.heap.size+1+1+1,0,none⟩) 2 2,.slice (some ⟨wr.heap.size+1+1+1+1+1,0,none⟩) 1 1,.slice none 0 0] 123)).alloc (.cells #[.int .i64 2,.int .i64 2,.int .i64 1,.slice (some ⟨wr.heap.size+1+1+1+1+1+1,0,none⟩) 2 2] 24)).alloc (.cells #[.slice (some ⟨g,0,none⟩) 2 oc] 114)
  have B5:=(((row_new (((((wr.alloc (.cells #[.int .i64 0,.int .i64 0] 3)).alloc (.cells #[.int .i64 0,.int .i64 0] 3)).alloc (.cells #[.slice (some ⟨wr.heap.size+1,0,none⟩) 2 2] 44)).alloc (.cells #[.int .i64 0,.int .i64 1] 3)).alloc (.cells #[.int .i64 0,.int .i64 0] 3)) [.slice (some ⟨wr.heap.size+1+1+1+1,0,none⟩) 2 2] 44).alloc (.cells #[.slice (some ⟨wr.heap.size,0,none⟩) 2 2,.slice (some ⟨wr.heap.size+1+1,0,none⟩) 1 1,.slice none 0 0,.slice (some ⟨wr.heap.size+1+1+1,0,none⟩) 2 2,.slice (some ⟨wr.heap.size+1+1+1+1+1,0,none⟩) 1 1,.slice none 0 0] 123)).alloc (.cells #[.int .i64 2,.int .i64 2,.int .i64 1,.slice (some ⟨wr.heap.size+1+1+1+1+1+1,0,none⟩) 2 2] 24)).alloc (.cells #[.slice (some ⟨g,0,none⟩) 2 oc] 114)
  have B6:=((row_new ((((((wr.alloc (.cells #[.int .i64 0,.int .i64 0] 3)).alloc (.cells #[.int .i64 0,.int .i64 0] 3)).alloc (.cells #[.slice (some ⟨wr.heap.size+1,0,none⟩) 2 2] 44)).alloc (.cells #[.int .i64 0,.int .i64 1] 3)).alloc (.cells #[.int .i64 0,.int .i64 0] 3)).alloc (.cells #[.slice (some ⟨wr.heap.size+1+1+1+1,0,none⟩) 2 2] 44)) [.slice (some ⟨wr.heap.size,0,none⟩) 2 2,.slice (some ⟨wr.heap.size+1+1,0,none⟩) 1 1,.slice none 0 0,.slice (some ⟨wr.heap.size+1+1+1,0,none⟩) 2 2,.slice (some ⟨wr.heap.size+1+1+1+1+1,0,none⟩) 1 1,.slice none 0 0] 123).alloc (.cells #[.int .i64 2,.int .i64 2,.int .i64 1,.slice (some ⟨wr.heap.size+1+1+1+1+1+1,0,none⟩) 2 2] 24)).alloc (.cells #[.slice (some ⟨g,0,none⟩) 2 oc] 114)
  have B7:=(row_new (((((((wr.alloc (.cells #[.int .i64 0,.int .i64 0] 3)).alloc (.cells #[.int .i64 0,.int .i64 0] 3)).alloc (.cells #[.slice (some ⟨wr.heap.size+1,0,none⟩) 2 2] 44)).alloc (.cells #[.int .i64 0,.int .i64 1] 3)).alloc (.cells #[.int .i64 0,.int .i64 0] 3)).alloc (.cells #[.slice (some ⟨wr.heap.size+1+1+1+1,0,none⟩) 2 2] 44)).alloc (.cells #[.slice (some ⟨wr.heap.size,0,none⟩) 2 2,.slice (some ⟨wr.heap.size+1+1,0,none⟩) 1 1,.slice none 0 0,.slice (some ⟨wr.heap.size+1+1+1,0,none⟩) 2 2,.slice (some ⟨wr.heap.size+1+1+1+1+1,0,none⟩) 1 1,.slice none 0 0] 123)) [.int .i64 2,.int .i64 2,.int .i64 1,.slice (some ⟨wr.heap.size+1+1+1+1+1+1,0,none⟩) 2 2] 24).alloc (.cells #[.slice (some ⟨g,0,none⟩) 2 oc] 114)
  have B8:=row_new ((((((((wr.alloc (.cells #[.int .i64 0,.int .i64 0] 3)).alloc (.cells #[.int .i64 0,.int .i64 0] 3)).alloc (.cells #[.slice (some ⟨wr.heap.size+1,0,none⟩) 2 2] 44)).alloc (.cells #[.int .i64 0,.int .i64 1] 3)).alloc (.cells #[.int .i64 0,.int .i64 0] 3)).alloc (.cells #[.slice (some ⟨wr.heap.size+1+1+1+1,0,none⟩) 2 2] 44)).alloc (.cells #[.slice (some ⟨wr.heap.size,0,none⟩) 2 2,.slice (some ⟨wr.heap.size+1+1,0,none⟩) 1 1,.slice none 0 0,.slice (some ⟨wr.heap.size+1+1+1,0,none⟩) 2 2,.slice (some ⟨wr.heap.size+1+1+1+1+1,0,none⟩) 1 1,.slice none 0 0] 123)).alloc (.cells #[.int .i64 2,.int .i64 2,.int .i64 1,.slice (some ⟨wr.heap.size+1+1+1+1+1+1,0,none⟩) 2 2] 24)) [.slice (some ⟨g,0,none⟩) 2 oc] 114
  have e2:Below wr.heap.size wr (((((((((wr.alloc (.cells #[.int .i64 0,.int .i64 0] 3)).alloc (.cells #[.int .i64 0,.int .i64 0] 3)).alloc (.cells #[.slice (some ⟨wr.heap.size+1,0,none⟩) 2 2] 44)).alloc (.cells #[.int .i64 0,.int .i64 1] 3)).alloc (.cells #[.int .i64 0,.int .i64 0] 3)).alloc (.cells #[.slice (some ⟨wr.heap.size+1+1+1+1,0,none⟩) 2 2] 44)).alloc (.cells #[.slice (some ⟨wr.heap.size,0,none⟩) 2 2,.slice (some ⟨wr.heap.size+1+1,0,none⟩) 1 1,.slice none 0 0,.slice (some ⟨wr.heap.size+1+1+1,0,none⟩) 2 2,.slice (some ⟨wr.heap.size+1+1+1+1+1,0,none⟩) 1 1,.slice none 0 0] 123)).alloc (.cells #[.int .i64 2,.int .i64 2,.int .i64 1,.slice (some ⟨wr.heap.size+1+1+1+1+1+1,0,none⟩) 2 2] 24)).alloc (.cells #[.slice (some ⟨g,0,none⟩) 2 oc] 114)):=ext_alloc' (ext_alloc' (ext_alloc' (ext_alloc' (ext_alloc' (ext_alloc' (ext_alloc' (ext_alloc' (ext_alloc wr _) _) _) _) _) _) _) _) _
  simp only[World.size_alloc]at B1 B2 B3 B4 B5 B6 B7 B8
  have HSR:=Lib.hid (HRS.out.ext (ext_trans hb e2))
  have hm2:=hm.ext e2
  have HEX2:=Lib.hid (ext_trans HEX.out (ext_trans hb e2))
  obtain ⟨w2,hw2⟩:∃w2,w2=(((((((((wr.alloc (.cells #[.int .i64 0,.int .i64 0] 3)).alloc (.cells #[.int .i64 0,.int .i64 0] 3)).alloc (.cells #[.slice (some ⟨wr.heap.size+1,0,none⟩) 2 2] 44)).alloc (.cells #[.int .i64 0,.int .i64 1] 3)).alloc (.cells #[.int .i64 0,.int .i64 0] 3)).alloc (.cells #[.slice (some ⟨wr.heap.size+1+1+1+1,0,none⟩) 2 2] 44)).alloc (.cells #[.slice (some ⟨wr.heap.size,0,none⟩) 2 2,.slice (some ⟨wr.heap.size+1+1,0,none⟩) 1 1,.slice none 0 0,.slice (some ⟨wr.heap.size+1+1+1,0,none⟩) 2 2,.slice (some ⟨wr.heap.size+1+1+1+1+1,0,none⟩) 1 1,.slice none 0 0] 123)).alloc (.cells #[.int .i64 2,.int .i64 2,.int .i64 1,.slice (some ⟨wr.heap.size+1+1+1+1+1+1,0,none⟩) 2 2] 24)).alloc (.cells #[.slice (some ⟨g,0,none⟩) 2 oc] 114)):=⟨_,rfl⟩
  rw[←hw2]at B0 B1 B2 B3 B4 B5 B6 B7 B8 hm2 HSR HEX2
  have HW2:=Lib.hid hw2
  have i0:=(Row.ints (l:=[0,0]) B0 (by decide) (by intro x hx;simp at hx;unfold WF;omega)).mono (S':=(fun b=>b≠w.heap.size)) (fun _ h=>by omega)
  have i1:=(Row.ints (l:=[0,0]) B1 (by decide) (by intro x hx;simp at hx;unfold WF;omega)).mono (S':=(fun b=>b≠w.heap.size)) (fun _ h=>by omega)
  have i3:=(Row.ints (l:=[0,1]) B3 (by decide) (by intro x hx;simp at hx;unfold WF;omega)).mono (S':=(fun b=>b≠w.heap.size)) (fun _ h=>by omega)
  have i4:=(Row.ints (l:=[0,0]) B4 (by decide) (by intro x hx;simp at hx;unfold WF;omega)).mono (S':=(fun b=>b≠w.heap.size)) (fun _ h=>by omega)
  have j2:=lists25 B2 (show (fun b=>b≠w.heap.size) _ by dsimp only;omega) i1
  have j5:=lists25 B5 (show (fun b=>b≠w.heap.size) _ by dsimp only;omega) i4
  have jn:=fun W=>Lists.nil (fun b=>b≠w.heap.size) W
  have kc:=sl_row25 (K:=kCase) (S:=(fun b=>b≠w.heap.size)) (l:=e25P.cs) [[.slice (some ⟨wr.heap.size,0,none⟩) 2 2,.slice (some ⟨wr.heap.size+1+1,0,none⟩) 1 1,.slice none 0 0],[.slice (some ⟨wr.heap.size+1+1+1,0,none⟩) 2 2,.slice (some ⟨wr.heap.size+1+1+1+1+1,0,none⟩) 1 1,.slice none 0 0]] B6 (show (fun b=>b≠w.heap.size) _ by dsimp only;omega) rfl (by simp[kCase]) (by decide) (fun j hj=>match j,hj with | 0,_=>⟨_,_,_,rfl,i0,j2,jn _⟩ | 1,_=>⟨_,_,_,rfl,i3,j5,jn _⟩ | j+2,h=>absurd h (by simp[e25P]))
  have ks:=sl_row25 (K:=kSl (kFlat 8)) (S:=(fun b=>b≠w.heap.size)) (l:=e25P.st) [[.slice (some ⟨g,0,none⟩) 2 oc]] B8 (show (fun b=>b≠w.heap.size) _ by dsimp only;omega) rfl (by simp[kSl]) (by decide) (fun j hj=>match j,hj with | 0,_=>⟨_,rfl,hm2⟩ | j+1,h=>absurd h (by simp[e25P]))
  have KB:Hid (Calls Tryz.prog 49 #[.agg #[.int .i64 2,.int .i64 2,.int .i64 1,.slice (some ⟨wr.heap.size+1+1+1+1+1+1,0,none⟩) 2 2,.int .i64 2,.slice (some ⟨wr.heap.size+1+1+1+1+1+1+1+1,0,none⟩) 1 1,.int .i64 1]] w2 (Post w2 fun w' r=>∃v,r=.tuple #[v,.int .i64 0]∧SysV (fun b=>(b≠w.heap.size∧b<w2.heap.size)∨w2.heap.size≤b) w' v e25P.full)):=Lib.hid (pbuild25 (p:=e25P) kc ks e25_few.few e25_build)
  clear B0 B1 B2 B3 B4 B5 B6 B7 B8 i0 i1 i3 i4 j2 j5 jn kc ks hm2 hO hO2 hm0 hm hw2 e2 hpos
  go_wp2_with fail
  rw[←HW2.out]
  refine KB.out.mono ?_
  rintro _ w3 ⟨_,rfl,hb3,bv,rfl,hsy0⟩
  have RS:=HSR.out
  have hlt2:=RS.lt
  have hsy:SysV (fun b=>b≠w.heap.size) w3 bv e25S:=hsy0.mono fun b hb=>by rcases hb with h | h<;>omega
  replace RS:=RS.ext hb3
  have ex3:=ext_trans HEX2.out hb3
  clear hsy0 KB HW2 HSR HEX2 HEX HRS HI HS1 hb hs1 hsz
  have h:=hsy
  obtain ⟨vc,vs,vt,vx,rfl,hc,hs,ht,hx⟩:=h
  obtain ⟨ca,cc,rfl,_⟩:=hc.form
  obtain ⟨sa,sc,rfl,_⟩:=hs.form
  obtain ⟨ta,tc,rfl,_⟩:=ht.form
  obtain ⟨xa,xc,rfl,_⟩:=hx.form2
  have hxe:Value.slice xa e25S.ex.length xc=.slice xa 4 xc:=by rw[e25_len]
  rw[hxe]at hsy ⊢
  have e4:=ext_alloc w3 (.cells #[.int .i64 e25S.p.n,.int .i64 e25S.p.ins,.int .i64 e25S.p.outs,.slice ca e25S.p.cs.length cc,.int .i64 e25S.p.an,.slice sa e25S.p.st.length sc,.int .i64 e25S.p.rounds,.int .i64 e25S.tn,.slice ta e25S.tab.length tc,.slice xa 4 xc] 35)
  have HSY:=Lib.hid (hsy.ext e4)
  have R7:=row_new w3 [.int .i64 e25S.p.n,.int .i64 e25S.p.ins,.int .i64 e25S.p.outs,.slice ca e25S.p.cs.length cc,.int .i64 e25S.p.an,.slice sa e25S.p.st.length sc,.int .i64 e25S.p.rounds,.int .i64 e25S.tn,.slice ta e25S.tab.length tc,.slice xa 4 xc] 35
  have hw3:=RS.lt
  replace RS:=RS.alloc (.cells #[.int .i64 e25S.p.n,.int .i64 e25S.p.ins,.int .i64 e25S.p.outs,.slice ca e25S.p.cs.length cc,.int .i64 e25S.p.an,.slice sa e25S.p.st.length sc,.int .i64 e25S.p.rounds,.int .i64 e25S.tn,.slice ta e25S.tab.length tc,.slice xa 4 xc] 35)
  replace ex3:=ext_alloc' ex3 (.cells #[.int .i64 e25S.p.n,.int .i64 e25S.p.ins,.int .i64 e25S.p.outs,.slice ca e25S.p.cs.length cc,.int .i64 e25S.p.an,.slice sa e25S.p.st.length sc,.int .i64 e25S.p.rounds,.int .i64 e25S.tn,.slice ta e25S.tab.length tc,.slice xa 4 xc] 35)
  clear hsy hc hs ht hx hxe e4 hb3 hlt2
  go_upto_region 9 with fail
  obtain ⟨w4,hw4⟩:∃w4,w4=w3.alloc (.cells #[.int .i64 e25S.p.n,.int .i64 e25S.p.ins,.int .i64 e25S.p.outs,.slice ca e25S.p.cs.length cc,.int .i64 e25S.p.an,.slice sa e25S.p.st.length sc,.int .i64 e25S.p.rounds,.int .i64 e25S.tn,.slice ta e25S.tab.length tc,.slice xa 4 xc] 35):=⟨_,rfl⟩
  obtain ⟨B7,hB7⟩:∃B7,B7=w3.heap.size:=⟨_,rfl⟩
  rw[←hw4]at R7 RS ex3 HSY
  rw[←hB7]at R7
  have hB7n:w.heap.size≠B7:=by omega
  rw[←hw4,←hB7]
  clear hw4 hB7
  have HRS:=Lib.hid (RS.sets [(0,.int .i64 e25S.p.n),(1,.int .i64 e25S.p.ins),(2,.int .i64 e25S.p.outs),(3,.slice ca e25S.p.cs.length cc),(4,.int .i64 e25S.p.an),(5,.slice sa e25S.p.st.length sc),(6,.int .i64 e25S.p.rounds),(7,.int .i64 e25S.tn),(8,.slice ta e25S.tab.length tc),(9,.slice xa 4 xc)])
  have HBS:=Lib.hid (sets_below (Nat.le_refl w.heap.size) [(0,.int .i64 e25S.p.n),(1,.int .i64 e25S.p.ins),(2,.int .i64 e25S.p.outs),(3,.slice ca e25S.p.cs.length cc),(4,.int .i64 e25S.p.an),(5,.slice sa e25S.p.st.length sc),(6,.int .i64 e25S.p.rounds),(7,.int .i64 e25S.tn),(8,.slice ta e25S.tab.length tc),(9,.slice xa 4 xc)] w4 ex3)
  have HAS:=Lib.hid (sets_agree w.heap.size [(0,.int .i64 e25S.p.n),(1,.int .i64 e25S.p.ins),(2,.int .i64 e25S.p.outs),(3,.slice ca e25S.p.cs.length cc),(4,.int .i64 e25S.p.an),(5,.slice sa e25S.p.st.length sc),(6,.int .i64 e25S.p.rounds),(7,.int .i64 e25S.tn),(8,.slice ta e25S.tab.length tc),(9,.slice xa 4 xc)] w4)
  have KEEP:Hid (∀w',Agree (fun b=>b≠w.heap.size) w4 w'→(fun w':World=>w'.cell? ⟨B7,0,none⟩=some (.int .i64 e25S.p.n)∧w'.cell? ⟨B7,1,none⟩=some (.int .i64 e25S.p.ins)∧w'.cell? ⟨B7,2,none⟩=some (.int .i64 e25S.p.outs)∧w'.cell? ⟨B7,3,none⟩=some (.slice ca e25S.p.cs.length cc)∧w'.cell? ⟨B7,4,none⟩=some (.int .i64 e25S.p.an)∧w'.cell? ⟨B7,5,none⟩=some (.slice sa e25S.p.st.length sc)∧w'.cell? ⟨B7,6,none⟩=some (.int .i64 e25S.p.rounds)∧w'.cell? ⟨B7,7,none⟩=some (.int .i64 e25S.tn)∧w'.cell? ⟨B7,8,none⟩=some (.slice ta e25S.tab.length tc)∧w'.cell? ⟨B7,9,none⟩=some (.slice xa 4 xc)) w'):=Lib.hid fun w' hw=>⟨(R7.agree hw (Ne.symm hB7n)).cell (j:=0) rfl,(R7.agree hw (Ne.symm hB7n)).cell (j:=1) rfl,(R7.agree hw (Ne.symm hB7n)).cell (j:=2) rfl,(R7.agree hw (Ne.symm hB7n)).cell (j:=3) rfl,(R7.agree hw (Ne.symm hB7n)).cell (j:=4) rfl,(R7.agree hw (Ne.symm hB7n)).cell (j:=5) rfl,(R7.agree hw (Ne.symm hB7n)).cell (j:=6) rfl,(R7.agree hw (Ne.symm hB7n)).cell (j:=7) rfl,(R7.agree hw (Ne.symm hB7n)).cell (j:=8) rfl,(R7.agree hw (Ne.symm hB7n)).cell (j:=9) rfl⟩
  have l7:=R7.lt
  have d0:=RS.cell (j:=0) rfl
  have d1:=RS.cell (j:=1) rfl
  have d2:=RS.cell (j:=2) rfl
  have d3:=RS.cell (j:=3) rfl
  have d4:=RS.cell (j:=4) rfl
  have d5:=RS.cell (j:=5) rfl
  have d6:=RS.cell (j:=6) rfl
  have d7:=RS.cell (j:=7) rfl
  have d8:=RS.cell (j:=8) rfl
  have d9:=RS.cell (j:=9) rfl
  have f0:=RS.free 0
  have f1:=RS.free 1
  have f2:=RS.free 2
  have f3:=RS.free 3
  have f4:=RS.free 4
  have f5:=RS.free 5
  have f6:=RS.free 6
  have f7:=RS.free 7
  have f8:=RS.free 8
  have f9:=RS.free 9
  have l2:=RS.lt
  clear RS R7 hw3
  refine region_E (fun w':World=>w'.cell? ⟨B7,0,none⟩=some (.int .i64 e25S.p.n)∧w'.cell? ⟨B7,1,none⟩=some (.int .i64 e25S.p.ins)∧w'.cell? ⟨B7,2,none⟩=some (.int .i64 e25S.p.outs)∧w'.cell? ⟨B7,3,none⟩=some (.slice ca e25S.p.cs.length cc)∧w'.cell? ⟨B7,4,none⟩=some (.int .i64 e25S.p.an)∧w'.cell? ⟨B7,5,none⟩=some (.slice sa e25S.p.st.length sc)∧w'.cell? ⟨B7,6,none⟩=some (.int .i64 e25S.p.rounds)∧w'.cell? ⟨B7,7,none⟩=some (.int .i64 e25S.tn)∧w'.cell? ⟨B7,8,none⟩=some (.slice ta e25S.tab.length tc)∧w'.cell? ⟨B7,9,none⟩=some (.slice xa 4 xc)) (fun i=>false) (by kernel_rfl) ?_ (fun hHeld=>?_)
  ·exact KEEP.out _ (.of_ext (drewN_below w4.heap.size w4 1))
  refine anyE_take 0 (v:=?_) rfl (by kernel_rfl) (fun _ _ _ h=>h) (by rfl) ?hy0 hHeld ?rest0
  case hy0=>(intro w hSw;(try dsimp only at hSw);go_simp;try with_reducible rfl)
  try simp only[Act.put,zsa,zsz,zss]
  refine anyE_take 1 (v:=?_) rfl (by kernel_rfl) (fun _ _ _ h=>h) (by rfl) ?hy1 hHeld ?rest1
  case hy1=>(intro w hSw;(try dsimp only at hSw);go_simp;try with_reducible rfl)
  try simp only[Act.put,zsa,zsz,zss]
  refine anyE_take 2 (v:=?_) rfl (by kernel_rfl) (fun _ _ _ h=>h) (by rfl) ?hy2 hHeld ?rest2
  case hy2=>(intro w hSw;(try dsimp only at hSw);go_simp;try with_reducible rfl)
  try simp only[Act.put,zsa,zsz,zss]
  refine anyE_take 3 (v:=?_) rfl (by kernel_rfl) (fun _ _ _ h=>h) (by rfl) ?hy3 hHeld ?rest3
  case hy3=>(intro w hSw;(try dsimp only at hSw);go_simp;try with_reducible rfl)
  try simp only[Act.put,zsa,zsz,zss]
  refine anyE_take 4 (v:=?_) rfl (by kernel_rfl) (fun _ _ _ h=>h) (by rfl) ?hy4 hHeld ?rest4
  case hy4=>(intro w hSw;(try dsimp only at hSw);go_simp;try with_reducible rfl)
  try simp only[Act.put,zsa,zsz,zss]
  refine anyE_take 5 (v:=?_) rfl (by kernel_rfl) (fun _ _ _ h=>h) (by rfl) ?hy5 hHeld ?rest5
  case hy5=>(intro w hSw;(try dsimp only at hSw);go_simp;try with_reducible rfl)
  try simp only[Act.put,zsa,zsz,zss]
  refine anyE_take 6 (v:=?_) rfl (by kernel_rfl) (fun _ _ _ h=>h) (by rfl) ?hy6 hHeld ?rest6
  case hy6=>(intro w hSw;(try dsimp only at hSw);go_simp;try with_reducible rfl)
  try simp only[Act.put,zsa,zsz,zss]
  refine anyE_take 7 (v:=?_) rfl (by kernel_rfl) (fun _ _ _ h=>h) (by rfl) ?hy7 hHeld ?rest7
  case hy7=>(intro w hSw;(try dsimp only at hSw);go_simp;try with_reducible rfl)
  try simp only[Act.put,zsa,zsz,zss]
  refine anyE_take 8 (v:=?_) rfl (by kernel_rfl) (fun _ _ _ h=>h) (by rfl) ?hy8 hHeld ?rest8
  case hy8=>(intro w hSw;(try dsimp only at hSw);go_simp;try with_reducible rfl)
  try simp only[Act.put,zsa,zsz,zss]
  refine anyE_one 9 rfl (by kernel_rfl) (fun K hK=>?_)
  go_simp
  refine hK.out _ _ (fun _=>KEEP.out _ (HAS.out.trans (.of_ext (drewN_below _ _ 1)))) (fun hHeld=>?_);replace hHeld:=hHeld rfl
  clear hK K
  try simp only[Act.put,zsa,zsz,zss]
  refine anyE_take 10 (v:=?_) rfl (by kernel_rfl) (fun _ _ _ h=>h) (by rfl) ?hy10 hHeld ?rest10
  case hy10=>(intro w hSw;(try dsimp only at hSw);go_simp;try with_reducible rfl)
  try simp only[Act.put,zsa,zsz,zss]
  refine anyE_done (by kernel_rfl) ?_ _
  clear hHeld KEEP d0 f0 d1 f1 d2 f2 d3 f3 d4 f4 d5 f5 d6 f6 d7 f7 d8 f8 d9 f9 l2 l7
  obtain ⟨W7,hW7⟩:∃W7,W7=sets w.heap.size [(0,.int .i64 e25S.p.n),(1,.int .i64 e25S.p.ins),(2,.int .i64 e25S.p.outs),(3,.slice ca e25S.p.cs.length cc),(4,.int .i64 e25S.p.an),(5,.slice sa e25S.p.st.length sc),(6,.int .i64 e25S.p.rounds),(7,.int .i64 e25S.tn),(8,.slice ta e25S.tab.length tc),(9,.slice xa 4 xc)] w4:=⟨_,rfl⟩
  rw[←hW7]at HRS HBS HAS
  unfold sets at hW7
  simp only[List.foldl_cons,List.foldl_nil]at hW7
  go_wp2
  rw[←hW7]
  clear hW7
  have q0:W7.cell? ⟨w.heap.size,0,none⟩=some _:=HRS.out.cell (j:=0) rfl
  have q1:W7.cell? ⟨w.heap.size,1,none⟩=some _:=HRS.out.cell (j:=1) rfl
  have q2:W7.cell? ⟨w.heap.size,2,none⟩=some _:=HRS.out.cell (j:=2) rfl
  have q3:W7.cell? ⟨w.heap.size,3,none⟩=some _:=HRS.out.cell (j:=3) rfl
  have q4:W7.cell? ⟨w.heap.size,4,none⟩=some _:=HRS.out.cell (j:=4) rfl
  have q5:W7.cell? ⟨w.heap.size,5,none⟩=some _:=HRS.out.cell (j:=5) rfl
  have q6:W7.cell? ⟨w.heap.size,6,none⟩=some _:=HRS.out.cell (j:=6) rfl
  have q7:W7.cell? ⟨w.heap.size,7,none⟩=some _:=HRS.out.cell (j:=7) rfl
  have q8:W7.cell? ⟨w.heap.size,8,none⟩=some _:=HRS.out.cell (j:=8) rfl
  have q9:W7.cell? ⟨w.heap.size,9,none⟩=some _:=HRS.out.cell (j:=9) rfl
  have HFI:=Lib.hid ((HSY.out.agree HAS.out).mono (S':=TT) fun _ _=>trivial)
  refine bodyPost_ret (v:=.tuple #[.agg #[.int .i64 e25S.p.n,.int .i64 e25S.p.ins,.int .i64 e25S.p.outs,.slice ca e25S.p.cs.length cc,.int .i64 e25S.p.an,.slice sa e25S.p.st.length sc,.int .i64 e25S.p.rounds,.int .i64 e25S.tn,.slice ta e25S.tab.length tc,.slice xa 4 xc],.bool true]) (by simp[results,Tryz.results31,go_sem,q0,q1,q2,q3,q4,q5,q6,q7,q8,q9]) rfl ?_
  exact .mk (HBS.out.trans (drewN_below _ _ 1)) ⟨_,rfl,HFI.out.ext (drewN_below _ _ 1)⟩
def SysR (p:ProbD) (w':World) (r:Value):Prop:=∃v b s,r=.tuple #[v,.bool b]∧SysV TT w' v s∧(b=true→s.p=p∧verE s=0∧FewP s.p∧0<s.ex.length)
theorem system_calls {S:Nat→Prop} {w:World} {vc vs:Value} {p:ProbD} (hc:Sl kCase S w vc p.cs) (hs:Sl (kSl (kFlat 8)) S w vs p.st):
  Calls Tryz.prog 26 #[.agg #[.int .i64 p.n,.int .i64 p.ins,.int .i64 p.outs,vc,.int .i64 p.an,vs,.int .i64 p.rounds]] w (Post w (SysR p)):=by
 obtain ⟨ca,cc,rfl,_⟩:=hc.form
 obtain ⟨sa,sc,rfl,_⟩:=hs.form
 have KR:Hid (∀W,Below w.heap.size w W→Calls Tryz.prog 48 #[.agg #[.int .i64 p.n,.int .i64 p.ins,.int .i64 p.outs,.slice ca p.cs.length cc,.int .i64 p.an,.slice sa p.st.length sc,.int .i64 p.rounds]] W (Post W fun _ r=>Tells (RightP p) r)):=Lib.hid fun W hW=>right_calls (hc.ext hW) (hs.ext hW)
 have KB:Hid (RightP p→∀W,Below w.heap.size w W→Calls Tryz.prog 49 #[.agg #[.int .i64 p.n,.int .i64 p.ins,.int .i64 p.outs,.slice ca p.cs.length cc,.int .i64 p.an,.slice sa p.st.length sc,.int .i64 p.rounds]] W (Post W fun w' r=>∃v,r=.tuple #[v,.int .i64 0]∧SysV (fun b=>((S b∧b<w.heap.size)∧b<W.heap.size)∨W.heap.size≤b) w' v p.full)):=Lib.hid fun hr W hW=>pbuild25 (hc.block.ext hW) (hs.block.ext hW) hr.1.few hr.2
 have ex:=ext_alloc' (ext_alloc w (.cells #[.int .i64 p.n,.int .i64 p.ins,.int .i64 p.outs,.slice ca p.cs.length cc,.int .i64 p.an,.slice sa p.st.length sc,.int .i64 p.rounds] 29)) (.cells #[.int .i64 0,.int .i64 0,.int .i64 0,.slice none 0 0,.int .i64 0,.slice none 0 0,.int .i64 0,.int .i64 0,.slice none 0 0,.slice none 0 0] 35)
 have R1:=(row_new w [.int .i64 p.n,.int .i64 p.ins,.int .i64 p.outs,.slice ca p.cs.length cc,.int .i64 p.an,.slice sa p.st.length sc,.int .i64 p.rounds] 29).alloc (.cells #[.int .i64 0,.int .i64 0,.int .i64 0,.slice none 0 0,.int .i64 0,.slice none 0 0,.int .i64 0,.int .i64 0,.slice none 0 0,.slice none 0 0] 35)
 have RS:=row_new (w.alloc (.cells #[.int .i64 p.n,.int .i64 p.ins,.int .i64 p.outs,.slice ca p.cs.length cc,.int .i64 p.an,.slice sa p.st.length sc,.int .i64 p.rounds] 29)) [.int .i64 0,.int .i64 0,.int .i64 0,.slice none 0 0,.int .i64 0,.slice none 0 0,.int .i64 0,.int .i64 0,.slice none 0 0,.slice none 0 0] 35
 rw[World.size_alloc]at RS
 obtain ⟨S2,hS2'⟩:∃S2,S2=w.heap.size+1:=⟨_,rfl⟩
 have hS2:w.heap.size≤S2:=by omega
 rw[←hS2']at RS
 have HS2:=Lib.hid hS2'
 clear hc hs hS2'
 have c0:=R1.cell (j:=0) rfl
 have c1:=R1.cell (j:=1) rfl
 have c2:=R1.cell (j:=2) rfl
 have c3:=R1.cell (j:=3) rfl
 have c4:=R1.cell (j:=4) rfl
 have c5:=R1.cell (j:=5) rfl
 have c6:=R1.cell (j:=6) rfl
 have lR1:=R1.lt
 go_enter Tryz.func26,Tryz.ntmps26
 go_wp2_with fail
 refine (KR.out _ ex).mono ?_
 rintro _ w1 ⟨_,rfl,hb1,b0,rfl,hb0⟩
 replace R1:=R1.ext hb1
 replace RS:=RS.ext hb1
 replace ex:=ext_trans ex hb1
 clear c0 c1 c2 c3 c4 c5 c6 lR1 hb1 KR
 rw[←HS2.out]
 cases b0 with
 | false=>
  clear R1
  have d0:=RS.cell (j:=0) rfl
  have d1:=RS.cell (j:=1) rfl
  have d2:=RS.cell (j:=2) rfl
  have d3:=RS.cell (j:=3) rfl
  have d4:=RS.cell (j:=4) rfl
  have d5:=RS.cell (j:=5) rfl
  have d6:=RS.cell (j:=6) rfl
  have d7:=RS.cell (j:=7) rfl
  have d8:=RS.cell (j:=8) rfl
  have d9:=RS.cell (j:=9) rfl
  have f0:=RS.free 0
  have f1:=RS.free 1
  have f2:=RS.free 2
  have f3:=RS.free 3
  have f4:=RS.free 4
  have f5:=RS.free 5
  have f6:=RS.free 6
  have f7:=RS.free 7
  have f8:=RS.free 8
  have f9:=RS.free 9
  have l2:=RS.lt
  have HRS:=Lib.hid (RS.sets [(0,.int .i64 0),(1,.int .i64 0),(2,.int .i64 0),(3,.slice none 0 0),(4,.int .i64 0),(5,.slice none 0 0),(6,.int .i64 0),(7,.int .i64 0),(8,.slice none 0 0),(9,.slice none 0 0)])
  have HBS:=Lib.hid (sets_below hS2 [(0,.int .i64 0),(1,.int .i64 0),(2,.int .i64 0),(3,.slice none 0 0),(4,.int .i64 0),(5,.slice none 0 0),(6,.int .i64 0),(7,.int .i64 0),(8,.slice none 0 0),(9,.slice none 0 0)] w1 ex)
  obtain ⟨W7,hW7⟩:∃W7,W7=sets S2 [(0,.int .i64 0),(1,.int .i64 0),(2,.int .i64 0),(3,.slice none 0 0),(4,.int .i64 0),(5,.slice none 0 0),(6,.int .i64 0),(7,.int .i64 0),(8,.slice none 0 0),(9,.slice none 0 0)] w1:=⟨_,rfl⟩
  rw[←hW7]at HRS HBS
  unfold sets at hW7
  simp only[List.foldl_cons,List.foldl_nil]at hW7
  clear RS
  go_wp2
  rw[←hW7]
  clear hW7
  have q0:W7.cell? ⟨S2,0,none⟩=some _:=HRS.out.cell (j:=0) rfl
  have q1:W7.cell? ⟨S2,1,none⟩=some _:=HRS.out.cell (j:=1) rfl
  have q2:W7.cell? ⟨S2,2,none⟩=some _:=HRS.out.cell (j:=2) rfl
  have q3:W7.cell? ⟨S2,3,none⟩=some _:=HRS.out.cell (j:=3) rfl
  have q4:W7.cell? ⟨S2,4,none⟩=some _:=HRS.out.cell (j:=4) rfl
  have q5:W7.cell? ⟨S2,5,none⟩=some _:=HRS.out.cell (j:=5) rfl
  have q6:W7.cell? ⟨S2,6,none⟩=some _:=HRS.out.cell (j:=6) rfl
  have q7:W7.cell? ⟨S2,7,none⟩=some _:=HRS.out.cell (j:=7) rfl
  have q8:W7.cell? ⟨S2,8,none⟩=some _:=HRS.out.cell (j:=8) rfl
  have q9:W7.cell? ⟨S2,9,none⟩=some _:=HRS.out.cell (j:=9) rfl
  refine bodyPost_ret (v:=.tuple #[.agg #[.int .i64 0,.int .i64 0,.int .i64 0,.slice none 0 0,.int .i64 0,.slice none 0 0,.int .i64 0,.int .i64 0,.slice none 0 0,.slice none 0 0],.bool false]) (by simp[results,Tryz.results26,go_sem,q0,q1,q2,q3,q4,q5,q6,q7,q8,q9]) rfl ?_
  exact .mk HBS.out ⟨_,_,⟨⟨0,0,0,[],0,[],0⟩,0,[],[]⟩,rfl,⟨_,_,_,_,rfl,Sl.nil _ _ _,Sl.nil _ _ _,Sl.nil _ _ _,Sl.nil _ _ _⟩,fun h=>by simp at h⟩
 | true=>
 have HR:=Lib.hid (hb0 rfl)
 clear hb0
 have c0:=R1.cell (j:=0) rfl
 have c1:=R1.cell (j:=1) rfl
 have c2:=R1.cell (j:=2) rfl
 have c3:=R1.cell (j:=3) rfl
 have c4:=R1.cell (j:=4) rfl
 have c5:=R1.cell (j:=5) rfl
 have c6:=R1.cell (j:=6) rfl
 have lR1:=R1.lt
 go_wp2_with fail
 refine (KB.out HR.out _ ex).mono ?_
 rintro _ w3 ⟨_,rfl,hb3,bv,rfl,hsy0⟩
 have hlt1:=RS.lt
 have hsy:SysV (fun b=>b≠S2) w3 bv p.full:=hsy0.mono fun b hb=>by have:=HS2.out;rcases hb with h | h<;>omega
 clear hsy0 c0 c1 c2 c3 c4 c5 c6 lR1 KB R1
 replace RS:=RS.ext hb3
 have ex3:=ext_trans ex hb3
 have h:=hsy
 obtain ⟨vc,vs,vt,vx,rfl,hc,hs,ht,hx⟩:=h
 obtain ⟨ca2,cc2,rfl,_⟩:=hc.form
 obtain ⟨sa2,sc2,rfl,_⟩:=hs.form
 obtain ⟨ta2,tc2,rfl,_⟩:=ht.form
 obtain ⟨xa2,xc2,rfl,_⟩:=hx.form2
 obtain ⟨m,hm⟩:∃m,m=p.full.ex.length:=⟨_,rfl⟩
 rw[←hm]at hsy ⊢
 have HM:=Lib.hid hm
 have e4:=ext_alloc w3 (.cells #[.int .i64 p.full.p.n,.int .i64 p.full.p.ins,.int .i64 p.full.p.outs,.slice ca2 p.full.p.cs.length cc2,.int .i64 p.full.p.an,.slice sa2 p.full.p.st.length sc2,.int .i64 p.full.p.rounds,.int .i64 p.full.tn,.slice ta2 p.full.tab.length tc2,.slice xa2 m xc2] 35)
 have HSY:=Lib.hid (hsy.ext e4)
 have R7:=row_new w3 [.int .i64 p.full.p.n,.int .i64 p.full.p.ins,.int .i64 p.full.p.outs,.slice ca2 p.full.p.cs.length cc2,.int .i64 p.full.p.an,.slice sa2 p.full.p.st.length sc2,.int .i64 p.full.p.rounds,.int .i64 p.full.tn,.slice ta2 p.full.tab.length tc2,.slice xa2 m xc2] 35
 have hw3:=RS.lt
 replace RS:=RS.alloc (.cells #[.int .i64 p.full.p.n,.int .i64 p.full.p.ins,.int .i64 p.full.p.outs,.slice ca2 p.full.p.cs.length cc2,.int .i64 p.full.p.an,.slice sa2 p.full.p.st.length sc2,.int .i64 p.full.p.rounds,.int .i64 p.full.tn,.slice ta2 p.full.tab.length tc2,.slice xa2 m xc2] 35)
 replace ex3:=ext_alloc' ex3 (.cells #[.int .i64 p.full.p.n,.int .i64 p.full.p.ins,.int .i64 p.full.p.outs,.slice ca2 p.full.p.cs.length cc2,.int .i64 p.full.p.an,.slice sa2 p.full.p.st.length sc2,.int .i64 p.full.p.rounds,.int .i64 p.full.tn,.slice ta2 p.full.tab.length tc2,.slice xa2 m xc2] 35)
 clear hsy hc hs ht hx e4 hb3 hlt1 hm ex
 go_upto_region 4 with fail
 obtain ⟨w4,hw4⟩:∃w4,w4=w3.alloc (.cells #[.int .i64 p.full.p.n,.int .i64 p.full.p.ins,.int .i64 p.full.p.outs,.slice ca2 p.full.p.cs.length cc2,.int .i64 p.full.p.an,.slice sa2 p.full.p.st.length sc2,.int .i64 p.full.p.rounds,.int .i64 p.full.tn,.slice ta2 p.full.tab.length tc2,.slice xa2 m xc2] 35):=⟨_,rfl⟩
 obtain ⟨B7,hB7⟩:∃B7,B7=w3.heap.size:=⟨_,rfl⟩
 rw[←hw4]at R7 RS ex3 HSY
 rw[←hB7]at R7
 have hB7n:S2≠B7:=by omega
 rw[←hw4,←hB7]
 clear hw4 hB7
 have HRS:=Lib.hid (RS.sets [(0,.int .i64 p.full.p.n),(1,.int .i64 p.full.p.ins),(2,.int .i64 p.full.p.outs),(3,.slice ca2 p.full.p.cs.length cc2),(4,.int .i64 p.full.p.an),(5,.slice sa2 p.full.p.st.length sc2),(6,.int .i64 p.full.p.rounds),(7,.int .i64 p.full.tn),(8,.slice ta2 p.full.tab.length tc2),(9,.slice xa2 m xc2)])
 have HBS:=Lib.hid (sets_below hS2 [(0,.int .i64 p.full.p.n),(1,.int .i64 p.full.p.ins),(2,.int .i64 p.full.p.outs),(3,.slice ca2 p.full.p.cs.length cc2),(4,.int .i64 p.full.p.an),(5,.slice sa2 p.full.p.st.length sc2),(6,.int .i64 p.full.p.rounds),(7,.int .i64 p.full.tn),(8,.slice ta2 p.full.tab.length tc2),(9,.slice xa2 m xc2)] w4 ex3)
 have HAS:=Lib.hid (sets_agree S2 [(0,.int .i64 p.full.p.n),(1,.int .i64 p.full.p.ins),(2,.int .i64 p.full.p.outs),(3,.slice ca2 p.full.p.cs.length cc2),(4,.int .i64 p.full.p.an),(5,.slice sa2 p.full.p.st.length sc2),(6,.int .i64 p.full.p.rounds),(7,.int .i64 p.full.tn),(8,.slice ta2 p.full.tab.length tc2),(9,.slice xa2 m xc2)] w4)
 have KEEP:Hid (∀w',Agree (fun b=>b≠S2) w4 w'→(fun w':World=>w'.cell? ⟨B7,0,none⟩=some (.int .i64 p.full.p.n)∧w'.cell? ⟨B7,1,none⟩=some (.int .i64 p.full.p.ins)∧w'.cell? ⟨B7,2,none⟩=some (.int .i64 p.full.p.outs)∧w'.cell? ⟨B7,3,none⟩=some (.slice ca2 p.full.p.cs.length cc2)∧w'.cell? ⟨B7,4,none⟩=some (.int .i64 p.full.p.an)∧w'.cell? ⟨B7,5,none⟩=some (.slice sa2 p.full.p.st.length sc2)∧w'.cell? ⟨B7,6,none⟩=some (.int .i64 p.full.p.rounds)∧w'.cell? ⟨B7,7,none⟩=some (.int .i64 p.full.tn)∧w'.cell? ⟨B7,8,none⟩=some (.slice ta2 p.full.tab.length tc2)∧w'.cell? ⟨B7,9,none⟩=some (.slice xa2 m xc2)) w'):=Lib.hid fun w' hw=>⟨(R7.agree hw (Ne.symm hB7n)).cell (j:=0) rfl,(R7.agree hw (Ne.symm hB7n)).cell (j:=1) rfl,(R7.agree hw (Ne.symm hB7n)).cell (j:=2) rfl,(R7.agree hw (Ne.symm hB7n)).cell (j:=3) rfl,(R7.agree hw (Ne.symm hB7n)).cell (j:=4) rfl,(R7.agree hw (Ne.symm hB7n)).cell (j:=5) rfl,(R7.agree hw (Ne.symm hB7n)).cell (j:=6) rfl,(R7.agree hw (Ne.symm hB7n)).cell (j:=7) rfl,(R7.agree hw (Ne.symm hB7n)).cell (j:=8) rfl,(R7.agree hw (Ne.symm hB7n)).cell (j:=9) rfl⟩
 have l7:=R7.lt
 have d0:=RS.cell (j:=0) rfl
 have d1:=RS.cell (j:=1) rfl
 have d2:=RS.cell (j:=2) rfl
 have d3:=RS.cell (j:=3) rfl
 have d4:=RS.cell (j:=4) rfl
 have d5:=RS.cell (j:=5) rfl
 have d6:=RS.cell (j:=6) rfl
 have d7:=RS.cell (j:=7) rfl
 have d8:=RS.cell (j:=8) rfl
 have d9:=RS.cell (j:=9) rfl
 have f0:=RS.free 0
 have f1:=RS.free 1
 have f2:=RS.free 2
 have f3:=RS.free 3
 have f4:=RS.free 4
 have f5:=RS.free 5
 have f6:=RS.free 6
 have f7:=RS.free 7
 have f8:=RS.free 8
 have f9:=RS.free 9
 have l2:=RS.lt
 clear RS R7 hw3 ex3
 by_cases hpm:0<m
 ·have hdm:decide ((0:Int)<(m:Int))=true:=decide_eq_true (by omega)
  refine region_E (fun w':World=>w'.cell? ⟨B7,0,none⟩=some (.int .i64 p.full.p.n)∧w'.cell? ⟨B7,1,none⟩=some (.int .i64 p.full.p.ins)∧w'.cell? ⟨B7,2,none⟩=some (.int .i64 p.full.p.outs)∧w'.cell? ⟨B7,3,none⟩=some (.slice ca2 p.full.p.cs.length cc2)∧w'.cell? ⟨B7,4,none⟩=some (.int .i64 p.full.p.an)∧w'.cell? ⟨B7,5,none⟩=some (.slice sa2 p.full.p.st.length sc2)∧w'.cell? ⟨B7,6,none⟩=some (.int .i64 p.full.p.rounds)∧w'.cell? ⟨B7,7,none⟩=some (.int .i64 p.full.tn)∧w'.cell? ⟨B7,8,none⟩=some (.slice ta2 p.full.tab.length tc2)∧w'.cell? ⟨B7,9,none⟩=some (.slice xa2 m xc2)) (fun i=>false) (by kernel_rfl) ?_ (fun hHeld=>?_)
  ·exact KEEP.out _ (.of_ext (drewN_below w4.heap.size w4 1))
  refine anyE_take 0 (v:=?_) rfl (by kernel_rfl) (fun _ _ _ h=>h) (by rfl) ?hy0a hHeld ?rest0a
  case hy0a=>(intro w hSw;(try dsimp only at hSw);go_simp;try with_reducible rfl)
  try simp only[Act.put,zsa,zsz,zss]
  refine anyE_take 1 (v:=?_) rfl (by kernel_rfl) (fun _ _ _ h=>h) (by rfl) ?hy1a hHeld ?rest1a
  case hy1a=>(intro w hSw;(try dsimp only at hSw);go_simp;try with_reducible rfl)
  try simp only[Act.put,zsa,zsz,zss]
  refine anyE_take 2 (v:=?_) rfl (by kernel_rfl) (fun _ _ _ h=>h) (by rfl) ?hy2a hHeld ?rest2a
  case hy2a=>(intro w hSw;(try dsimp only at hSw);go_simp;try with_reducible rfl)
  try simp only[Act.put,zsa,zsz,zss]
  refine anyE_take 3 (v:=?_) rfl (by kernel_rfl) (fun _ _ _ h=>h) (by rfl) ?hy3a hHeld ?rest3a
  case hy3a=>(intro w hSw;(try dsimp only at hSw);go_simp;try with_reducible rfl)
  try simp only[Act.put,zsa,zsz,zss]
  refine anyE_take 4 (v:=?_) rfl (by kernel_rfl) (fun _ _ _ h=>h) (by rfl) ?hy4a hHeld ?rest4a
  case hy4a=>(intro w hSw;(try dsimp only at hSw);go_simp;try with_reducible rfl)
  try simp only[Act.put,zsa,zsz,zss]
  refine anyE_take 5 (v:=?_) rfl (by kernel_rfl) (fun _ _ _ h=>h) (by rfl) ?hy5a hHeld ?rest5a
  case hy5a=>(intro w hSw;(try dsimp only at hSw);go_simp;try with_reducible rfl)
  try simp only[Act.put,zsa,zsz,zss]
  refine anyE_take 6 (v:=?_) rfl (by kernel_rfl) (fun _ _ _ h=>h) (by rfl) ?hy6a hHeld ?rest6a
  case hy6a=>(intro w hSw;(try dsimp only at hSw);go_simp;try with_reducible rfl)
  try simp only[Act.put,zsa,zsz,zss]
  refine anyE_take 7 (v:=?_) rfl (by kernel_rfl) (fun _ _ _ h=>h) (by rfl) ?hy7a hHeld ?rest7a
  case hy7a=>(intro w hSw;(try dsimp only at hSw);go_simp;try with_reducible rfl)
  try simp only[Act.put,zsa,zsz,zss]
  refine anyE_take 8 (v:=?_) rfl (by kernel_rfl) (fun _ _ _ h=>h) (by rfl) ?hy8a hHeld ?rest8a
  case hy8a=>(intro w hSw;(try dsimp only at hSw);go_simp;try with_reducible rfl)
  try simp only[Act.put,zsa,zsz,zss]
  refine anyE_one 9 rfl (by kernel_rfl) (fun K hK=>?_)
  go_simp
  refine hK.out _ _ (fun _=>KEEP.out _ (HAS.out.trans (.of_ext (drewN_below _ _ 1)))) (fun hHeld=>?_);replace hHeld:=hHeld rfl
  clear hK K
  try simp only[Act.put,zsa,zsz,zss]
  refine anyE_take 10 (v:=?_) rfl (by kernel_rfl) (fun _ _ _ h=>h) (by rfl) ?hy10a hHeld ?rest10a
  case hy10a=>(intro w hSw;(try dsimp only at hSw);go_simp;try with_reducible rfl)
  try simp only[Act.put,zsa,zsz,zss]
  refine anyE_done (by kernel_rfl) ?_ _
  clear hHeld KEEP d0 f0 d1 f1 d2 f2 d3 f3 d4 f4 d5 f5 d6 f6 d7 f7 d8 f8 d9 f9 l2 l7
  obtain ⟨W7,hW7⟩:∃W7,W7=sets S2 [(0,.int .i64 p.full.p.n),(1,.int .i64 p.full.p.ins),(2,.int .i64 p.full.p.outs),(3,.slice ca2 p.full.p.cs.length cc2),(4,.int .i64 p.full.p.an),(5,.slice sa2 p.full.p.st.length sc2),(6,.int .i64 p.full.p.rounds),(7,.int .i64 p.full.tn),(8,.slice ta2 p.full.tab.length tc2),(9,.slice xa2 m xc2)] w4:=⟨_,rfl⟩
  rw[←hW7]at HRS HBS HAS
  unfold sets at hW7
  simp only[List.foldl_cons,List.foldl_nil]at hW7
  go_wp2
  rw[←hW7]
  clear hW7
  have q0:W7.cell? ⟨S2,0,none⟩=some _:=HRS.out.cell (j:=0) rfl
  have q1:W7.cell? ⟨S2,1,none⟩=some _:=HRS.out.cell (j:=1) rfl
  have q2:W7.cell? ⟨S2,2,none⟩=some _:=HRS.out.cell (j:=2) rfl
  have q3:W7.cell? ⟨S2,3,none⟩=some _:=HRS.out.cell (j:=3) rfl
  have q4:W7.cell? ⟨S2,4,none⟩=some _:=HRS.out.cell (j:=4) rfl
  have q5:W7.cell? ⟨S2,5,none⟩=some _:=HRS.out.cell (j:=5) rfl
  have q6:W7.cell? ⟨S2,6,none⟩=some _:=HRS.out.cell (j:=6) rfl
  have q7:W7.cell? ⟨S2,7,none⟩=some _:=HRS.out.cell (j:=7) rfl
  have q8:W7.cell? ⟨S2,8,none⟩=some _:=HRS.out.cell (j:=8) rfl
  have q9:W7.cell? ⟨S2,9,none⟩=some _:=HRS.out.cell (j:=9) rfl
  have HFI:=Lib.hid ((HSY.out.agree HAS.out).mono (S':=TT) fun _ _=>trivial)
  refine bodyPost_ret (v:=.tuple #[.agg #[.int .i64 p.full.p.n,.int .i64 p.full.p.ins,.int .i64 p.full.p.outs,.slice ca2 p.full.p.cs.length cc2,.int .i64 p.full.p.an,.slice sa2 p.full.p.st.length sc2,.int .i64 p.full.p.rounds,.int .i64 p.full.tn,.slice ta2 p.full.tab.length tc2,.slice xa2 m xc2],.bool true]) (by simp[results,Tryz.results26,go_sem,q0,q1,q2,q3,q4,q5,q6,q7,q8,q9]) rfl ?_
  exact .mk (HBS.out.trans (drewN_below _ _ 1)) ⟨_,_,p.full,rfl,HFI.out.ext (drewN_below _ _ 1),fun _=>⟨rfl,full25 HR.out.2,HR.out.1,by rw[←HM.out];exact hpm⟩⟩
 ·have hdm:decide ((0:Int)<(m:Int))=false:=decide_eq_false (by omega)
  refine region_E (fun w':World=>w'.cell? ⟨B7,0,none⟩=some (.int .i64 p.full.p.n)∧w'.cell? ⟨B7,1,none⟩=some (.int .i64 p.full.p.ins)∧w'.cell? ⟨B7,2,none⟩=some (.int .i64 p.full.p.outs)∧w'.cell? ⟨B7,3,none⟩=some (.slice ca2 p.full.p.cs.length cc2)∧w'.cell? ⟨B7,4,none⟩=some (.int .i64 p.full.p.an)∧w'.cell? ⟨B7,5,none⟩=some (.slice sa2 p.full.p.st.length sc2)∧w'.cell? ⟨B7,6,none⟩=some (.int .i64 p.full.p.rounds)∧w'.cell? ⟨B7,7,none⟩=some (.int .i64 p.full.tn)∧w'.cell? ⟨B7,8,none⟩=some (.slice ta2 p.full.tab.length tc2)∧w'.cell? ⟨B7,9,none⟩=some (.slice xa2 m xc2)) (fun i=>false) (by kernel_rfl) ?_ (fun hHeld=>?_)
  ·exact KEEP.out _ (.of_ext (drewN_below w4.heap.size w4 1))
  refine anyE_take 0 (v:=?_) rfl (by kernel_rfl) (fun _ _ _ h=>h) (by rfl) ?hy0b hHeld ?rest0b
  case hy0b=>(intro w hSw;(try dsimp only at hSw);go_simp;try with_reducible rfl)
  try simp only[Act.put,zsa,zsz,zss]
  refine anyE_take 1 (v:=?_) rfl (by kernel_rfl) (fun _ _ _ h=>h) (by rfl) ?hy1b hHeld ?rest1b
  case hy1b=>(intro w hSw;(try dsimp only at hSw);go_simp;try with_reducible rfl)
  try simp only[Act.put,zsa,zsz,zss]
  refine anyE_take 2 (v:=?_) rfl (by kernel_rfl) (fun _ _ _ h=>h) (by rfl) ?hy2b hHeld ?rest2b
  case hy2b=>(intro w hSw;(try dsimp only at hSw);go_simp;try with_reducible rfl)
  try simp only[Act.put,zsa,zsz,zss]
  refine anyE_take 3 (v:=?_) rfl (by kernel_rfl) (fun _ _ _ h=>h) (by rfl) ?hy3b hHeld ?rest3b
  case hy3b=>(intro w hSw;(try dsimp only at hSw);go_simp;try with_reducible rfl)
  try simp only[Act.put,zsa,zsz,zss]
  refine anyE_take 4 (v:=?_) rfl (by kernel_rfl) (fun _ _ _ h=>h) (by rfl) ?hy4b hHeld ?rest4b
  case hy4b=>(intro w hSw;(try dsimp only at hSw);go_simp;try with_reducible rfl)
  try simp only[Act.put,zsa,zsz,zss]
  refine anyE_take 5 (v:=?_) rfl (by kernel_rfl) (fun _ _ _ h=>h) (by rfl) ?hy5b hHeld ?rest5b
  case hy5b=>(intro w hSw;(try dsimp only at hSw);go_simp;try with_reducible rfl)
  try simp only[Act.put,zsa,zsz,zss]
  refine anyE_take 6 (v:=?_) rfl (by kernel_rfl) (fun _ _ _ h=>h) (by rfl) ?hy6b hHeld ?rest6b
  case hy6b=>(intro w hSw;(try dsimp only at hSw);go_simp;try with_reducible rfl)
  try simp only[Act.put,zsa,zsz,zss]
  refine anyE_take 7 (v:=?_) rfl (by kernel_rfl) (fun _ _ _ h=>h) (by rfl) ?hy7b hHeld ?rest7b
  case hy7b=>(intro w hSw;(try dsimp only at hSw);go_simp;try with_reducible rfl)
  try simp only[Act.put,zsa,zsz,zss]
  refine anyE_take 8 (v:=?_) rfl (by kernel_rfl) (fun _ _ _ h=>h) (by rfl) ?hy8b hHeld ?rest8b
  case hy8b=>(intro w hSw;(try dsimp only at hSw);go_simp;try with_reducible rfl)
  try simp only[Act.put,zsa,zsz,zss]
  refine anyE_one 9 rfl (by kernel_rfl) (fun K hK=>?_)
  go_simp
  refine hK.out _ _ (fun _=>KEEP.out _ (HAS.out.trans (.of_ext (drewN_below _ _ 1)))) (fun hHeld=>?_);replace hHeld:=hHeld rfl
  clear hK K
  try simp only[Act.put,zsa,zsz,zss]
  refine anyE_take 10 (v:=?_) rfl (by kernel_rfl) (fun _ _ _ h=>h) (by rfl) ?hy10b hHeld ?rest10b
  case hy10b=>(intro w hSw;(try dsimp only at hSw);go_simp;try with_reducible rfl)
  try simp only[Act.put,zsa,zsz,zss]
  refine anyE_done (by kernel_rfl) ?_ _
  clear hHeld KEEP d0 f0 d1 f1 d2 f2 d3 f3 d4 f4 d5 f5 d6 f6 d7 f7 d8 f8 d9 f9 l2 l7
  obtain ⟨W7,hW7⟩:∃W7,W7=sets S2 [(0,.int .i64 p.full.p.n),(1,.int .i64 p.full.p.ins),(2,.int .i64 p.full.p.outs),(3,.slice ca2 p.full.p.cs.length cc2),(4,.int .i64 p.full.p.an),(5,.slice sa2 p.full.p.st.length sc2),(6,.int .i64 p.full.p.rounds),(7,.int .i64 p.full.tn),(8,.slice ta2 p.full.tab.length tc2),(9,.slice xa2 m xc2)] w4:=⟨_,rfl⟩
  rw[←hW7]at HRS HBS HAS
  unfold sets at hW7
  simp only[List.foldl_cons,List.foldl_nil]at hW7
  go_wp2
  rw[←hW7]
  clear hW7
  have q0:W7.cell? ⟨S2,0,none⟩=some _:=HRS.out.cell (j:=0) rfl
  have q1:W7.cell? ⟨S2,1,none⟩=some _:=HRS.out.cell (j:=1) rfl
  have q2:W7.cell? ⟨S2,2,none⟩=some _:=HRS.out.cell (j:=2) rfl
  have q3:W7.cell? ⟨S2,3,none⟩=some _:=HRS.out.cell (j:=3) rfl
  have q4:W7.cell? ⟨S2,4,none⟩=some _:=HRS.out.cell (j:=4) rfl
  have q5:W7.cell? ⟨S2,5,none⟩=some _:=HRS.out.cell (j:=5) rfl
  have q6:W7.cell? ⟨S2,6,none⟩=some _:=HRS.out.cell (j:=6) rfl
  have q7:W7.cell? ⟨S2,7,none⟩=some _:=HRS.out.cell (j:=7) rfl
  have q8:W7.cell? ⟨S2,8,none⟩=some _:=HRS.out.cell (j:=8) rfl
  have q9:W7.cell? ⟨S2,9,none⟩=some _:=HRS.out.cell (j:=9) rfl
  have HFI:=Lib.hid ((HSY.out.agree HAS.out).mono (S':=TT) fun _ _=>trivial)
  refine bodyPost_ret (v:=.tuple #[.agg #[.int .i64 p.full.p.n,.int .i64 p.full.p.ins,.int .i64 p.full.p.outs,.slice ca2 p.full.p.cs.length cc2,.int .i64 p.full.p.an,.slice sa2 p.full.p.st.length sc2,.int .i64 p.full.p.rounds,.int .i64 p.full.tn,.slice ta2 p.full.tab.length tc2,.slice xa2 m xc2],.bool false]) (by simp[results,Tryz.results26,go_sem,q0,q1,q2,q3,q4,q5,q6,q7,q8,q9]) rfl ?_
  exact .mk (HBS.out.trans (drewN_below _ _ 1)) ⟨_,_,p.full,rfl,HFI.out.ext (drewN_below _ _ 1),fun h=>by simp at h⟩
end Go.Proofs.YtaijafjfafbcfaaGreat
