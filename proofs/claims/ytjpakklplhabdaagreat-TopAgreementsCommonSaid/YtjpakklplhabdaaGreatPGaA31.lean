/- Part of the proof that the laws answer true for every input. -/
import Derived.Test.YtjpakklplhabdaaGreatPGaA28
set_option linter.unusedSimpArgs false
set_option linter.unnecessarySimpa false
set_option linter.unusedVariables false
set_option maxRecDepth 100000
set_option maxHeartbeats 40000000
namespace Go.Proofs.YtjpakklplhabdaaGreat
open Go.RowKit
attribute [local go_sem ↓] Go.wp_at_zero Go.wp_at_succ
theorem yp {P:Program} {ops:Array Oper} {o:Oper} {a:Act} {w:World} {Kc:Act→World→Prop} {Q:Exit→Act→World→Prop} {E:Prop} (hgd:o.guard=none) (s x:Operand) (t:TypeId)
  (ho:o.op=.call {callee:=.builtin .append,args:=#[s,x],argTypes:=#[t,t]}) (e:TypeId) (z:Value) (size bytes:Nat) (ht:P.underlying t=some (.slice e))
  (hinfo:(P.info? e).map (fun i=>(i.zero,i.size,i.bytes))=some (some z,size,bytes)) (hz1:z.cells.size=size) (hsz:0<size) (base:Nat) (v:Value) (n:Nat) (xs:List Value) (hs:a.eval s=v) (hown:w.ownsRow base e size v n xs)
  (S:Nat→Prop) (ad:Option Addr) (m c:Nat) (news:List Value) (hx:a.eval x=.slice ad m c) (had:Ad S w ad m c) (hl:news.length=m * size) (hcell:∀j,j<m * size→w.cell? (adr ad j)=some (news.getD j undef)) (h1:∀u∈news,u.oneCell'=true)
  (hbytes:(n+m) * bytes≤140737488355328) (hn:n+m≤9223372036854775807) (hbase:base≤w.heap.size)
  (h:∀v' w',w'.ownsRow base e size v' (n+m) (xs++news)→Below base w w'→(∀S:Nat→Prop,(∀k,v.ownBlock=some k→¬S k)→Agree S w w')→(∀k,v'.ownBlock=some k→v.ownBlock=some k∨w.heap.size≤k)→Kc (a.put o.dst v') w'):
  if Region.wanted o (yielded ops a.tmps)=true then Oper.wp P o a w Kc Q else E:=by
 have hw:Region.wanted o (yielded ops a.tmps)=true:=by simp[Region.wanted,hgd]
 rw[if_pos hw]
 obtain ⟨v',w',hrun,r1,r2,r3,r4,_⟩:=qS (P:=P) t o.type e z size bytes ht hinfo hz1 hsz base v n xs hown S ad m c news had hl hcell h1 hbytes hn hbase
 unfold Oper.wp
 simp[execOp,ho,resolve,invoke,builtin,hs,hx,hrun,Result.andThen]
 exact h v' w' r1 r2 r3 r4
theorem xw {w:World} {base n z:Nat} {e:TypeId} {v:Value} {xs:List Value} (h:w.ownsRow base e z v n xs):∃a c,v=.slice a n c:=by
 rcases h.2 with ⟨rfl,h0⟩ | ⟨g,cap,cur,rfl,_⟩
 ·exact ⟨none,0,by rw[h0]⟩
 ·exact ⟨_,cap,rfl⟩
theorem Xu (W:World) {v:List Int} (hv:v.length=8):∀j,j<1 * 8→(W.alloc (.cells #[.int .i64 (nth v 0),.int .i64 (nth v 1),.int .i64 (nth v 2),.int .i64 (nth v 3),.int .i64 (nth v 4),.int .i64 (nth v 5),.int .i64 (nth v 6),.int .i64 (nth v 7)] 134)).cell? (adr (some ⟨W.heap.size,0,none⟩) j)=some (([.int .i64 (nth v 0),.int .i64 (nth v 1),.int .i64 (nth v 2),.int .i64 (nth v 3),.int .i64 (nth v 4),.int .i64 (nth v 5),.int .i64 (nth v 6),.int .i64 (nth v 7)]:List Value).getD j undef):=fun j hj=>by
 have hR:=ze W [.int .i64 (nth v 0),.int .i64 (nth v 1),.int .i64 (nth v 2),.int .i64 (nth v 3),.int .i64 (nth v 4),.int .i64 (nth v 5),.int .i64 (nth v 6),.int .i64 (nth v 7)] 134
 rw[zZ,Nat.zero_add]
 exact hR.cell (by rw[List.getD_eq_getElem?_getD,List.getElem?_eq_getElem (by simpa using hj)];rfl)
theorem zbQ (v:List Int):∀u∈([.int .i64 (nth v 0),.int .i64 (nth v 1),.int .i64 (nth v 2),.int .i64 (nth v 3),.int .i64 (nth v 4),.int .i64 (nth v 5),.int .i64 (nth v 6),.int .i64 (nth v 7)]:List Value),u.oneCell'=true:=fun u hu=>by
 simp only[List.mem_cons,List.not_mem_nil,or_false]at hu
 rcases hu with rfl | rfl | rfl | rfl | rfl | rfl | rfl | rfl<;>rfl
theorem Agree.cellOld {W W':World} {p:Addr} {u:Value} (h:Agree (fun _=>True) W W') (hc:W.cell? p=some u):W'.cell? p=some u:=yQ hc h trivial
def PutR (n:Int) (S:Nat→Prop) (w:World) (tab:List (List Int)) (v:List Int) (w':World) (r:Value):Prop:=
 ∃vt',r=.tuple #[.agg #[.int .i64 n,vt'],.int .i64 (idxV tab v:Nat)]∧Sl (kFlat 8) (fun b=>S b∨w.heap.size≤b) w' vt' (addV tab v)
theorem Yu {S:Nat→Prop} {w:World} {vt:Value} {tab:List (List Int)} {v:List Int} (n:Int) (ht:Sl (kFlat 8) S w vt tab) (hv:ViewOK v) (hlt:tab.length≤100000):
  Calls Tryz.prog 109 #[.agg #[.int .i64 n,vt],.agg #[.int .i64 (nth v 0),.int .i64 (nth v 1),.int .i64 (nth v 2),.int .i64 (nth v 3),.int .i64 (nth v 4),.int .i64 (nth v 5),.int .i64 (nth v 6),.int .i64 (nth v 7)]] w (Post w (PutR n S w tab v)):=by
 obtain ⟨ta,tc,rfl,tad,_⟩:=ht.form2
 have KI:Hid (∀W,Below w.heap.size w W→Calls Tryz.prog 130 #[.agg #[.int .i64 n,.slice ta tab.length tc],.agg #[.int .i64 (nth v 0),.int .i64 (nth v 1),.int .i64 (nth v 2),.int .i64 (nth v 3),.int .i64 (nth v 4),.int .i64 (nth v 5),.int .i64 (nth v 6),.int .i64 (nth v 7)]] W (Post W fun _ r=>r=.int .i64 (if v∈tab then (idxV tab v:Nat) else -1))):=zhd fun W hW=>QZ n (ht.ext hW) hv
 have HT:=zhd ht
 have HV:=zhd hv
 clear ht hv tad
 have ex:=zg (zg (zb w (.cells #[.int .i64 n,.slice ta tab.length tc] 36)) (.cells #[.int .i64 (nth v 0),.int .i64 (nth v 1),.int .i64 (nth v 2),.int .i64 (nth v 3),.int .i64 (nth v 4),.int .i64 (nth v 5),.int .i64 (nth v 6),.int .i64 (nth v 7)] 134)) (.cells #[.int .i64 0,.slice none 0 0] 36)
 have R0:=((ze w [.int .i64 n,.slice ta tab.length tc] 36).alloc (.cells #[.int .i64 (nth v 0),.int .i64 (nth v 1),.int .i64 (nth v 2),.int .i64 (nth v 3),.int .i64 (nth v 4),.int .i64 (nth v 5),.int .i64 (nth v 6),.int .i64 (nth v 7)] 134)).alloc (.cells #[.int .i64 0,.slice none 0 0] 36)
 have R1:=(ze (w.alloc (.cells #[.int .i64 n,.slice ta tab.length tc] 36)) [.int .i64 (nth v 0),.int .i64 (nth v 1),.int .i64 (nth v 2),.int .i64 (nth v 3),.int .i64 (nth v 4),.int .i64 (nth v 5),.int .i64 (nth v 6),.int .i64 (nth v 7)] 134).alloc (.cells #[.int .i64 0,.slice none 0 0] 36)
 have R2:=ze ((w.alloc (.cells #[.int .i64 n,.slice ta tab.length tc] 36)).alloc (.cells #[.int .i64 (nth v 0),.int .i64 (nth v 1),.int .i64 (nth v 2),.int .i64 (nth v 3),.int .i64 (nth v 4),.int .i64 (nth v 5),.int .i64 (nth v 6),.int .i64 (nth v 7)] 134)) [.int .i64 0,.slice none 0 0] 36
 simp only[World.size_alloc,Nat.add_assoc,Nat.reduceAdd]at R1 R2
 by_cases hin:v∈tab
 ·simp only[if_pos hin]at KI
  have HA:Hid (addV tab v=tab):=zhd (by unfold addV;rw[if_pos hin])
  obtain ⟨ix,hix⟩:∃ix,ix=idxV tab v:=⟨_,rfl⟩
  rw[←hix]at KI
  have HIX:=zhd hix
  clear hin hix
  go_enter Tryz.func109,Tryz.ntmps109
  go_wp2_with fail
  refine (KI.out _ ex).mono ?_
  rintro _ w1 ⟨_,rfl,hb1,rfl⟩
  replace R0:=R0.ext hb1
  replace R2:=R2.ext hb1
  replace ex:=za ex hb1
  have c0:=R0.zc 0 rfl
  have c1:=R0.zc 1 rfl
  have d0:=R2.zc 0 rfl
  have d1:=R2.zc 1 rfl
  have f0:=R2.free 0
  have f1:=R2.free 1
  have l0:=R0.lt
  have l2:=R2.lt
  have HR:=zhd (R2.sets [(0,.int .i64 n),(1,.slice ta tab.length tc)])
  have HB:=zhd (zD (show w.heap.size≤w.heap.size+2 by omega) [(0,.int .i64 n),(1,.slice ta tab.length tc)] w1 ex)
  have HSL:=zhd (HT.out.ext ex)
  have HAG:=zhd (zQ (w.heap.size+2) [(0,.int .i64 n),(1,.slice ta tab.length tc)] w1)
  clear hb1 KI R1 R0 R2 ex
  go_wp2
  obtain ⟨W7,hW7⟩:∃W7,W7=sets (w.heap.size+2) [(0,.int .i64 n),(1,.slice ta tab.length tc)] w1:=⟨_,rfl⟩
  rw[←hW7]at HR HB HAG
  have q0:W7.cell? ⟨w.heap.size+2,0,none⟩=some _:=HR.out.zc 0 rfl
  have q1:W7.cell? ⟨w.heap.size+2,1,none⟩=some _:=HR.out.zc 1 rfl
  unfold sets at hW7
  simp only[List.foldl_cons,List.foldl_nil]at hW7
  simp only[Nat.add_assoc,Nat.reduceAdd]
  rw[←hW7]
  refine bodyPost_ret (v:=.tuple #[.agg #[.int .i64 n,.slice ta tab.length tc],.int .i64 ix]) (by simp[results,Tryz.results109,go_sem,q0,q1]) rfl ?_
  exact .mk HB.out ⟨_,by rw[HIX.out],by rw[HA.out];exact (((HT.out.block.ext HB.out)).mono fun b hb=>.inl hb.1)⟩
 ·have KI:Hid (∀W,Below w.heap.size w W→Calls Tryz.prog 130 #[.agg #[.int .i64 n,.slice ta tab.length tc],.agg #[.int .i64 (nth v 0),.int .i64 (nth v 1),.int .i64 (nth v 2),.int .i64 (nth v 3),.int .i64 (nth v 4),.int .i64 (nth v 5),.int .i64 (nth v 6),.int .i64 (nth v 7)]] W (Post W fun _ r=>r=.int .i64 (-1))):=zhd fun W hW=>by have:=KI.out W hW;simp only[if_neg hin]at this;exact this
  have HA:Hid (addV tab v=tab++[v]):=zhd (by unfold addV;rw[if_neg hin])
  have HIX:Hid (idxV tab v=tab.length):=zhd (xl hin)
  have HB1:Hid ((tab.length+1) * 64≤140737488355328∧tab.length * 64≤140737488355328):=zhd (by omega)
  have HV8:=zhd HV.out.1
  clear hin hlt
  go_enter Tryz.func109,Tryz.ntmps109
  go_wp2_with fail
  refine (KI.out _ ex).mono ?_
  rintro _ w1 ⟨_,rfl,hb1,rfl⟩
  replace R0:=R0.ext hb1
  replace R1:=R1.ext hb1
  replace R2:=R2.ext hb1
  replace ex:=za ex hb1
  clear hb1 KI
  have c0:=R0.zc 0 rfl
  have l0:=R0.lt
  have l2:=R2.lt
  have R3:=ze w1 [.int .i64 n,.slice none 0 0] 36
  replace R0:=R0.alloc (.cells #[.int .i64 n,.slice none 0 0] 36)
  replace R1:=R1.alloc (.cells #[.int .i64 n,.slice none 0 0] 36)
  replace R2:=R2.alloc (.cells #[.int .i64 n,.slice none 0 0] 36)
  replace ex:=zg ex (.cells #[.int .i64 n,.slice none 0 0] 36)
  go_wp2
  obtain ⟨C3,hC3⟩:∃C3,C3=w1.heap.size:=⟨_,rfl⟩
  obtain ⟨W,hW⟩:∃W,W=w1.alloc (.cells #[.int .i64 n,.slice none 0 0] 36):=⟨_,rfl⟩
  have hCW:W.heap.size=C3+1:=by rw[hW,hC3];simp
  rw[←hW]at R0 R1 R2 R3 ex
  rw[←hC3]at R3 l0 l2
  simp only[Nat.add_assoc,Nat.reduceAdd]
  rw[←hW,←hC3]
  have HCW:=zhd hCW
  clear hW hC3 c0 hCW
  have hd:=zh W.heap.size W 1
  have hTd:=HT.out.ext (za ex hd)
  have HAD:=zhd hTd.ad.1
  obtain ⟨xs,hx1,hx2,hx3,hx4⟩:=hTd.parts
  have HX1:Hid (xs.length=tab.length * 8):=zhd hx1
  have HX2:=zhd hx2
  have HX4:=zhd hx4
  have KEEP:Hid (∀w',Below W.drew.heap.size W.drew w'→(fun w':World=>w'.cell? ⟨C3,1,none⟩=some (.slice none 0 0)∧w'.cell? ⟨w.heap.size,1,none⟩=some (.slice ta tab.length tc)∧w'.cell? ⟨w.heap.size+1,0,none⟩=some (.int .i64 (nth v 0))∧w'.cell? ⟨w.heap.size+1,1,none⟩=some (.int .i64 (nth v 1))∧w'.cell? ⟨w.heap.size+1,2,none⟩=some (.int .i64 (nth v 2))∧w'.cell? ⟨w.heap.size+1,3,none⟩=some (.int .i64 (nth v 3))∧w'.cell? ⟨w.heap.size+1,4,none⟩=some (.int .i64 (nth v 4))∧w'.cell? ⟨w.heap.size+1,5,none⟩=some (.int .i64 (nth v 5))∧w'.cell? ⟨w.heap.size+1,6,none⟩=some (.int .i64 (nth v 6))∧w'.cell? ⟨w.heap.size+1,7,none⟩=some (.int .i64 (nth v 7))) w'):=zhd fun w' hw=>by
   have h0:=R0.ext (hd.trans hw)
   have h1:=R1.ext (hd.trans hw)
   have h3:=R3.ext (hd.trans hw)
   exact ⟨h3.zc 1 rfl,h0.zc 1 rfl,h1.zc 0 rfl,h1.zc 1 rfl,h1.zc 2 rfl,h1.zc 3 rfl,h1.zc 4 rfl,h1.zc 5 rfl,h1.zc 6 rfl,h1.zc 7 rfl⟩
  have FIN:Hid (∀(W4:World) (v2:Value),Below W.drew.heap.size W.drew W4→W4.ownsRow W.drew.heap.size 134 8 v2 (tab.length+1) (([]++xs)++[.int .i64 (nth v 0),.int .i64 (nth v 1),.int .i64 (nth v 2),.int .i64 (nth v 3),.int .i64 (nth v 4),.int .i64 (nth v 5),.int .i64 (nth v 6),.int .i64 (nth v 7)])→Below W.drew.heap.size W.drew W4∧(W4.cell? ⟨C3,1,none⟩=some (.slice none 0 0)∧W4.frozen? ⟨C3,1,none⟩=false∧C3<W4.heap.size)∧
    ∀W5,W5=W4.setCell ⟨C3,1,none⟩ v2→Row W5 C3 36 [.int .i64 n,v2]∧Row W5 w.heap.size 36 [.int .i64 n,.slice ta tab.length tc]∧Row W5 (w.heap.size+2) 36 [.int .i64 0,.slice none 0 0]∧Below w.heap.size w W5∧Sl (kFlat 8) (fun b=>(S b∨w.heap.size≤b)∧b≠w.heap.size+2) W5 v2 (tab++[v])):=zhd fun W4 v2 hw ho=>by
   have h3:=R3.ext (hd.trans hw)
   refine ⟨hw,⟨h3.zc 1 rfl,h3.free 1,h3.lt⟩,fun W5 hW5=>?_⟩
   subst hW5
   have hg:=zj W4 C3 1 v2
   have hA:Agree (fun b=>b≠C3) W4 (W4.setCell ⟨C3,1,none⟩ v2):=.of_grown hg fun b hb e=>hb (by cases e;rfl)
   refine ⟨h3.set 1 v2,(R0.ext (hd.trans hw)).agree hA (by omega),(R2.ext (hd.trans hw)).agree hA (by omega),(za ex (hd.trans hw)).setCell (by have:=HCW.out;have:=ex.size;simp;omega) _,?_⟩
   have hown:OwnK (kFlat 8) 134 W.drew.heap.size (fun _=>False) W4 v2 (tab++[v]):=by
    refine ⟨([]++xs)++[.int .i64 (nth v 0),.int .i64 (nth v 1),.int .i64 (nth v 2),.int .i64 (nth v 3),.int .i64 (nth v 4),.int .i64 (nth v 5),.int .i64 (nth v 6),.int .i64 (nth v 7)],(by rw[List.length_append];exact ho),fun j hj=>?_⟩
    simp only[List.length_append,List.length_cons,List.length_nil]at hj
    have sz:(kFlat 8).size=8:=rfl
    have hxl:([]++xs).length=tab.length * 8:=by rw[List.nil_append];exact hx1
    rw[sz]
    by_cases hj':j<tab.length
    ·rw[Xt hxl hj',List.getElem_append_left hj',List.nil_append]
     exact hx3 j hj'
    ·obtain rfl:j=tab.length:=by omega
     rw[Qn hxl rfl]
     simp only[List.getElem_concat_length]
     exact ⟨HV.out.1,(cells8 HV.out.1).symm,HV.out.2⟩
   have hsl:=hown.sl (by rw[List.length_append];simp;have:=HB1.out;omega)
   refine (hsl.mono (S':=fun b=>((S b∨w.heap.size≤b)∧b≠w.heap.size+2)∧b≠C3) fun b hb=>?_).agree (hA.mono fun b hb=>hb.2) |>.mono fun b hb=>hb.1
   rcases hb with h | h
   ·exact h.elim
   ·have h':C3+1≤b:=by have:W.drew.heap.size=C3+1:=HCW.out;omega
    exact ⟨⟨.inr (by omega),by omega⟩,by omega⟩
  clear R0 R1 R2 R3 hx1 hx2 hx3 hx4 hTd hd ex
  refine zH (fun w':World=>w'.cell? ⟨C3,1,none⟩=some (.slice none 0 0)∧w'.cell? ⟨w.heap.size,1,none⟩=some (.slice ta tab.length tc)∧w'.cell? ⟨w.heap.size+1,0,none⟩=some (.int .i64 (nth v 0))∧w'.cell? ⟨w.heap.size+1,1,none⟩=some (.int .i64 (nth v 1))∧w'.cell? ⟨w.heap.size+1,2,none⟩=some (.int .i64 (nth v 2))∧w'.cell? ⟨w.heap.size+1,3,none⟩=some (.int .i64 (nth v 3))∧w'.cell? ⟨w.heap.size+1,4,none⟩=some (.int .i64 (nth v 4))∧w'.cell? ⟨w.heap.size+1,5,none⟩=some (.int .i64 (nth v 5))∧w'.cell? ⟨w.heap.size+1,6,none⟩=some (.int .i64 (nth v 6))∧w'.cell? ⟨w.heap.size+1,7,none⟩=some (.int .i64 (nth v 7))) (fun i=>i==9) (by kernel_rfl) ?_ (fun hHeld=>?_)
  ·exact KEEP.out _ (.refl _ _)
  refine anyE_take 0 (v:=?_) rfl (by kernel_rfl) (fun _ _ _ h=>h) (by rfl) ?hy0c hHeld ?r0c
  case hy0c=>(intro w hSw;(try dsimp only at hSw);go_simp;try with_reducible rfl)
  try simp only[Act.put,zsa,zsz,zss]
  refine anyE_take 1 (v:=?_) rfl (by kernel_rfl) (fun _ _ _ h=>h) (by rfl) ?hy1c hHeld ?r1c
  case hy1c=>(intro w hSw;(try dsimp only at hSw);go_simp;try with_reducible rfl)
  try simp only[Act.put,zsa,zsz,zss]
  refine anyE_take 2 (v:=?_) rfl (by kernel_rfl) (fun _ _ _ h=>h) (by rfl) ?hy2c hHeld ?r2c
  case hy2c=>(intro w hSw;(try dsimp only at hSw);go_simp;try with_reducible rfl)
  try simp only[Act.put,zsa,zsz,zss]
  refine anyE_take 3 (v:=?_) rfl (by kernel_rfl) (fun _ _ _ h=>h) (by rfl) ?hy3c hHeld ?r3c
  case hy3c=>(intro w hSw;(try dsimp only at hSw);go_simp;try with_reducible rfl)
  try simp only[Act.put,zsa,zsz,zss]
  refine anyE_take 5 (v:=?_) rfl (by kernel_rfl) (fun _ _ _ h=>h) (by rfl) ?hy5c hHeld ?r5c
  case hy5c=>(intro w hSw;(try dsimp only at hSw);go_simp;try with_reducible rfl)
  try simp only[Act.put,zsa,zsz,zss]
  refine zdQ 4 6 rfl rfl (by kernel_rfl) (fun K hK=>?way1) (fun K hK=>?way2)
  case way1=>
   (refine yp (w:=W.drew) rfl _ _ 34 (by rfl) 134 _ 8 64 Tryz.underlying34 yM rfl (by decide) W.drew.heap.size (.slice none 0 0) 0 [] (by rfl) (World.ownsRow_nil _ _ _ _) S ta tab.length tc xs (by rfl) HAD.out HX1.out HX2.out HX4.out (by rw[Nat.zero_add];exact HB1.out.2) (by omega) (Nat.le_refl _) ?_;intro v1 W1 ho1 hb1 hag1 hv1;rw[Nat.zero_add]at ho1;obtain ⟨v1a,v1c,rfl⟩:=xw ho1)
   refine hK.out _ _ (fun _=>KEEP.out _ hb1) (fun hHeld=>?_);replace hHeld:=hHeld rfl
   clear hK K
   try simp only[Act.put,zsa,zsz,zss]
   refine anyE_one 6 rfl (by kernel_rfl) (fun K hK=>?_)
   go_simp
   refine hK.out _ _ (fun _=>KEEP.out _ (hb1.alloc hb1.size _)) (fun hHeld=>?_);replace hHeld:=hHeld rfl
   clear hK K
   try simp only[Act.put,zsa,zsz,zss]
   refine anyE_one 7 rfl (by kernel_rfl) (fun K hK=>?_)
   (refine yp (w:=W1.alloc (.cells #[.int .i64 (nth v 0),.int .i64 (nth v 1),.int .i64 (nth v 2),.int .i64 (nth v 3),.int .i64 (nth v 4),.int .i64 (nth v 5),.int .i64 (nth v 6),.int .i64 (nth v 7)] 134)) rfl _ _ 34 (by rfl) 134 _ 8 64 Tryz.underlying34 yM rfl (by decide) W.drew.heap.size (.slice v1a tab.length v1c) tab.length ([]++xs) (by rfl) (qn ho1 (zb _ _)) (fun _=>True) (some ⟨W1.heap.size,0,none⟩) 1 1 [.int .i64 (nth v 0),.int .i64 (nth v 1),.int .i64 (nth v 2),.int .i64 (nth v 3),.int .i64 (nth v 4),.int .i64 (nth v 5),.int .i64 (nth v 6),.int .i64 (nth v 7)] (by rfl) (.inr ⟨_,0,rfl,by simp,trivial⟩) rfl (Xu W1 HV8.out) (zbQ v) HB1.out.1 (by have:=HB1.out;omega) (Nat.le_trans hb1.size (by simp)) ?_;intro v2 W4 ho2 hb2 hag2 hv2;have hF4:=zhd (FIN.out _ _ (hb1.trans ((zb W1 (.cells #[.int .i64 (nth v 0),.int .i64 (nth v 1),.int .i64 (nth v 2),.int .i64 (nth v 3),.int .i64 (nth v 4),.int .i64 (nth v 5),.int .i64 (nth v 6),.int .i64 (nth v 7)] 134)).mono hb1.size |>.trans hb2)) ho2);obtain ⟨v2a,v2c,rfl⟩:=xw ho2)
   refine hK.out _ _ (fun _=>KEEP.out _ hF4.out.1) (fun hHeld=>?_);replace hHeld:=hHeld rfl
   have z1:=hF4.out.2.1.1
   have z2:=hF4.out.2.1.2.1
   have z3:=hF4.out.2.1.2.2
   clear hK K
   try simp only[Act.put,zsa,zsz,zss]
   refine anyE_take 8 (v:=?_) rfl (by kernel_rfl) (fun _ _ _ h=>h) (by rfl) ?hy8a hHeld ?r8a
   case hy8a=>(intro w hSw;(try dsimp only at hSw);go_simp;try with_reducible rfl)
   try simp only[Act.put,zsa,zsz,zss]
   refine anyE_one 9 rfl (by kernel_rfl) (fun K hK=>?_)
   go_simp
   refine hK.out _ _ (fun h=>by simp at h) (fun hHeld=>?_)
   clear hK K
   try simp only[Act.put,zsa,zsz,zss]
   refine zy (by kernel_rfl) ?_ _
   clear hHeld KEEP
   obtain ⟨W5,hW5⟩:∃W5,W5=W4.setCell ⟨C3,1,none⟩ (.slice v2a (tab.length+1) v2c):=⟨_,rfl⟩
   obtain ⟨g1,g2,g3,g4,g5⟩:=hF4.out.2.2 W5 hW5
   have g5:=zhd g5
   rw[←hW5]
   have c0:=g1.zc 0 rfl
   have c1:=g1.zc 1 rfl
   have e1:=g2.zc 1 rfl
   have d0:=g3.zc 0 rfl
   have d1:=g3.zc 1 rfl
   have f0:=g3.free 0
   have f1:=g3.free 1
   have l0:=g1.lt
   have l1:=g2.lt
   have l2:=g3.lt
   have HG:=zhd (And.intro g3 g4)
   clear hW5 hF4 z1 z2 z3 g1 g2 g3 g4
   go_wp2
   go_region
   go_wp2
   obtain ⟨W7,hW7⟩:∃W7,W7=((W5.setCell ⟨w.heap.size+2,0,none⟩ (.int .i64 n)).setCell ⟨w.heap.size+2,1,none⟩ (.slice v2a (tab.length+1) v2c)).drew:=⟨_,rfl⟩
   have HR7:Row W7 (w.heap.size+2) 36 [.int .i64 n,.slice v2a (tab.length+1) v2c]:=by rw[hW7];exact ((HG.out.1.set 0 (.int .i64 n)).set 1 (.slice v2a (tab.length+1) v2c)).agree (S:=fun _=>True) (zq _ _ 1) trivial
   have HA7:Agree (fun b=>b≠w.heap.size+2) W5 W7:=by
    rw[hW7]
    exact ((Agree.of_grown (zj _ _ _ _) fun b hb e=>hb (by cases e;rfl)).trans (.of_grown (zj _ _ _ _) fun b hb e=>hb (by cases e;rfl))).trans (zq _ _ 1)
   have HB7:Below w.heap.size w W7:=by rw[hW7];exact ((HG.out.2.setCell (by simp) _).setCell (by simp) _).trans (zh _ _ 1)
   have q0:W7.cell? ⟨w.heap.size+2,0,none⟩=some _:=HR7.zc 0 rfl
   have q1:W7.cell? ⟨w.heap.size+2,1,none⟩=some _:=HR7.zc 1 rfl
   rw[←hW7]
   clear hW7
   refine bodyPost_ret (v:=.tuple #[.agg #[.int .i64 n,.slice v2a (tab.length+1) v2c],.int .i64 tab.length]) (by simp[results,Tryz.results109,go_sem,q0,q1]) rfl ?_
   exact .mk HB7 ⟨_,by rw[HIX.out],by rw[HA.out];exact (g5.out.agree (HA7.mono fun b hb=>hb.2)).mono fun b hb=>hb.1⟩
  case way2=>
   go_simp
   refine hK.out _ _ (fun _=>KEEP.out _ (zb _ _)) (fun hHeld=>?_);replace hHeld:=hHeld rfl
   clear hK K
   try simp only[Act.put,zsa,zsz,zss]
   refine anyE_one 4 rfl (by kernel_rfl) (fun K hK=>?_)
   (refine yp (w:=W.drew.alloc (.cells #[.int .i64 (nth v 0),.int .i64 (nth v 1),.int .i64 (nth v 2),.int .i64 (nth v 3),.int .i64 (nth v 4),.int .i64 (nth v 5),.int .i64 (nth v 6),.int .i64 (nth v 7)] 134)) rfl _ _ 34 (by rfl) 134 _ 8 64 Tryz.underlying34 yM rfl (by decide) W.drew.heap.size (.slice none 0 0) 0 [] (by rfl) (World.ownsRow_nil _ _ _ _) S ta tab.length tc xs (by rfl) (HAD.out.agree (.of_ext (zb _ _))) HX1.out (fun j hj=>zm (HX2.out j hj) (zb _ _)) HX4.out (by rw[Nat.zero_add];exact HB1.out.2) (by omega) (by simp) ?_;intro v1 W1 ho1 hb1 hag1 hv1;rw[Nat.zero_add]at ho1;obtain ⟨v1a,v1c,rfl⟩:=xw ho1;have hb1':=(zb W.drew (.cells #[.int .i64 (nth v 0),.int .i64 (nth v 1),.int .i64 (nth v 2),.int .i64 (nth v 3),.int .i64 (nth v 4),.int .i64 (nth v 5),.int .i64 (nth v 6),.int .i64 (nth v 7)] 134)).trans hb1)
   refine hK.out _ _ (fun _=>KEEP.out _ hb1') (fun hHeld=>?_);replace hHeld:=hHeld rfl
   clear hK K
   try simp only[Act.put,zsa,zsz,zss]
   refine anyE_one 7 rfl (by kernel_rfl) (fun K hK=>?_)
   (refine yp (w:=W1) rfl _ _ 34 (by rfl) 134 _ 8 64 Tryz.underlying34 yM rfl (by decide) W.drew.heap.size (.slice v1a tab.length v1c) tab.length ([]++xs) (by rfl) ho1 (fun _=>True) (some ⟨W.heap.size,0,none⟩) 1 1 [.int .i64 (nth v 0),.int .i64 (nth v 1),.int .i64 (nth v 2),.int .i64 (nth v 3),.int .i64 (nth v 4),.int .i64 (nth v 5),.int .i64 (nth v 6),.int .i64 (nth v 7)] (by rfl) (.inr ⟨_,0,rfl,by have:=hag1 (fun _=>True) (fun k hk=>by simp[Value.ownBlock]at hk);have:=this.size;simp at this;omega,trivial⟩) rfl (fun j hj=>(hag1 (fun _=>True) (fun k hk=>by simp[Value.ownBlock]at hk)).cellOld (Xu W.drew HV8.out j hj)) (zbQ v) HB1.out.1 (by have:=HB1.out;omega) hb1'.size ?_;intro v2 W4 ho2 hb2 hag2 hv2;have hF4:=zhd (FIN.out _ _ (hb1'.trans hb2) ho2);obtain ⟨v2a,v2c,rfl⟩:=xw ho2)
   refine hK.out _ _ (fun _=>KEEP.out _ hF4.out.1) (fun hHeld=>?_);replace hHeld:=hHeld rfl
   have z1:=hF4.out.2.1.1
   have z2:=hF4.out.2.1.2.1
   have z3:=hF4.out.2.1.2.2
   clear hK K
   try simp only[Act.put,zsa,zsz,zss]
   refine anyE_take 8 (v:=?_) rfl (by kernel_rfl) (fun _ _ _ h=>h) (by rfl) ?hy8b hHeld ?r8b
   case hy8b=>(intro w hSw;(try dsimp only at hSw);go_simp;try with_reducible rfl)
   try simp only[Act.put,zsa,zsz,zss]
   refine anyE_one 9 rfl (by kernel_rfl) (fun K hK=>?_)
   go_simp
   refine hK.out _ _ (fun h=>by simp at h) (fun hHeld=>?_)
   clear hK K
   try simp only[Act.put,zsa,zsz,zss]
   refine zy (by kernel_rfl) ?_ _
   clear hHeld KEEP
   obtain ⟨W5,hW5⟩:∃W5,W5=W4.setCell ⟨C3,1,none⟩ (.slice v2a (tab.length+1) v2c):=⟨_,rfl⟩
   obtain ⟨g1,g2,g3,g4,g5⟩:=hF4.out.2.2 W5 hW5
   have g5:=zhd g5
   rw[←hW5]
   have c0:=g1.zc 0 rfl
   have c1:=g1.zc 1 rfl
   have e1:=g2.zc 1 rfl
   have d0:=g3.zc 0 rfl
   have d1:=g3.zc 1 rfl
   have f0:=g3.free 0
   have f1:=g3.free 1
   have l0:=g1.lt
   have l1:=g2.lt
   have l2:=g3.lt
   have HG:=zhd (And.intro g3 g4)
   clear hW5 hF4 z1 z2 z3 g1 g2 g3 g4
   go_wp2
   go_region
   go_wp2
   obtain ⟨W7,hW7⟩:∃W7,W7=((W5.setCell ⟨w.heap.size+2,0,none⟩ (.int .i64 n)).setCell ⟨w.heap.size+2,1,none⟩ (.slice v2a (tab.length+1) v2c)).drew:=⟨_,rfl⟩
   have HR7:Row W7 (w.heap.size+2) 36 [.int .i64 n,.slice v2a (tab.length+1) v2c]:=by rw[hW7];exact ((HG.out.1.set 0 (.int .i64 n)).set 1 (.slice v2a (tab.length+1) v2c)).agree (S:=fun _=>True) (zq _ _ 1) trivial
   have HA7:Agree (fun b=>b≠w.heap.size+2) W5 W7:=by
    rw[hW7]
    exact ((Agree.of_grown (zj _ _ _ _) fun b hb e=>hb (by cases e;rfl)).trans (.of_grown (zj _ _ _ _) fun b hb e=>hb (by cases e;rfl))).trans (zq _ _ 1)
   have HB7:Below w.heap.size w W7:=by rw[hW7];exact ((HG.out.2.setCell (by simp) _).setCell (by simp) _).trans (zh _ _ 1)
   have q0:W7.cell? ⟨w.heap.size+2,0,none⟩=some _:=HR7.zc 0 rfl
   have q1:W7.cell? ⟨w.heap.size+2,1,none⟩=some _:=HR7.zc 1 rfl
   rw[←hW7]
   clear hW7
   refine bodyPost_ret (v:=.tuple #[.agg #[.int .i64 n,.slice v2a (tab.length+1) v2c],.int .i64 tab.length]) (by simp[results,Tryz.results109,go_sem,q0,q1]) rfl ?_
   exact .mk HB7 ⟨_,by rw[HIX.out],by rw[HA.out];exact (g5.out.agree (HA7.mono fun b hb=>hb.2)).mono fun b hb=>hb.1⟩
end Go.Proofs.YtjpakklplhabdaaGreat
namespace Go.Proofs.YtjpakklplhabdaaGreat
open Go.RowKit
def mkV (inn:List Int) (word:List (List Int)) (N k:Nat) (rows:List (List Int)) (q:Nat):List Int:=if k=0 then firstV q (nth inn q) else seenV (nthL word (k - 1)) N k q (nthL rows (k - 1))
def plL (N:Nat) (inn:List Int) (word:List (List Int)) (t:List (List Int)):Nat→List (List Int)×List (List Int)
 | 0=>(t,[])
 | k+1=>((layV (mkV inn word N k (plL N inn word t k).2) (plL N inn word t k).1 N).1,(plL N inn word t k).2++[(layV (mkV inn word N k (plL N inn word t k).2) (plL N inn word t k).1 N).2])
theorem Zf (N:Nat) (inn:List Int) (word:List (List Int)) (t:List (List Int)):∀k,plL N inn word t (k+1)=playV N inn word t k
 | 0=>by
  have e:mkV inn word N 0 ([]:List (List Int))=fun q=>firstV q (nth inn q):=by funext q;unfold mkV;rw[if_pos rfl]
  show ((layV (mkV inn word N 0 []) t N).1,[]++[(layV (mkV inn word N 0 []) t N).2])=_
  rw[e];rfl
 | k+1=>by
  have ih:=Zf N inn word t k
  show ((layV (mkV inn word N (k+1) (plL N inn word t (k+1)).2) (plL N inn word t (k+1)).1 N).1,(plL N inn word t (k+1)).2++[(layV (mkV inn word N (k+1) (plL N inn word t (k+1)).2) (plL N inn word t (k+1)).1 N).2])=_
  rw[ih]
  have e:mkV inn word N (k+1) (playV N inn word t k).2=fun q=>seenV (nthL word k) N (k+1) q (nthL (playV N inn word t k).2 k):=by
   funext q;unfold mkV;rw[if_neg (by omega)];simp
  rw[e];rfl
theorem XV (N:Nat) (inn:List Int) (word:List (List Int)) (t:List (List Int)):∀k,(plL N inn word t k).2.length=k
 | 0=>rfl
 | k+1=>by unfold plL;rw[List.length_append,XV N inn word t k];rfl
theorem zdt (N:Nat) (inn:List Int) (word:List (List Int)) (t:List (List Int)):∀k,(plL N inn word t k).1.length≤t.length+N * k
 | 0=>by unfold plL;simp
 | k+1=>by rw[Zf];exact yA N inn word t k
theorem zb9 (N:Nat) (inn:List Int) (word:List (List Int)) (t:List (List Int)):∀k,∀l∈(plL N inn word t k).2,l.length=N∧∀x∈l,0≤x∧x<(t.length:Int)+N * k
 | 0,l,h=>by unfold plL at h;simp at h
 | k+1,l,h=>by
  rw[Zf]at h
  have:=qd N inn word (Nat.le_refl t.length) k l h
  refine ⟨this.1,fun x hx=>?_⟩
  have h2:=this.2 x hx
  have e:(N:Int) * ((k+1:Nat):Int)=N * (k+1):=by simp
  omega
theorem zeV {a7:List Value} (h:a7.length=7) (nv vt vx vt':Value):((a7++[nv,vt,vx]).set 7 nv).set 8 vt'=a7++[nv,vt',vx]:=by
 match a7,h with
 | [a,b,c,d,e,f,g],_=>rfl
theorem zeZ {a7:List Value} (h:a7.length=7) (nv vt vx vx':Value):(a7++[nv,vt,vx]).set 9 vx'=a7++[nv,vt,vx']:=by
 match a7,h with
 | [a,b,c,d,e,f,g],_=>rfl
theorem setAgree (w:World) (g j:Nat) (u:Value):Agree (fun b=>b≠g) w (w.setCell ⟨g,j,none⟩ u):=.of_grown (zj _ _ _ _) fun b hb e=>hb (by cases e;rfl)
theorem Sl.blk {α:Type} {K:Kd α} {S:Nat→Prop} {w:World} {v:Value} {l:List α} (h:Sl K S w v l):Sl K (fun b=>S b∧b<w.heap.size) w v l:=h.block
structure BQ (w wC:World) (S3:Nat) (So:Nat→Prop) (a7:List Value) (nv vx:Value) (W:World) (vt vl:Value) (tab:List (List Int)) (nums:List Int):Prop where
 be:Below w.heap.size w W
 ag:Agree (fun b=>b<wC.heap.size∧b≠S3) wC W
 r3:Row W S3 39 (a7++[nv,vt,vx])
 tb:Sl (kFlat 8) (fun b=>So b∨(wC.heap.size≤b∧b<W.heap.size∧vl.ownBlock≠some b)) W vt tab
 l:Cnts wC.heap.size W vl nums
structure BQs (w wC:World) (S3:Nat) (So:Nat→Prop) (a7:List Value):Prop where
 lo:w.heap.size≤S3
 hi:S3<wC.heap.size
 so:∀b,So b→b<wC.heap.size∧b≠S3
 len:a7.length=7
section
variable {w wC W:World} {S3:Nat} {So:Nat→Prop} {a7:List Value} {nv vx vt vl:Value} {tab:List (List Int)} {nums:List Int}
theorem BQ.next {W4:World} {vt':Value} {tab':List (List Int)} {M:Nat} (s:BQs w wC S3 So a7) (h:BQ w wC S3 So a7 nv vx W vt vl tab nums) (ex:Below W.heap.size W W4) (hM:W.heap.size≤M)
  (hvt:Sl (kFlat 8) (fun b=>(So b∨(wC.heap.size≤b∧b<W.heap.size∧vl.ownBlock≠some b))∨M≤b) W4 vt' tab'):BQ w wC S3 So a7 nv vx ((W4.setCell ⟨S3,7,none⟩ nv).setCell ⟨S3,8,none⟩ vt') vt' vl tab' nums:=by
 have hlo:=s.lo
 have hhi:=s.hi
 have hsz:=h.ag.size
 have hs4:=ex.size
 have hA:=(setAgree W4 S3 7 nv).trans (setAgree (W4.setCell ⟨S3,7,none⟩ nv) S3 8 vt')
 have hlt:=h.l.lt
 refine ⟨((za h.be ex).setCell (by simpa using hlo) _).setCell (by simpa using hlo) _,(h.ag.trans (.of_ext ex)).trans (hA.mono fun b hb=>hb.2),?_,?_,(h.l.ext ex).agreeT hA fun g hg=>by have:=(hlt g hg).1;omega⟩
 ·rw[←zeV s.len]
  exact ((h.r3.ext ex).set 7 nv).set 8 vt'
 ·refine (hvt.blk.mono (S':=fun b=>(So b∨(wC.heap.size≤b∧b<W4.heap.size∧vl.ownBlock≠some b))) fun b hb=>?_).agree (hA.mono fun b hb=>?_) |>.mono fun b hb=>?_
  ·rcases hb.1 with (h1 | h1) | h1
   ·exact .inl h1
   ·exact .inr ⟨h1.1,by omega,h1.2.2⟩
   ·exact .inr ⟨by omega,hb.2,fun e=>by have:=(hlt b e).2;omega⟩
  ·rcases hb with h1 | h1
   ·exact (s.so b h1).2
   ·omega
  ·rcases hb with h1 | h1
   ·exact .inl h1
   ·exact .inr ⟨h1.1,Nat.lt_of_lt_of_le h1.2.1 hA.size,h1.2.2⟩
theorem BQ.push {g c:Nat} {w5:World} {x:Int} (s:BQs w wC S3 So a7) (h:BQ w wC S3 So a7 nv vx W vt vl tab nums) (ho:w5.ownsRow wC.heap.size 3 1 (.slice (some ⟨g,0,none⟩) (nums.length+1) c) (nums.length+1) (nums.map (Value.int .i64)++[.int .i64 x]))
  (hb:Below wC.heap.size W w5) (hag:∀S:Nat→Prop,(∀k,vl.ownBlock=some k→¬S k)→Agree S W w5) (hg:vl.ownBlock=some g∨W.heap.size≤g):BQ w wC S3 So a7 nv vx w5 vt (.slice (some ⟨g,0,none⟩) (nums.length+1) c) tab (nums++[x]):=by
 have hlt:=h.l.lt
 have hlo:=s.lo
 have hhi:=s.hi
 have hA:=hag (fun b=>vl.ownBlock≠some b) fun k hk h=>h hk
 have hgo:∀q,(Value.slice (some ⟨g,0,none⟩) (nums.length+1) c).ownBlock=some q→q=g:=fun q hq=>by have:g=q:=(by simpa[Value.ownBlock] using hq);exact this.symm
 refine ⟨h.be.trans (hb.mono (by omega)),h.ag.trans (hA.mono fun b hb e=>by have:=(hlt b e).1;omega),h.r3.agree hA fun e=>by have:=(hlt _ e).1;omega,?_,.snoc ho⟩
 refine (h.tb.blk.agree (hA.mono fun b hb=>?_)).mono fun b hb=>?_
 ·rcases hb.1 with h1 | h1
  ·intro e;have:=(hlt b e).1;have:=(s.so b h1).1;omega
  ·exact h1.2.2
 ·rcases hb.1 with h1 | h1
  ·exact .inl h1
  ·refine .inr ⟨h1.1,Nat.lt_of_lt_of_le h1.2.1 hA.size,fun e=>?_⟩
   have:=hgo b e
   subst this
   rcases hg with e1 | e1
   ·exact h1.2.2 e1
   ·omega
end
structure BK (w wB:World) (S3 T7:Nat) (So:Nat→Prop) (a7:List Value) (nv vx cv wv:Value) (W:World) (vt vv:Value) (tab rows:List (List Int)):Prop where
 be:Below w.heap.size w W
 ag:Agree (fun b=>b<wB.heap.size∧b≠S3∧b≠T7) wB W
 r3:Row W S3 39 (a7++[nv,vt,vx])
 r7:Row W T7 49 [cv,wv,vv]
 tb:Sl (kFlat 8) (fun b=>So b∨(wB.heap.size≤b∧b<W.heap.size∧vv.ownBlock≠some b)) W vt tab
 vs:OwnK kInts 30 wB.heap.size (fun b=>wB.heap.size≤b∧b<W.heap.size) W vv rows
structure BKs (w wB:World) (S3 T7:Nat) (So:Nat→Prop) (a7:List Value):Prop where
 lo:w.heap.size≤S3
 mid:S3<T7
 hi:T7<wB.heap.size
 so:∀b,So b→b<T7∧b≠S3
 len:a7.length=7
section
variable {w wB W:World} {S3 T7:Nat} {So:Nat→Prop} {a7:List Value} {nv vx cv wv vt vv:Value} {tab rows:List (List Int)}
theorem BK.enter (s:BKs w wB S3 T7 So a7) (h:BK w wB S3 T7 So a7 nv vx cv wv W vt vv tab rows):
  BQs w W S3 (fun b=>So b∨(wB.heap.size≤b∧b<W.heap.size∧vv.ownBlock≠some b)) a7∧BQ w W S3 (fun b=>So b∨(wB.heap.size≤b∧b<W.heap.size∧vv.ownBlock≠some b)) a7 nv vx W vt (.slice none 0 0) tab []:=by
 have h1:=s.lo;have h2:=s.mid;have h3:=s.hi;have h4:=h.ag.size
 refine ⟨⟨h1,by omega,fun b hb=>?_,s.len⟩,⟨h.be,.refl _ _,h.r3,h.tb.mono fun b hb=>.inl hb,World.ownsRow_nil _ _ _ _⟩⟩
 rcases hb with h5 | h5
 ·have:=s.so b h5;omega
 ·omega
theorem BK.done {W2:World} {vt' vl:Value} {tab':List (List Int)} {nums:List Int} (s:BKs w wB S3 T7 So a7) (h:BK w wB S3 T7 So a7 nv vx cv wv W vt vv tab rows)
  (q:BQ w W S3 (fun b=>So b∨(wB.heap.size≤b∧b<W.heap.size∧vv.ownBlock≠some b)) a7 nv vx W2 vt' vl tab' nums) (hw:∀x∈nums,WF x):
  Row W2 T7 49 [cv,wv,vv]∧OwnK kInts 30 wB.heap.size (fun b=>wB.heap.size≤b∧b<W2.heap.size) W2 vv rows∧kInts.rd (fun b=>(wB.heap.size≤b∧b<W2.heap.size)∧vv.ownBlock≠some b) W2 [vl] nums∧wB.heap.size≤W2.heap.size∧
  ∀g c W4,OwnK kInts 30 wB.heap.size (fun b=>wB.heap.size≤b∧b<W2.heap.size) W4 (.slice (some ⟨g,0,none⟩) (rows.length+1) c) (rows++[nums])→Below wB.heap.size W2 W4→(∀S:Nat→Prop,(∀k,vv.ownBlock=some k→¬S k)→Agree S W2 W4)→(vv.ownBlock=some g∨W2.heap.size≤g)→
   Row W4 T7 49 [cv,wv,vv]∧BK w wB S3 T7 So a7 nv vx cv wv (W4.setCell ⟨T7,2,none⟩ (.slice (some ⟨g,0,none⟩) (rows.length+1) c)) vt' (.slice (some ⟨g,0,none⟩) (rows.length+1) c) tab' (rows++[nums]):=by
 have h1:=s.lo;have h2:=s.mid;have h3:=s.hi;have h4:=h.ag.size;have h5:=q.ag.size
 have hvl:=h.vs.lt
 have R7:=h.r7.agree q.ag ⟨by omega,by omega⟩
 have O2:OwnK kInts 30 wB.heap.size (fun b=>wB.heap.size≤b∧b<W2.heap.size) W2 vv rows:=h.vs.slot q.ag (fun k hk=>⟨(hvl k hk).2,by have:=(hvl k hk).1;omega⟩) (fun b hb=>⟨hb.2,by omega⟩) fun b hb=>⟨hb.1,by omega⟩
 refine ⟨R7,O2,⟨vl,rfl,((q.l.read hw).block 0).mono fun b hb=>⟨⟨by omega,hb.2⟩,fun e=>by have:=(hvl b e).2;omega⟩⟩,by omega,fun g c W4 ho hb hag hg=>?_⟩
 have hA:=hag (fun b=>vv.ownBlock≠some b) fun k hk h=>h hk
 have hA7:=setAgree W4 T7 2 (.slice (some ⟨g,0,none⟩) (rows.length+1) c)
 have R74:=R7.agree hA fun e=>by have:=(hvl _ e).1;omega
 have hgo:∀k,(Value.slice (some ⟨g,0,none⟩) (rows.length+1) c).ownBlock=some k→k=g:=fun k hk=>by have:g=k:=(by simpa[Value.ownBlock] using hk);exact this.symm
 have hgB:wB.heap.size≤g:=by
  rcases hg with e | e
  ·exact (hvl g e).1
  ·omega
 have hs4:=hA.size
 have hs7:=hA7.size
 refine ⟨R74,⟨(q.be.trans (hb.mono (by omega))).setCell (by simp;omega) _,?_,?_,R74.set 2 _,?_,?_⟩⟩
 ·refine ((h.ag.trans (q.ag.mono fun b hb=>⟨by omega,hb.2.1⟩)).trans (hA.mono fun b hb e=>by have:=(hvl b e).1;omega)).trans (hA7.mono fun b hb=>hb.2.2)
 ·exact (q.r3.agree hA fun e=>by have:=(hvl _ e).1;omega).agree hA7 (by omega)
 ·refine ((q.tb.blk.agree (hA.mono fun b hb=>?_)).agree (hA7.mono fun b hb=>?_)).mono fun b hb=>?_
  ·rcases hb.1 with (h6 | h6) | h6
   ·intro e;have:=(hvl b e).1;have:=(s.so b h6).1;omega
   ·exact h6.2.2
   ·intro e;have:=(hvl b e).2;omega
  ·rcases hb.1 with (h6 | h6) | h6
   ·have:=s.so b h6;omega
   ·omega
   ·omega
  ·rcases hb.1 with (h6 | h6) | h6
   ·exact .inl h6
   ·refine .inr ⟨h6.1,by omega,fun e=>?_⟩
    have:=hgo b e
    subst this
    rcases hg with e1 | e1
    ·exact h6.2.2 e1
    ·omega
   ·refine .inr ⟨by omega,by omega,fun e=>?_⟩
    have:=hgo b e
    subst this
    rcases hg with e1 | e1
    ·have:=(hvl b e1).2;omega
    ·have:=hb.2;omega
 ·exact ho.slot hA7 (fun k hk=>by have:=hgo k hk;omega) (fun b hb=>by omega) fun b hb=>⟨hb.1,by omega⟩
end
structure BR (w wA:World) (S3:Nat) (a7:List Value) (nv:Value) (W:World) (vt vx:Value) (tab:List (List Int)) (ex:List ExecD):Prop where
 be:Below w.heap.size w W
 ag:Agree (fun b=>b<wA.heap.size∧b≠S3) wA W
 r3:Row W S3 39 (a7++[nv,vt,vx])
 tb:Sl (kFlat 8) (fun b=>wA.heap.size≤b∧b<W.heap.size∧vx.ownBlock≠some b) W vt tab
 own:OwnK kExec 49 wA.heap.size (fun b=>S3<b∧b<W.heap.size) W vx ex
section
variable {w wA W:World} {S3:Nat} {a7:List Value} {nv vt vx:Value} {tab:List (List Int)} {ex:List ExecD}
theorem BR.enter (h1:w.heap.size≤S3) (h2:S3<wA.heap.size) (h7:a7.length=7) (h:BR w wA S3 a7 nv W vt vx tab ex) (cv wv:Value):
  BKs w (W.alloc (.cells #[cv,wv,.slice none 0 0] 49)) S3 W.heap.size (fun b=>wA.heap.size≤b∧b<W.heap.size∧vx.ownBlock≠some b) a7∧
  BK w (W.alloc (.cells #[cv,wv,.slice none 0 0] 49)) S3 W.heap.size (fun b=>wA.heap.size≤b∧b<W.heap.size∧vx.ownBlock≠some b) a7 nv vx cv wv (W.alloc (.cells #[cv,wv,.slice none 0 0] 49)) vt (.slice none 0 0) tab []:=by
 have h4:=h.ag.size
 exact ⟨⟨h1,by omega,by simp,fun b hb=>⟨hb.2.1,by omega⟩,h7⟩,⟨zg h.be _,.refl _ _,h.r3.alloc _,ze W [cv,wv,.slice none 0 0] _,(h.tb.ext (zb _ _)).mono fun b hb=>.inl hb,OwnK.nil _ _ _ _ _⟩⟩
theorem BR.done {wB W2:World} {vt' vv wv:Value} {tab' rows:List (List Int)} {word:List (List Int)} {c:Int} (h1:w.heap.size≤S3) (h2:S3<wA.heap.size) (h7:a7.length=7) (h:BR w wA S3 a7 nv W vt vx tab ex) (hB:wB=W.alloc (.cells #[.int .i64 c,wv,.slice none 0 0] 49))
  (k:BK w wB S3 W.heap.size (fun b=>wA.heap.size≤b∧b<W.heap.size∧vx.ownBlock≠some b) a7 nv vx (.int .i64 c) wv W2 vt' vv tab' rows) (hrl:rows.length≤140737488355328) (hwd:Sl (kFlat 7) (fun b=>S3<b∧b<wA.heap.size) W wv word):
  OwnK kExec 49 wA.heap.size (fun b=>S3<b∧b<W2.heap.size) W2 vx ex∧kExec.rd (fun b=>(S3<b∧b<W2.heap.size)∧vx.ownBlock≠some b) W2 [.int .i64 c,wv,vv] (c,word,rows)∧wA.heap.size≤W2.heap.size∧
  ∀g cp W4,OwnK kExec 49 wA.heap.size (fun b=>S3<b∧b<W2.heap.size) W4 (.slice (some ⟨g,0,none⟩) (ex.length+1) cp) (ex++[(c,word,rows)])→Below wA.heap.size W2 W4→(∀S:Nat→Prop,(∀q,vx.ownBlock=some q→¬S q)→Agree S W2 W4)→(vx.ownBlock=some g∨W2.heap.size≤g)→
   Row W4 S3 39 (a7++[nv,vt',vx])∧BR w wA S3 a7 nv (W4.setCell ⟨S3,9,none⟩ (.slice (some ⟨g,0,none⟩) (ex.length+1) cp)) vt' (.slice (some ⟨g,0,none⟩) (ex.length+1) cp) tab' (ex++[(c,word,rows)]):=by
 have h4:=h.ag.size
 have hBs:wB.heap.size=W.heap.size+1:=by rw[hB];simp
 have h5:=k.ag.size
 have hxl:=h.own.lt
 have AB:Agree (fun _=>True) W wB:=by rw[hB];exact .of_ext (zb _ _)
 have A2:Agree (fun b=>b<W.heap.size∧b≠S3) W W2:=(AB.mono fun _ _=>trivial).trans (k.ag.mono fun b hb=>⟨by omega,hb.2,by omega⟩)
 have O2:OwnK kExec 49 wA.heap.size (fun b=>S3<b∧b<W2.heap.size) W2 vx ex:=h.own.slot A2 (fun q hq=>⟨(hxl q hq).2,by have:=(hxl q hq).1;omega⟩) (fun b hb=>⟨hb.2,by omega⟩) fun b hb=>⟨hb.1,by omega⟩
 have hvo:=k.vs.lt
 refine ⟨O2,⟨wv,vv,rfl,(hwd.agree (A2.mono fun b hb=>⟨by omega,by omega⟩)).mono fun b hb=>⟨⟨hb.1,by omega⟩,fun e=>by have:=(hxl b e).1;omega⟩,(Lists.of_sl ((k.vs.slS (S:=fun b=>(wB.heap.size≤b∧b<W2.heap.size)) hrl fun q hq=>hvo q hq))).mono fun b hb=>⟨⟨by omega,hb.2⟩,fun e=>by have:=(hxl b e).2;omega⟩⟩,by omega,fun g cp W4 ho hb hag hg=>?_⟩
 have hA:=hag (fun b=>vx.ownBlock≠some b) fun q hq h=>h hq
 have hA9:=setAgree W4 S3 9 (.slice (some ⟨g,0,none⟩) (ex.length+1) cp)
 have R34:=k.r3.agree hA fun e=>by have:=(hxl _ e).1;omega
 have hgo:∀q,(Value.slice (some ⟨g,0,none⟩) (ex.length+1) cp).ownBlock=some q→q=g:=fun q hq=>by have:g=q:=(by simpa[Value.ownBlock] using hq);exact this.symm
 have hgA:wA.heap.size≤g:=by
  rcases hg with e | e
  ·exact (hxl g e).1
  ·omega
 have hs4:=hA.size
 have hs9:=hA9.size
 refine ⟨R34,⟨(k.be.trans (hb.mono (by omega))).setCell (by simpa using h1) _,?_,?_,?_,?_⟩⟩
 ·exact ((h.ag.trans (A2.mono fun b hb=>⟨by omega,hb.2⟩)).trans (hA.mono fun b hb e=>by have:=(hxl b e).1;omega)).trans (hA9.mono fun b hb=>hb.2)
 ·rw[←zeZ h7 nv vt' vx]
  exact R34.set 9 _
 ·refine ((k.tb.blk.agree (hA.mono fun b hb=>?_)).agree (hA9.mono fun b hb=>?_)).mono fun b hb=>?_
  ·rcases hb.1 with h6 | h6
   ·exact h6.2.2
   ·intro e;have:=(hxl b e).2;omega
  ·rcases hb.1 with h6 | h6<;>omega
  ·refine ⟨by rcases hb.1 with h6 | h6<;>omega,by have:=hb.2;omega,fun e=>?_⟩
   have:=hgo b e
   subst this
   rcases hg with e1 | e1
   ·rcases hb.1 with h6 | h6
    ·exact h6.2.2 e1
    ·have:=(hxl b e1).2;omega
   ·have:=hb.2;omega
 ·exact ho.slot hA9 (fun q hq=>by have:=hgo q hq;omega) (fun b hb=>by omega) fun b hb=>⟨hb.1,by omega⟩
end
end Go.Proofs.YtjpakklplhabdaaGreat
