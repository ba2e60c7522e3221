/- Part of the proof that the laws answer true for every input. -/
import Derived.Test.YtaijafjfafbcfaaGreatPXb28
set_option linter.unusedSimpArgs false
set_option linter.unnecessarySimpa false
set_option linter.unusedVariables false
set_option maxRecDepth 100000
set_option maxHeartbeats 40000000
namespace Go.Proofs.YtaijafjfafbcfaaGreat
open Go.RowKit
attribute [local go_sem ↓] Go.wp_at_zero Go.wp_at_succ
theorem step_appendW {P:Program} {ops:Array Oper} {o:Oper} {a:Act} {w:World} {Kc:Act→World→Prop} {Q:Exit→Act→World→Prop} {E:Prop} (hgd:o.guard=none) (s x:Operand) (t:TypeId)
  (ho:o.op=.call {callee:=.builtin .append,args:=#[s,x],argTypes:=#[t,t]}) (e:TypeId) (z:Value) (size bytes:Nat) (ht:P.underlying t=some (.slice e))
  (hinfo:(P.info? e).map (fun i=>(i.zero,i.size,i.bytes))=some (some z,size,bytes)) (hz1:z.cells.size=size) (hsz:0<size) (base:Nat) (v:Value) (n:Nat) (xs:List Value) (hs:a.eval s=v) (hown:w.ownsRow base e size v n xs)
  (S:Nat→Prop) (ad:Option Addr) (m c:Nat) (news:List Value) (hx:a.eval x=.slice ad m c) (had:Ad S w ad m c) (hl:news.length=m * size) (hcell:∀j,j<m * size→w.cell? (adr ad j)=some (news.getD j undef)) (h1:∀u∈news,u.oneCell'=true)
  (hbytes:(n+m) * bytes≤140737488355328) (hn:n+m≤9223372036854775807) (hbase:base≤w.heap.size)
  (h:∀v' w',w'.ownsRow base e size v' (n+m) (xs++news)→Below base w w'→(∀S:Nat→Prop,(∀k,v.ownBlock=some k→¬S k)→Agree S w w')→(∀k,v'.ownBlock=some k→v.ownBlock=some k∨w.heap.size≤k)→Kc (a.put o.dst v') w'):
  if Region.wanted o (yielded ops a.tmps)=true then Oper.wp P o a w Kc Q else E:=by
 have hw:Region.wanted o (yielded ops a.tmps)=true:=by simp[Region.wanted,hgd]
 rw[if_pos hw]
 obtain ⟨v',w',hrun,r1,r2,r3,r4,_⟩:=run_appendW (P:=P) t o.type e z size bytes ht hinfo hz1 hsz base v n xs hown S ad m c news had hl hcell h1 hbytes hn hbase
 unfold Oper.wp
 simp[execOp,ho,resolve,invoke,builtin,hs,hx,hrun,Result.andThen]
 exact h v' w' r1 r2 r3 r4
theorem own_form {w:World} {base n z:Nat} {e:TypeId} {v:Value} {xs:List Value} (h:w.ownsRow base e z v n xs):∃a c,v=.slice a n c:=by
 rcases h.2 with ⟨rfl,h0⟩ | ⟨g,cap,cur,rfl,_⟩
 ·exact ⟨none,0,by rw[h0]⟩
 ·exact ⟨_,cap,rfl⟩
theorem lit_cells (W:World) {v:List Int} (hv:v.length=8):∀j,j<1 * 8→(W.alloc (.cells #[.int .i64 (nth v 0),.int .i64 (nth v 1),.int .i64 (nth v 2),.int .i64 (nth v 3),.int .i64 (nth v 4),.int .i64 (nth v 5),.int .i64 (nth v 6),.int .i64 (nth v 7)] 147)).cell? (adr (some ⟨W.heap.size,0,none⟩) j)=some (([.int .i64 (nth v 0),.int .i64 (nth v 1),.int .i64 (nth v 2),.int .i64 (nth v 3),.int .i64 (nth v 4),.int .i64 (nth v 5),.int .i64 (nth v 6),.int .i64 (nth v 7)]:List Value).getD j undef):=fun j hj=>by
 have hR:=row_new W [.int .i64 (nth v 0),.int .i64 (nth v 1),.int .i64 (nth v 2),.int .i64 (nth v 3),.int .i64 (nth v 4),.int .i64 (nth v 5),.int .i64 (nth v 6),.int .i64 (nth v 7)] 147
 rw[adr_add,Nat.zero_add]
 exact hR.cell (by rw[List.getD_eq_getElem?_getD,List.getElem?_eq_getElem (by simpa using hj)];rfl)
theorem lit_one (v:List Int):∀u∈([.int .i64 (nth v 0),.int .i64 (nth v 1),.int .i64 (nth v 2),.int .i64 (nth v 3),.int .i64 (nth v 4),.int .i64 (nth v 5),.int .i64 (nth v 6),.int .i64 (nth v 7)]:List Value),u.oneCell'=true:=fun u hu=>by
 simp only[List.mem_cons,List.not_mem_nil,or_false]at hu
 rcases hu with rfl | rfl | rfl | rfl | rfl | rfl | rfl | rfl<;>rfl
theorem Agree.cellOld {W W':World} {p:Addr} {u:Value} (h:Agree (fun _=>True) W W') (hc:W.cell? p=some u):W'.cell? p=some u:=cell_agree hc h trivial
def PutR (n:Int) (S:Nat→Prop) (w:World) (tab:List (List Int)) (v:List Int) (w':World) (r:Value):Prop:=
 ∃vt',r=.tuple #[.agg #[.int .i64 n,vt'],.int .i64 (idxV tab v:Nat)]∧Sl (kFlat 8) (fun b=>S b∨w.heap.size≤b) w' vt' (addV tab v)
theorem rput_calls {S:Nat→Prop} {w:World} {vt:Value} {tab:List (List Int)} {v:List Int} (n:Int) (ht:Sl (kFlat 8) S w vt tab) (hv:ViewOK v) (hlt:tab.length≤100000):
  Calls Tryz.prog 113 #[.agg #[.int .i64 n,vt],.agg #[.int .i64 (nth v 0),.int .i64 (nth v 1),.int .i64 (nth v 2),.int .i64 (nth v 3),.int .i64 (nth v 4),.int .i64 (nth v 5),.int .i64 (nth v 6),.int .i64 (nth v 7)]] w (Post w (PutR n S w tab v)):=by
 obtain ⟨ta,tc,rfl,tad,_⟩:=ht.form2
 have KI:Hid (∀W,Below w.heap.size w W→Calls Tryz.prog 127 #[.agg #[.int .i64 n,.slice ta tab.length tc],.agg #[.int .i64 (nth v 0),.int .i64 (nth v 1),.int .i64 (nth v 2),.int .i64 (nth v 3),.int .i64 (nth v 4),.int .i64 (nth v 5),.int .i64 (nth v 6),.int .i64 (nth v 7)]] W (Post W fun _ r=>r=.int .i64 (if v∈tab then (idxV tab v:Nat) else -1))):=Lib.hid fun W hW=>rindex_calls n (ht.ext hW) hv
 have HT:=Lib.hid ht
 have HV:=Lib.hid hv
 clear ht hv tad
 have ex:=ext_alloc' (ext_alloc' (ext_alloc w (.cells #[.int .i64 n,.slice ta tab.length tc] 32)) (.cells #[.int .i64 (nth v 0),.int .i64 (nth v 1),.int .i64 (nth v 2),.int .i64 (nth v 3),.int .i64 (nth v 4),.int .i64 (nth v 5),.int .i64 (nth v 6),.int .i64 (nth v 7)] 147)) (.cells #[.int .i64 0,.slice none 0 0] 32)
 have R0:=((row_new w [.int .i64 n,.slice ta tab.length tc] 32).alloc (.cells #[.int .i64 (nth v 0),.int .i64 (nth v 1),.int .i64 (nth v 2),.int .i64 (nth v 3),.int .i64 (nth v 4),.int .i64 (nth v 5),.int .i64 (nth v 6),.int .i64 (nth v 7)] 147)).alloc (.cells #[.int .i64 0,.slice none 0 0] 32)
 have R1:=(row_new (w.alloc (.cells #[.int .i64 n,.slice ta tab.length tc] 32)) [.int .i64 (nth v 0),.int .i64 (nth v 1),.int .i64 (nth v 2),.int .i64 (nth v 3),.int .i64 (nth v 4),.int .i64 (nth v 5),.int .i64 (nth v 6),.int .i64 (nth v 7)] 147).alloc (.cells #[.int .i64 0,.slice none 0 0] 32)
 have R2:=row_new ((w.alloc (.cells #[.int .i64 n,.slice ta tab.length tc] 32)).alloc (.cells #[.int .i64 (nth v 0),.int .i64 (nth v 1),.int .i64 (nth v 2),.int .i64 (nth v 3),.int .i64 (nth v 4),.int .i64 (nth v 5),.int .i64 (nth v 6),.int .i64 (nth v 7)] 147)) [.int .i64 0,.slice none 0 0] 32
 simp only[World.size_alloc,Nat.add_assoc,Nat.reduceAdd]at R1 R2
 by_cases hin:v∈tab
 ·simp only[if_pos hin]at KI
  have HA:Hid (addV tab v=tab):=Lib.hid (by unfold addV;rw[if_pos hin])
  obtain ⟨ix,hix⟩:∃ix,ix=idxV tab v:=⟨_,rfl⟩
  rw[←hix]at KI
  have HIX:=Lib.hid hix
  clear hin hix
  go_enter Tryz.func113,Tryz.ntmps113
  go_wp2_with fail
  refine (KI.out _ ex).mono ?_
  rintro _ w1 ⟨_,rfl,hb1,rfl⟩
  replace R0:=R0.ext hb1
  replace R2:=R2.ext hb1
  replace ex:=ext_trans ex hb1
  have c0:=R0.cell (j:=0) rfl
  have c1:=R0.cell (j:=1) rfl
  have d0:=R2.cell (j:=0) rfl
  have d1:=R2.cell (j:=1) rfl
  have f0:=R2.free 0
  have f1:=R2.free 1
  have l0:=R0.lt
  have l2:=R2.lt
  have HR:=Lib.hid (R2.sets [(0,.int .i64 n),(1,.slice ta tab.length tc)])
  have HB:=Lib.hid (sets_below (show w.heap.size≤w.heap.size+2 by omega) [(0,.int .i64 n),(1,.slice ta tab.length tc)] w1 ex)
  have HSL:=Lib.hid (HT.out.ext ex)
  have HAG:=Lib.hid (sets_agree (w.heap.size+2) [(0,.int .i64 n),(1,.slice ta tab.length tc)] w1)
  clear hb1 KI R1 R0 R2 ex
  go_wp2
  obtain ⟨W7,hW7⟩:∃W7,W7=sets (w.heap.size+2) [(0,.int .i64 n),(1,.slice ta tab.length tc)] w1:=⟨_,rfl⟩
  rw[←hW7]at HR HB HAG
  have q0:W7.cell? ⟨w.heap.size+2,0,none⟩=some _:=HR.out.cell (j:=0) rfl
  have q1:W7.cell? ⟨w.heap.size+2,1,none⟩=some _:=HR.out.cell (j:=1) rfl
  unfold sets at hW7
  simp only[List.foldl_cons,List.foldl_nil]at hW7
  simp only[Nat.add_assoc,Nat.reduceAdd]
  rw[←hW7]
  refine bodyPost_ret (v:=.tuple #[.agg #[.int .i64 n,.slice ta tab.length tc],.int .i64 ix]) (by simp[results,Tryz.results113,go_sem,q0,q1]) rfl ?_
  exact .mk HB.out ⟨_,by rw[HIX.out],by rw[HA.out];exact (((HT.out.block.ext HB.out)).mono fun b hb=>.inl hb.1)⟩
 ·have KI:Hid (∀W,Below w.heap.size w W→Calls Tryz.prog 127 #[.agg #[.int .i64 n,.slice ta tab.length tc],.agg #[.int .i64 (nth v 0),.int .i64 (nth v 1),.int .i64 (nth v 2),.int .i64 (nth v 3),.int .i64 (nth v 4),.int .i64 (nth v 5),.int .i64 (nth v 6),.int .i64 (nth v 7)]] W (Post W fun _ r=>r=.int .i64 (-1))):=Lib.hid fun W hW=>by have:=KI.out W hW;simp only[if_neg hin]at this;exact this
  have HA:Hid (addV tab v=tab++[v]):=Lib.hid (by unfold addV;rw[if_neg hin])
  have HIX:Hid (idxV tab v=tab.length):=Lib.hid (idxV_not hin)
  have HB1:Hid ((tab.length+1) * 64≤140737488355328∧tab.length * 64≤140737488355328):=Lib.hid (by omega)
  have HV8:=Lib.hid HV.out.1
  clear hin hlt
  go_enter Tryz.func113,Tryz.ntmps113
  go_wp2_with fail
  refine (KI.out _ ex).mono ?_
  rintro _ w1 ⟨_,rfl,hb1,rfl⟩
  replace R0:=R0.ext hb1
  replace R1:=R1.ext hb1
  replace R2:=R2.ext hb1
  replace ex:=ext_trans ex hb1
  clear hb1 KI
  have c0:=R0.cell (j:=0) rfl
  have l0:=R0.lt
  have l2:=R2.lt
  have R3:=row_new w1 [.int .i64 n,.slice none 0 0] 32
  replace R0:=R0.alloc (.cells #[.int .i64 n,.slice none 0 0] 32)
  replace R1:=R1.alloc (.cells #[.int .i64 n,.slice none 0 0] 32)
  replace R2:=R2.alloc (.cells #[.int .i64 n,.slice none 0 0] 32)
  replace ex:=ext_alloc' ex (.cells #[.int .i64 n,.slice none 0 0] 32)
  go_wp2
  obtain ⟨C3,hC3⟩:∃C3,C3=w1.heap.size:=⟨_,rfl⟩
  obtain ⟨W,hW⟩:∃W,W=w1.alloc (.cells #[.int .i64 n,.slice none 0 0] 32):=⟨_,rfl⟩
  have hCW:W.heap.size=C3+1:=by rw[hW,hC3];simp
  rw[←hW]at R0 R1 R2 R3 ex
  rw[←hC3]at R3 l0 l2
  simp only[Nat.add_assoc,Nat.reduceAdd]
  rw[←hW,←hC3]
  have HCW:=Lib.hid hCW
  clear hW hC3 c0 hCW
  have hd:=drewN_below W.heap.size W 1
  have hTd:=HT.out.ext (ext_trans ex hd)
  have HAD:=Lib.hid hTd.ad.1
  obtain ⟨xs,hx1,hx2,hx3,hx4⟩:=hTd.parts
  have HX1:Hid (xs.length=tab.length * 8):=Lib.hid hx1
  have HX2:=Lib.hid hx2
  have HX4:=Lib.hid hx4
  have KEEP:Hid (∀w',Below W.drew.heap.size W.drew w'→(fun w':World=>w'.cell? ⟨C3,1,none⟩=some (.slice none 0 0)∧w'.cell? ⟨w.heap.size,1,none⟩=some (.slice ta tab.length tc)∧w'.cell? ⟨w.heap.size+1,0,none⟩=some (.int .i64 (nth v 0))∧w'.cell? ⟨w.heap.size+1,1,none⟩=some (.int .i64 (nth v 1))∧w'.cell? ⟨w.heap.size+1,2,none⟩=some (.int .i64 (nth v 2))∧w'.cell? ⟨w.heap.size+1,3,none⟩=some (.int .i64 (nth v 3))∧w'.cell? ⟨w.heap.size+1,4,none⟩=some (.int .i64 (nth v 4))∧w'.cell? ⟨w.heap.size+1,5,none⟩=some (.int .i64 (nth v 5))∧w'.cell? ⟨w.heap.size+1,6,none⟩=some (.int .i64 (nth v 6))∧w'.cell? ⟨w.heap.size+1,7,none⟩=some (.int .i64 (nth v 7))) w'):=Lib.hid fun w' hw=>by
   have h0:=R0.ext (hd.trans hw)
   have h1:=R1.ext (hd.trans hw)
   have h3:=R3.ext (hd.trans hw)
   exact ⟨h3.cell (j:=1) rfl,h0.cell (j:=1) rfl,h1.cell (j:=0) rfl,h1.cell (j:=1) rfl,h1.cell (j:=2) rfl,h1.cell (j:=3) rfl,h1.cell (j:=4) rfl,h1.cell (j:=5) rfl,h1.cell (j:=6) rfl,h1.cell (j:=7) rfl⟩
  have FIN:Hid (∀(W4:World) (v2:Value),Below W.drew.heap.size W.drew W4→W4.ownsRow W.drew.heap.size 147 8 v2 (tab.length+1) (([]++xs)++[.int .i64 (nth v 0),.int .i64 (nth v 1),.int .i64 (nth v 2),.int .i64 (nth v 3),.int .i64 (nth v 4),.int .i64 (nth v 5),.int .i64 (nth v 6),.int .i64 (nth v 7)])→Below W.drew.heap.size W.drew W4∧(W4.cell? ⟨C3,1,none⟩=some (.slice none 0 0)∧W4.frozen? ⟨C3,1,none⟩=false∧C3<W4.heap.size)∧
    ∀W5,W5=W4.setCell ⟨C3,1,none⟩ v2→Row W5 C3 32 [.int .i64 n,v2]∧Row W5 w.heap.size 32 [.int .i64 n,.slice ta tab.length tc]∧Row W5 (w.heap.size+2) 32 [.int .i64 0,.slice none 0 0]∧Below w.heap.size w W5∧Sl (kFlat 8) (fun b=>(S b∨w.heap.size≤b)∧b≠w.heap.size+2) W5 v2 (tab++[v])):=Lib.hid fun W4 v2 hw ho=>by
   have h3:=R3.ext (hd.trans hw)
   refine ⟨hw,⟨h3.cell (j:=1) rfl,h3.free 1,h3.lt⟩,fun W5 hW5=>?_⟩
   subst hW5
   have hg:=grownBy_setCell W4 C3 1 v2
   have hA:Agree (fun b=>b≠C3) W4 (W4.setCell ⟨C3,1,none⟩ v2):=.of_grown hg fun b hb e=>hb (by cases e;rfl)
   refine ⟨h3.set 1 v2,(R0.ext (hd.trans hw)).agree hA (by omega),(R2.ext (hd.trans hw)).agree hA (by omega),(ext_trans ex (hd.trans hw)).setCell (by have:=HCW.out;have:=ex.size;simp;omega) _,?_⟩
   have hown:OwnK (kFlat 8) 147 W.drew.heap.size (fun _=>False) W4 v2 (tab++[v]):=by
    refine ⟨([]++xs)++[.int .i64 (nth v 0),.int .i64 (nth v 1),.int .i64 (nth v 2),.int .i64 (nth v 3),.int .i64 (nth v 4),.int .i64 (nth v 5),.int .i64 (nth v 6),.int .i64 (nth v 7)],(by rw[List.length_append];exact ho),fun j hj=>?_⟩
    simp only[List.length_append,List.length_cons,List.length_nil]at hj
    have sz:(kFlat 8).size=8:=rfl
    have hxl:([]++xs).length=tab.length * 8:=by rw[List.nil_append];exact hx1
    rw[sz]
    by_cases hj':j<tab.length
    ·rw[part_left hxl hj',List.getElem_append_left hj',List.nil_append]
     exact hx3 j hj'
    ·obtain rfl:j=tab.length:=by omega
     rw[part_last hxl rfl]
     simp only[List.getElem_concat_length]
     exact ⟨HV.out.1,(cells8 HV.out.1).symm,HV.out.2⟩
   have hsl:=hown.sl (by rw[List.length_append];simp;have:=HB1.out;omega)
   refine (hsl.mono (S':=fun b=>((S b∨w.heap.size≤b)∧b≠w.heap.size+2)∧b≠C3) fun b hb=>?_).agree (hA.mono fun b hb=>hb.2) |>.mono fun b hb=>hb.1
   rcases hb with h | h
   ·exact h.elim
   ·have h':C3+1≤b:=by have:W.drew.heap.size=C3+1:=HCW.out;omega
    exact ⟨⟨.inr (by omega),by omega⟩,by omega⟩
  clear R0 R1 R2 R3 hx1 hx2 hx3 hx4 hTd hd ex
  refine region_E (fun w':World=>w'.cell? ⟨C3,1,none⟩=some (.slice none 0 0)∧w'.cell? ⟨w.heap.size,1,none⟩=some (.slice ta tab.length tc)∧w'.cell? ⟨w.heap.size+1,0,none⟩=some (.int .i64 (nth v 0))∧w'.cell? ⟨w.heap.size+1,1,none⟩=some (.int .i64 (nth v 1))∧w'.cell? ⟨w.heap.size+1,2,none⟩=some (.int .i64 (nth v 2))∧w'.cell? ⟨w.heap.size+1,3,none⟩=some (.int .i64 (nth v 3))∧w'.cell? ⟨w.heap.size+1,4,none⟩=some (.int .i64 (nth v 4))∧w'.cell? ⟨w.heap.size+1,5,none⟩=some (.int .i64 (nth v 5))∧w'.cell? ⟨w.heap.size+1,6,none⟩=some (.int .i64 (nth v 6))∧w'.cell? ⟨w.heap.size+1,7,none⟩=some (.int .i64 (nth v 7))) (fun i=>i==9) (by kernel_rfl) ?_ (fun hHeld=>?_)
  ·exact KEEP.out _ (.refl _ _)
  refine anyE_take 0 (v:=?_) rfl (by kernel_rfl) (fun _ _ _ h=>h) (by rfl) ?hy0c hHeld ?rest0c
  case hy0c=>(intro w hSw;(try dsimp only at hSw);go_simp;try with_reducible rfl)
  try simp only[Act.put,zsa,zsz,zss]
  refine anyE_take 1 (v:=?_) rfl (by kernel_rfl) (fun _ _ _ h=>h) (by rfl) ?hy1c hHeld ?rest1c
  case hy1c=>(intro w hSw;(try dsimp only at hSw);go_simp;try with_reducible rfl)
  try simp only[Act.put,zsa,zsz,zss]
  refine anyE_take 2 (v:=?_) rfl (by kernel_rfl) (fun _ _ _ h=>h) (by rfl) ?hy2c hHeld ?rest2c
  case hy2c=>(intro w hSw;(try dsimp only at hSw);go_simp;try with_reducible rfl)
  try simp only[Act.put,zsa,zsz,zss]
  refine anyE_take 3 (v:=?_) rfl (by kernel_rfl) (fun _ _ _ h=>h) (by rfl) ?hy3c hHeld ?rest3c
  case hy3c=>(intro w hSw;(try dsimp only at hSw);go_simp;try with_reducible rfl)
  try simp only[Act.put,zsa,zsz,zss]
  refine anyE_take 5 (v:=?_) rfl (by kernel_rfl) (fun _ _ _ h=>h) (by rfl) ?hy5c hHeld ?rest5c
  case hy5c=>(intro w hSw;(try dsimp only at hSw);go_simp;try with_reducible rfl)
  try simp only[Act.put,zsa,zsz,zss]
  refine anyE_two 4 6 rfl rfl (by kernel_rfl) (fun K hK=>?way1) (fun K hK=>?way2)
  case way1=>
   (refine step_appendW (w:=W.drew) rfl _ _ 30 (by rfl) 147 _ 8 64 Tryz.underlying30 info_viewB rfl (by decide) W.drew.heap.size (.slice none 0 0) 0 [] (by rfl) (World.ownsRow_nil _ _ _ _) S ta tab.length tc xs (by rfl) HAD.out HX1.out HX2.out HX4.out (by rw[Nat.zero_add];exact HB1.out.2) (by omega) (Nat.le_refl _) ?_;intro v1 W1 ho1 hb1 hag1 hv1;rw[Nat.zero_add]at ho1;obtain ⟨v1a,v1c,rfl⟩:=own_form ho1)
   refine hK.out _ _ (fun _=>KEEP.out _ hb1) (fun hHeld=>?_);replace hHeld:=hHeld rfl
   clear hK K
   try simp only[Act.put,zsa,zsz,zss]
   refine anyE_one 6 rfl (by kernel_rfl) (fun K hK=>?_)
   go_simp
   refine hK.out _ _ (fun _=>KEEP.out _ (hb1.alloc hb1.size _)) (fun hHeld=>?_);replace hHeld:=hHeld rfl
   clear hK K
   try simp only[Act.put,zsa,zsz,zss]
   refine anyE_one 7 rfl (by kernel_rfl) (fun K hK=>?_)
   (refine step_appendW (w:=W1.alloc (.cells #[.int .i64 (nth v 0),.int .i64 (nth v 1),.int .i64 (nth v 2),.int .i64 (nth v 3),.int .i64 (nth v 4),.int .i64 (nth v 5),.int .i64 (nth v 6),.int .i64 (nth v 7)] 147)) rfl _ _ 30 (by rfl) 147 _ 8 64 Tryz.underlying30 info_viewB rfl (by decide) W.drew.heap.size (.slice v1a tab.length v1c) tab.length ([]++xs) (by rfl) (owns_ext ho1 (ext_alloc _ _)) (fun _=>True) (some ⟨W1.heap.size,0,none⟩) 1 1 [.int .i64 (nth v 0),.int .i64 (nth v 1),.int .i64 (nth v 2),.int .i64 (nth v 3),.int .i64 (nth v 4),.int .i64 (nth v 5),.int .i64 (nth v 6),.int .i64 (nth v 7)] (by rfl) (.inr ⟨_,0,rfl,by simp,trivial⟩) rfl (lit_cells W1 HV8.out) (lit_one v) HB1.out.1 (by have:=HB1.out;omega) (Nat.le_trans hb1.size (by simp)) ?_;intro v2 W4 ho2 hb2 hag2 hv2;have hF4:=Lib.hid (FIN.out _ _ (hb1.trans ((ext_alloc W1 (.cells #[.int .i64 (nth v 0),.int .i64 (nth v 1),.int .i64 (nth v 2),.int .i64 (nth v 3),.int .i64 (nth v 4),.int .i64 (nth v 5),.int .i64 (nth v 6),.int .i64 (nth v 7)] 147)).mono hb1.size |>.trans hb2)) ho2);obtain ⟨v2a,v2c,rfl⟩:=own_form ho2)
   refine hK.out _ _ (fun _=>KEEP.out _ hF4.out.1) (fun hHeld=>?_);replace hHeld:=hHeld rfl
   have z1:=hF4.out.2.1.1
   have z2:=hF4.out.2.1.2.1
   have z3:=hF4.out.2.1.2.2
   clear hK K
   try simp only[Act.put,zsa,zsz,zss]
   refine anyE_take 8 (v:=?_) rfl (by kernel_rfl) (fun _ _ _ h=>h) (by rfl) ?hy8a hHeld ?rest8a
   case hy8a=>(intro w hSw;(try dsimp only at hSw);go_simp;try with_reducible rfl)
   try simp only[Act.put,zsa,zsz,zss]
   refine anyE_one 9 rfl (by kernel_rfl) (fun K hK=>?_)
   go_simp
   refine hK.out _ _ (fun h=>by simp at h) (fun hHeld=>?_)
   clear hK K
   try simp only[Act.put,zsa,zsz,zss]
   refine anyE_done (by kernel_rfl) ?_ _
   clear hHeld KEEP
   obtain ⟨W5,hW5⟩:∃W5,W5=W4.setCell ⟨C3,1,none⟩ (.slice v2a (tab.length+1) v2c):=⟨_,rfl⟩
   obtain ⟨g1,g2,g3,g4,g5⟩:=hF4.out.2.2 W5 hW5
   have g5:=Lib.hid g5
   rw[←hW5]
   have c0:=g1.cell (j:=0) rfl
   have c1:=g1.cell (j:=1) rfl
   have e1:=g2.cell (j:=1) rfl
   have d0:=g3.cell (j:=0) rfl
   have d1:=g3.cell (j:=1) rfl
   have f0:=g3.free 0
   have f1:=g3.free 1
   have l0:=g1.lt
   have l1:=g2.lt
   have l2:=g3.lt
   have HG:=Lib.hid (And.intro g3 g4)
   clear hW5 hF4 z1 z2 z3 g1 g2 g3 g4
   go_wp2
   go_region
   go_wp2
   obtain ⟨W7,hW7⟩:∃W7,W7=((W5.setCell ⟨w.heap.size+2,0,none⟩ (.int .i64 n)).setCell ⟨w.heap.size+2,1,none⟩ (.slice v2a (tab.length+1) v2c)).drew:=⟨_,rfl⟩
   have HR7:Row W7 (w.heap.size+2) 32 [.int .i64 n,.slice v2a (tab.length+1) v2c]:=by rw[hW7];exact ((HG.out.1.set 0 (.int .i64 n)).set 1 (.slice v2a (tab.length+1) v2c)).agree (S:=fun _=>True) (drewN_agree _ _ 1) trivial
   have HA7:Agree (fun b=>b≠w.heap.size+2) W5 W7:=by
    rw[hW7]
    exact ((Agree.of_grown (grownBy_setCell _ _ _ _) fun b hb e=>hb (by cases e;rfl)).trans (.of_grown (grownBy_setCell _ _ _ _) fun b hb e=>hb (by cases e;rfl))).trans (drewN_agree _ _ 1)
   have HB7:Below w.heap.size w W7:=by rw[hW7];exact ((HG.out.2.setCell (by simp) _).setCell (by simp) _).trans (drewN_below _ _ 1)
   have q0:W7.cell? ⟨w.heap.size+2,0,none⟩=some _:=HR7.cell (j:=0) rfl
   have q1:W7.cell? ⟨w.heap.size+2,1,none⟩=some _:=HR7.cell (j:=1) rfl
   rw[←hW7]
   clear hW7
   refine bodyPost_ret (v:=.tuple #[.agg #[.int .i64 n,.slice v2a (tab.length+1) v2c],.int .i64 tab.length]) (by simp[results,Tryz.results113,go_sem,q0,q1]) rfl ?_
   exact .mk HB7 ⟨_,by rw[HIX.out],by rw[HA.out];exact (g5.out.agree (HA7.mono fun b hb=>hb.2)).mono fun b hb=>hb.1⟩
  case way2=>
   go_simp
   refine hK.out _ _ (fun _=>KEEP.out _ (ext_alloc _ _)) (fun hHeld=>?_);replace hHeld:=hHeld rfl
   clear hK K
   try simp only[Act.put,zsa,zsz,zss]
   refine anyE_one 4 rfl (by kernel_rfl) (fun K hK=>?_)
   (refine step_appendW (w:=W.drew.alloc (.cells #[.int .i64 (nth v 0),.int .i64 (nth v 1),.int .i64 (nth v 2),.int .i64 (nth v 3),.int .i64 (nth v 4),.int .i64 (nth v 5),.int .i64 (nth v 6),.int .i64 (nth v 7)] 147)) rfl _ _ 30 (by rfl) 147 _ 8 64 Tryz.underlying30 info_viewB rfl (by decide) W.drew.heap.size (.slice none 0 0) 0 [] (by rfl) (World.ownsRow_nil _ _ _ _) S ta tab.length tc xs (by rfl) (HAD.out.agree (.of_ext (ext_alloc _ _))) HX1.out (fun j hj=>cell_ext (HX2.out j hj) (ext_alloc _ _)) HX4.out (by rw[Nat.zero_add];exact HB1.out.2) (by omega) (by simp) ?_;intro v1 W1 ho1 hb1 hag1 hv1;rw[Nat.zero_add]at ho1;obtain ⟨v1a,v1c,rfl⟩:=own_form ho1;have hb1':=(ext_alloc W.drew (.cells #[.int .i64 (nth v 0),.int .i64 (nth v 1),.int .i64 (nth v 2),.int .i64 (nth v 3),.int .i64 (nth v 4),.int .i64 (nth v 5),.int .i64 (nth v 6),.int .i64 (nth v 7)] 147)).trans hb1)
   refine hK.out _ _ (fun _=>KEEP.out _ hb1') (fun hHeld=>?_);replace hHeld:=hHeld rfl
   clear hK K
   try simp only[Act.put,zsa,zsz,zss]
   refine anyE_one 7 rfl (by kernel_rfl) (fun K hK=>?_)
   (refine step_appendW (w:=W1) rfl _ _ 30 (by rfl) 147 _ 8 64 Tryz.underlying30 info_viewB rfl (by decide) W.drew.heap.size (.slice v1a tab.length v1c) tab.length ([]++xs) (by rfl) ho1 (fun _=>True) (some ⟨W.heap.size,0,none⟩) 1 1 [.int .i64 (nth v 0),.int .i64 (nth v 1),.int .i64 (nth v 2),.int .i64 (nth v 3),.int .i64 (nth v 4),.int .i64 (nth v 5),.int .i64 (nth v 6),.int .i64 (nth v 7)] (by rfl) (.inr ⟨_,0,rfl,by have:=hag1 (fun _=>True) (fun k hk=>by simp[Value.ownBlock]at hk);have:=this.size;simp at this;omega,trivial⟩) rfl (fun j hj=>(hag1 (fun _=>True) (fun k hk=>by simp[Value.ownBlock]at hk)).cellOld (lit_cells W.drew HV8.out j hj)) (lit_one v) HB1.out.1 (by have:=HB1.out;omega) hb1'.size ?_;intro v2 W4 ho2 hb2 hag2 hv2;have hF4:=Lib.hid (FIN.out _ _ (hb1'.trans hb2) ho2);obtain ⟨v2a,v2c,rfl⟩:=own_form ho2)
   refine hK.out _ _ (fun _=>KEEP.out _ hF4.out.1) (fun hHeld=>?_);replace hHeld:=hHeld rfl
   have z1:=hF4.out.2.1.1
   have z2:=hF4.out.2.1.2.1
   have z3:=hF4.out.2.1.2.2
   clear hK K
   try simp only[Act.put,zsa,zsz,zss]
   refine anyE_take 8 (v:=?_) rfl (by kernel_rfl) (fun _ _ _ h=>h) (by rfl) ?hy8b hHeld ?rest8b
   case hy8b=>(intro w hSw;(try dsimp only at hSw);go_simp;try with_reducible rfl)
   try simp only[Act.put,zsa,zsz,zss]
   refine anyE_one 9 rfl (by kernel_rfl) (fun K hK=>?_)
   go_simp
   refine hK.out _ _ (fun h=>by simp at h) (fun hHeld=>?_)
   clear hK K
   try simp only[Act.put,zsa,zsz,zss]
   refine anyE_done (by kernel_rfl) ?_ _
   clear hHeld KEEP
   obtain ⟨W5,hW5⟩:∃W5,W5=W4.setCell ⟨C3,1,none⟩ (.slice v2a (tab.length+1) v2c):=⟨_,rfl⟩
   obtain ⟨g1,g2,g3,g4,g5⟩:=hF4.out.2.2 W5 hW5
   have g5:=Lib.hid g5
   rw[←hW5]
   have c0:=g1.cell (j:=0) rfl
   have c1:=g1.cell (j:=1) rfl
   have e1:=g2.cell (j:=1) rfl
   have d0:=g3.cell (j:=0) rfl
   have d1:=g3.cell (j:=1) rfl
   have f0:=g3.free 0
   have f1:=g3.free 1
   have l0:=g1.lt
   have l1:=g2.lt
   have l2:=g3.lt
   have HG:=Lib.hid (And.intro g3 g4)
   clear hW5 hF4 z1 z2 z3 g1 g2 g3 g4
   go_wp2
   go_region
   go_wp2
   obtain ⟨W7,hW7⟩:∃W7,W7=((W5.setCell ⟨w.heap.size+2,0,none⟩ (.int .i64 n)).setCell ⟨w.heap.size+2,1,none⟩ (.slice v2a (tab.length+1) v2c)).drew:=⟨_,rfl⟩
   have HR7:Row W7 (w.heap.size+2) 32 [.int .i64 n,.slice v2a (tab.length+1) v2c]:=by rw[hW7];exact ((HG.out.1.set 0 (.int .i64 n)).set 1 (.slice v2a (tab.length+1) v2c)).agree (S:=fun _=>True) (drewN_agree _ _ 1) trivial
   have HA7:Agree (fun b=>b≠w.heap.size+2) W5 W7:=by
    rw[hW7]
    exact ((Agree.of_grown (grownBy_setCell _ _ _ _) fun b hb e=>hb (by cases e;rfl)).trans (.of_grown (grownBy_setCell _ _ _ _) fun b hb e=>hb (by cases e;rfl))).trans (drewN_agree _ _ 1)
   have HB7:Below w.heap.size w W7:=by rw[hW7];exact ((HG.out.2.setCell (by simp) _).setCell (by simp) _).trans (drewN_below _ _ 1)
   have q0:W7.cell? ⟨w.heap.size+2,0,none⟩=some _:=HR7.cell (j:=0) rfl
   have q1:W7.cell? ⟨w.heap.size+2,1,none⟩=some _:=HR7.cell (j:=1) rfl
   rw[←hW7]
   clear hW7
   refine bodyPost_ret (v:=.tuple #[.agg #[.int .i64 n,.slice v2a (tab.length+1) v2c],.int .i64 tab.length]) (by simp[results,Tryz.results113,go_sem,q0,q1]) rfl ?_
   exact .mk HB7 ⟨_,by rw[HIX.out],by rw[HA.out];exact (g5.out.agree (HA7.mono fun b hb=>hb.2)).mono fun b hb=>hb.1⟩
end Go.Proofs.YtaijafjfafbcfaaGreat
