/- Part of the proof that the laws answer true for every input. -/
import Derived.Test.YtaijafjfafbcfaaGreatPXb01
import Derived.Test.YtaijafjfafbcfaaGreatPXb19
import Derived.Test.YtaijafjfafbcfaaGreatPXb18
import Derived.Test.YtaijafjfafbcfaaGreatPXb02
set_option linter.unusedSimpArgs false
set_option linter.unnecessarySimpa false
set_option linter.unusedVariables false
set_option maxRecDepth 100000
set_option maxHeartbeats 40000000
namespace Go.Proofs.YtaijafjfafbcfaaGreat
open Go.RowKit Go.Maps
attribute [local go_sem ↓] Go.wp_at_zero Go.wp_at_succ
theorem info_viewB:(Tryz.prog.info? 147).map (fun i=>(i.zero,i.size,i.bytes))=some (some (.agg #[.int .i64 0,.int .i64 0,.int .i64 0,.int .i64 0,.int .i64 0,.int .i64 0,.int .i64 0,.int .i64 0]),8,64):=by kernel_rfl
theorem zero_int' (w:World):(zeroValue 3).run Tryz.prog w=.ok (.int .i64 0) w:=by
 simp[Tryz.zeroValue3,go_sem]
def ViewOK (x:List Int):Prop:=x.length=8∧∀y∈x,WF y
theorem idxV_min {t:List (List Int)} {v:List Int} {j:Nat} (h:j<idxV t v):nthL t j≠v:=by
 intro e
 have hl:=Nat.lt_of_lt_of_le h (idxV_le t v)
 have:=List.not_of_lt_findIdx (p:=fun x=>x==v) (xs:=t) (i:=j) (by simpa[idxV,List.idxOf] using h)
 rw[nthL_eq hl]at e
 simp[e]at this
theorem nthL_left {t:List (List Int)} {v:List Int} {j:Nat} (h:j<t.length):nthL (t++[v]) j=nthL t j:=by simp[nthL,List.getElem?_append_left h]
theorem idxV_left {t:List (List Int)} {v z:List Int} (h:z∈t):idxV (t++[v]) z=idxV t z:=by
 have hl:=idxV_in.2 h
 exact idxV_first (by simp;omega) (by rw[nthL_left hl,nthL_idxV h]) fun j hj=>by rw[nthL_left (by omega)];exact idxV_min hj
theorem idxV_new {t:List (List Int)} {v:List Int} (h:v∉t):idxV (t++[v]) v=t.length:=
 idxV_first (by simp) (by simp[nthL]) fun j hj=>by rw[nthL_left hj];exact fun e=>h (e▸nthL_mem hj)
def numM (tab:List (List Int)) (x:List Int):Option Value:=if x∈tab then some (.int .i64 (idxV tab x:Nat)) else none
theorem numM_add {tab:List (List Int)} {v:List Int} (hv:v∉tab):(fun z=>if z=v then some (.int .i64 (tab.length:Nat)) else numM tab z)=numM (addV tab v):=by
 funext z
 unfold numM addV
 rw[if_neg hv]
 by_cases e:z=v
 ·subst e
  rw[if_pos rfl,if_pos (by simp)]
  rw[idxV_new hv]
 ·rw[if_neg e]
  by_cases h:z∈tab
  ·rw[if_pos h,if_pos (by simp[h])]
   rw[idxV_left h]
  ·rw[if_neg h,if_neg (by simp[h,e])]
structure BSt (B BB MB:Nat) (n:Int) (W:World) (vv:Value) (tab:List (List Int)):Prop where
 row:Row W BB 139 [.int .i64 n,vv,.map (some MB)]
 own:OwnK (kFlat 8) 147 B (fun _=>False) W vv tab
 map:MapV viewKey W MB (numM tab) tab.length
 ok:∀v∈tab,ViewOK v
 og:∀g,vv.ownBlock=some g→g≠BB∧g≠MB
 bm:BB≠MB∧B≤BB∧B≤MB
def keepsB (BB MB:Nat) (vv:Value) (b:Nat):Prop:=b≠BB∧b≠MB∧vv.ownBlock≠some b
theorem BSt.ext {B BB MB:Nat} {n:Int} {W W':World} {vv:Value} {tab:List (List Int)} (h:BSt B BB MB n W vv tab) (hb:Below W.heap.size W W'):BSt B BB MB n W' vv tab:=
 ⟨h.row.ext hb,h.own.ext hb,h.map.ext hb,h.ok,h.og,h.bm⟩
def BEnd (B BB MB:Nat) (n:Int) (W:World) (vv:Value) (tab:List (List Int)) (W':World):Prop:=
 ∃vv',Agree (keepsB BB MB vv) W W'∧Below B W W'∧BSt B BB MB n W' vv' tab∧∀g,vv'.ownBlock=some g→vv.ownBlock=some g∨W.heap.size≤g
theorem silence_calls (w:World):Calls Tryz.prog 102 #[] w (Post w fun _ r=>r=.agg #[.int .i64 (-1),.int .i64 (-1),.int .i64 (-1),.int .i64 (-1),.int .i64 (-1)]):=by
 have ex:=ext_alloc' (ext_alloc w (.cells #[.int .i64 0,.int .i64 0,.int .i64 0,.int .i64 0,.int .i64 0] 115)) (.cells #[.int .i64 0,.int .i64 0,.int .i64 0,.int .i64 0,.int .i64 0] 115)
 have R0:=(row_new w [.int .i64 0,.int .i64 0,.int .i64 0,.int .i64 0,.int .i64 0] 115).alloc (.cells #[.int .i64 0,.int .i64 0,.int .i64 0,.int .i64 0,.int .i64 0] 115)
 have R1:=row_new (w.alloc (.cells #[.int .i64 0,.int .i64 0,.int .i64 0,.int .i64 0,.int .i64 0] 115)) [.int .i64 0,.int .i64 0,.int .i64 0,.int .i64 0,.int .i64 0] 115
 rw[World.size_alloc]at R1
 go_enter Tryz.func102,Tryz.ntmps102
 go_wp2
 go_loopw [2,3] (fun _ i wr=>∃k:Nat,k≤5∧i=.int .i64 k∧Below w.heap.size w wr∧Row wr w.heap.size 115 [.int .i64 0,.int .i64 0,.int .i64 0,.int .i64 0,.int .i64 0]∧Row wr (w.heap.size+1) 115 ((List.replicate k (.int .i64 (-1)))++List.replicate (5 - k) (.int .i64 0))) (fun _ i _=>5 - (intOf i).toNat)
 case atStart=>exact ⟨0,by omega,rfl,ex,R0,R1⟩
 case round=>
  clear ex R0 R1
  obtain ⟨k,hk,rfl,hb,R0,R1⟩:=hrel
  have hk6:k=0∨k=1∨k=2∨k=3∨k=4∨k=5:=by omega
  have hl1:=R1.lt
  have hl0:=R0.lt
  rcases hk6 with rfl | rfl | rfl | rfl | rfl | rfl
  case inr.inr.inr.inr.inr=>
   have t0:=R1.cell (j:=0) rfl
   have t1:=R1.cell (j:=1) rfl
   have t2:=R1.cell (j:=2) rfl
   have t3:=R1.cell (j:=3) rfl
   have t4:=R1.cell (j:=4) rfl
   have d0:=R0.cell (j:=0) rfl
   have d1:=R0.cell (j:=1) rfl
   have d2:=R0.cell (j:=2) rfl
   have d3:=R0.cell (j:=3) rfl
   have d4:=R0.cell (j:=4) rfl
   have f0:=R0.free 0
   have f1:=R0.free 1
   have f2:=R0.free 2
   have f3:=R0.free 3
   have f4:=R0.free 4
   have HRZ:=Lib.hid (R0.sets [(0,.int .i64 (-1)),(1,.int .i64 (-1)),(2,.int .i64 (-1)),(3,.int .i64 (-1)),(4,.int .i64 (-1))])
   have HBZ:=Lib.hid (sets_below (Nat.le_refl _) [(0,.int .i64 (-1)),(1,.int .i64 (-1)),(2,.int .i64 (-1)),(3,.int .i64 (-1)),(4,.int .i64 (-1))] wr hb)
   go_wp2
   obtain ⟨W7,hW7⟩:∃W7,W7=sets w.heap.size [(0,.int .i64 (-1)),(1,.int .i64 (-1)),(2,.int .i64 (-1)),(3,.int .i64 (-1)),(4,.int .i64 (-1))] wr:=⟨_,rfl⟩
   rw[←hW7]at HRZ HBZ
   have q0:W7.cell? ⟨w.heap.size,0,none⟩=some _:=HRZ.out.cell (j:=0) rfl
   have q1:W7.cell? ⟨w.heap.size,1,none⟩=some _:=HRZ.out.cell (j:=1) rfl
   have q2:W7.cell? ⟨w.heap.size,2,none⟩=some _:=HRZ.out.cell (j:=2) rfl
   have q3:W7.cell? ⟨w.heap.size,3,none⟩=some _:=HRZ.out.cell (j:=3) rfl
   have q4:W7.cell? ⟨w.heap.size,4,none⟩=some _:=HRZ.out.cell (j:=4) rfl
   unfold sets at hW7
   simp only[List.foldl_cons,List.foldl_nil]at hW7
   rw[←hW7]
   refine bodyPost_ret (v:=.agg #[.int .i64 (-1),.int .i64 (-1),.int .i64 (-1),.int .i64 (-1),.int .i64 (-1)]) (by simp[results,Tryz.results102,go_sem,q0,q1,q2,q3,q4]) rfl ?_
   exact .mk HBZ.out rfl
  all_goals
   first
    | (have tc:=R1.cell (j:=0) rfl;have tf:=R1.free 0;have HR:=Lib.hid (R1.set 0 (.int .i64 (-1)));have H0:=Lib.hid (R0.grown (grownBy_setCell wr (w.heap.size+1) 0 (.int .i64 (-1))) (by simp));have HB:=Lib.hid (hb.setCell (p:=⟨w.heap.size+1,0,none⟩) (by simp) (.int .i64 (-1)));clear R0 R1;go_wp2;go_roundw;(case rel=>exact ⟨1,by omega,by go_num,HB.out,H0.out,HR.out⟩);(case measure=>simp[intOf]);done)
    | (have tc:=R1.cell (j:=1) rfl;have tf:=R1.free 1;have HR:=Lib.hid (R1.set 1 (.int .i64 (-1)));have H0:=Lib.hid (R0.grown (grownBy_setCell wr (w.heap.size+1) 1 (.int .i64 (-1))) (by simp));have HB:=Lib.hid (hb.setCell (p:=⟨w.heap.size+1,1,none⟩) (by simp) (.int .i64 (-1)));clear R0 R1;go_wp2;go_roundw;(case rel=>exact ⟨2,by omega,by go_num,HB.out,H0.out,HR.out⟩);(case measure=>simp[intOf]);done)
    | (have tc:=R1.cell (j:=2) rfl;have tf:=R1.free 2;have HR:=Lib.hid (R1.set 2 (.int .i64 (-1)));have H0:=Lib.hid (R0.grown (grownBy_setCell wr (w.heap.size+1) 2 (.int .i64 (-1))) (by simp));have HB:=Lib.hid (hb.setCell (p:=⟨w.heap.size+1,2,none⟩) (by simp) (.int .i64 (-1)));clear R0 R1;go_wp2;go_roundw;(case rel=>exact ⟨3,by omega,by go_num,HB.out,H0.out,HR.out⟩);(case measure=>simp[intOf]);done)
    | (have tc:=R1.cell (j:=3) rfl;have tf:=R1.free 3;have HR:=Lib.hid (R1.set 3 (.int .i64 (-1)));have H0:=Lib.hid (R0.grown (grownBy_setCell wr (w.heap.size+1) 3 (.int .i64 (-1))) (by simp));have HB:=Lib.hid (hb.setCell (p:=⟨w.heap.size+1,3,none⟩) (by simp) (.int .i64 (-1)));clear R0 R1;go_wp2;go_roundw;(case rel=>exact ⟨4,by omega,by go_num,HB.out,H0.out,HR.out⟩);(case measure=>simp[intOf]);done)
    | (have tc:=R1.cell (j:=4) rfl;have tf:=R1.free 4;have HR:=Lib.hid (R1.set 4 (.int .i64 (-1)));have H0:=Lib.hid (R0.grown (grownBy_setCell wr (w.heap.size+1) 4 (.int .i64 (-1))) (by simp));have HB:=Lib.hid (hb.setCell (p:=⟨w.heap.size+1,4,none⟩) (by simp) (.int .i64 (-1)));clear R0 R1;go_wp2;go_roundw;(case rel=>exact ⟨5,by omega,by go_num,HB.out,H0.out,HR.out⟩);(case measure=>simp[intOf]);done)
end Go.Proofs.YtaijafjfafbcfaaGreat
namespace Go.Proofs.YtaijafjfafbcfaaGreat
open Go.RowKit
attribute [local go_sem ↓] Go.wp_at_zero Go.wp_at_succ
theorem run_push_room {P:Program} {w:World} (t ty e:TypeId) (z:Value) (size bytes:Nat) (ht:P.underlying t=some (.slice e))
  (hinfo:(P.info? e).map (fun i=>(i.zero,i.size,i.bytes))=some (some z,size,bytes)) (hz1:z.cells.size=size) (hsz:0<size) {base g n cap:Nat} {xs cs:List Value} (hown:w.ownsRow base e size (.slice (some ⟨g,0,none⟩) n cap) n xs)
  (hroom:n+1≤cap) (hcs:cs.length=size) (h1:∀u∈cs,u.oneCell'=true) (hbytes:(n+1) * bytes≤140737488355328) (hn:n<9223372036854775807) (hbase:base≤w.heap.size):
  ∃w',(Builtin.append_ #[t,t] ty #[.slice (some ⟨g,0,none⟩) n cap,.slice (some ⟨w.heap.size,0,none⟩) 1 1]).run P (w.alloc (.cells cs.toArray e))=.ok (.slice (some ⟨g,0,none⟩) (n+1) cap) w'∧
   w'.ownsRow base e size (.slice (some ⟨g,0,none⟩) (n+1) cap) (n+1) (xs++cs)∧(w.alloc (.cells cs.toArray e)).grownBy w' (some g):=by
 obtain ⟨i,hi,hz,hz2,hz3⟩:=info_parts hinfo
 have hown2:=hown.alloc (.cells cs.toArray e)
 have hnews:∀j u,cs[j]? =some u→(w.alloc (.cells cs.toArray e)).cell? ((⟨w.heap.size,0,none⟩:Addr).add j)=some u:=fun j u hj=>by
  rw[Addr.add_lit,Nat.zero_add,World.cell?_alloc_new];simpa using hj
 obtain ⟨v',w',hr,h2,h3,h4⟩:=run_append_own' (P:=P) (w.alloc (.cells cs.toArray e)) base t ty e i z size bytes ht hi hz hz2 hz3 hz1 hsz _ n xs hown2 ⟨w.heap.size,0,none⟩ 1 1 cs (by omega) hnews h1 (by unfold maxLen;omega) hbytes (by simp;omega)
 have hg0:=hown2.2
 rcases hg0 with ⟨e0,_⟩ | ⟨g',cap',cur,e0,hb,hg,hnc,hcm,hcsz,htake⟩
 ·cases e0
 ·injection e0 with e1 e2 e3
  injection e1 with e1
  injection e1 with e1
  subst e1 e3
  have hr2:=run_append_room (P:=P) (w.alloc (.cells cs.toArray e)) t ty e i ht hi g n cap cur hg ⟨w.heap.size,0,none⟩ 1 1 cs (by omega) hnews h1 hroom (by rw[hz2,hcs,hcsz];have:(n+1) * size≤cap * size:=Nat.mul_le_mul_right _ hroom;rw[Nat.add_mul,Nat.one_mul]at this;exact this)
  rw[hr]at hr2
  injection hr2 with hv hw
  subst hv
  exact ⟨w',hr,h2,h3⟩
theorem step_push_room {P:Program} {ops:Array Oper} {o:Oper} {a:Act} {w:World} {Kc:Act→World→Prop} {Q:Exit→Act→World→Prop} {E:Prop} (hgd:o.guard=none) (s x:Operand) (t:TypeId)
  (ho:o.op=.call {callee:=.builtin .append,args:=#[s,x],argTypes:=#[t,t]}) (e:TypeId) (z:Value) (size bytes:Nat) (ht:P.underlying t=some (.slice e))
  (hinfo:(P.info? e).map (fun i=>(i.zero,i.size,i.bytes))=some (some z,size,bytes)) (hz1:z.cells.size=size) (hsz:0<size) {base g n cap:Nat} {xs cs:List Value} (hs:a.eval s=.slice (some ⟨g,0,none⟩) n cap) (hx:a.eval x=.slice (some ⟨w.heap.size,0,none⟩) 1 1) (hown:w.ownsRow base e size (.slice (some ⟨g,0,none⟩) n cap) n xs)
  (hroom:n+1≤cap) (hcs:cs.length=size) (h1:∀u∈cs,u.oneCell'=true) (hbytes:(n+1) * bytes≤140737488355328) (hn:n<9223372036854775807) (hbase:base≤w.heap.size)
  (h:∀w',w'.ownsRow base e size (.slice (some ⟨g,0,none⟩) (n+1) cap) (n+1) (xs++cs)→(w.alloc (.cells cs.toArray e)).grownBy w' (some g)→Kc (a.put o.dst (.slice (some ⟨g,0,none⟩) (n+1) cap)) w'):
  if Region.wanted o (yielded ops a.tmps)=true then Oper.wp P o a (w.alloc (.cells cs.toArray e)) Kc Q else E:=by
 have hw:Region.wanted o (yielded ops a.tmps)=true:=by simp[Region.wanted,hgd]
 rw[if_pos hw]
 obtain ⟨w',hr,h2,h3⟩:=run_push_room (P:=P) (w:=w) t o.type e z size bytes ht hinfo hz1 hsz hown hroom hcs h1 hbytes hn hbase
 unfold Oper.wp
 simp[execOp,ho,resolve,invoke,builtin,hs,hx,hr,Result.andThen]
 exact h w' h2 h3
theorem step_pushK {α:Type} {K:Kd α} {P:Program} {ops:Array Oper} {o:Oper} {a:Act} {w:World} {Kc:Act→World→Prop} {Q:Exit→Act→World→Prop} {E:Prop} (hgd:o.guard=none) (s x:Operand) (t:TypeId)
  (ho:o.op=.call {callee:=.builtin .append,args:=#[s,x],argTypes:=#[t,t]}) (e:TypeId) (z:Value) (bytes:Nat) (ht:P.underlying t=some (.slice e))
  (hinfo:(P.info? e).map (fun i=>(i.zero,i.size,i.bytes))=some (some z,K.size,bytes)) (hz1:z.cells.size=K.size) (hsz:0<K.size) {base:Nat} {S:Nat→Prop} {v:Value} {l:List α} (hs:a.eval s=v) (hown:OwnK K e base S w v l)
  {cs:List Value} {y:α} (hx:a.eval x=.slice (some ⟨w.heap.size,0,none⟩) 1 1) (hy:K.rd (fun b=>S b∧v.ownBlock≠some b) w cs y) (hbytes:(l.length+1) * bytes≤140737488355328) (hn:l.length<9223372036854775807) (hbase:base≤w.heap.size)
  (h:∀g' c' w',OwnK K e base S w' (.slice (some ⟨g',0,none⟩) (l.length+1) c') (l++[y])→Below base w w'→(∀S:Nat→Prop,(∀k,v.ownBlock=some k→¬S k)→Agree S w w')→(v.ownBlock=some g'∨w.heap.size≤g')→(w.alloc (.cells cs.toArray e)).grownBy w' v.ownBlock→Kc (a.put o.dst (.slice (some ⟨g',0,none⟩) (l.length+1) c')) w'):
  if Region.wanted o (yielded ops a.tmps)=true then Oper.wp P o a (w.alloc (.cells cs.toArray e)) Kc Q else E:=by
 have hw:Region.wanted o (yielded ops a.tmps)=true:=by simp[Region.wanted,hgd]
 rw[if_pos hw]
 obtain ⟨g',c',w',hrun,r1,r2,r3,r4,r5⟩:=run_pushK (P:=P) t o.type e z bytes ht hinfo hz1 hsz hown hy hbytes hn hbase
 unfold Oper.wp
 simp[execOp,ho,resolve,invoke,builtin,hs,hx,hrun,Result.andThen]
 exact h g' c' w' r1 r2 r3 r4 r5
theorem owns_init {w:World} {base g n cap z:Nat} {e:TypeId} {xs ys:List Value} (h:w.ownsRow base e z (.slice (some ⟨g,0,none⟩) (n+1) cap) (n+1) (xs++ys)) (hx:xs.length=n * z):w.ownsRow base e z (.slice (some ⟨g,0,none⟩) n cap) n xs:=by
 refine ⟨hx,?_⟩
 rcases h.2 with ⟨e0,_⟩ | ⟨g',cap',cur,e0,hb,hg,hnc,hcm,hcsz,htake⟩
 ·cases e0
 ·injection e0 with e1 e2 e3
  injection e1 with e1
  injection e1 with e1
  subst e1 e3
  refine .inr ⟨g,cap,cur,rfl,hb,hg,by omega,hcm,hcsz,?_⟩
  have h2:(cur.toList.take ((n+1) * z)).take (n * z)=(xs++ys).take (n * z):=by rw[htake]
  rw[List.take_take,Nat.min_eq_left (Nat.mul_le_mul_right _ (Nat.le_succ _)),←hx,List.take_left]at h2
  rw[←hx]
  exact h2
def flatC (l:List (List Int)):List Value:=l.flatMap fun r=>r.map (Value.int .i64)
theorem flatC_snoc (l:List (List Int)) (r:List Int):flatC (l++[r])=flatC l++r.map (Value.int .i64):=by unfold flatC;rw[List.flatMap_append];simp
theorem flatC_len {l:List (List Int)} {z:Nat} (h:∀r∈l,r.length=z):(flatC l).length=l.length * z:=by
 induction l with
 | nil=>simp[flatC]
 | cons r l ih=>
  have:=ih fun r hr=>h r (by simp[hr])
  unfold flatC at this ⊢
  rw[List.flatMap_cons,List.length_append,this,List.length_map,h r (by simp),List.length_cons,Nat.add_mul]
  omega
theorem flatC_part {l:List (List Int)} {z:Nat} (h:∀r∈l,r.length=z):∀j (hj:j<l.length),zzpart (flatC l) j z=l[j].map (Value.int .i64):=by
 induction l with
 | nil=>intro j hj;simp at hj
 | cons r l ih=>
  intro j hj
  have e:flatC (r::l)=r.map (Value.int .i64)++flatC l:=by unfold flatC;rw[List.flatMap_cons]
  have hr:(r.map (Value.int .i64)).length=z:=by rw[List.length_map];exact h r (by simp)
  rw[e]
  cases j with
  | zero=>rw[part_zero hr];rfl
  | succ j=>
   rw[part_succ hr,ih (fun r hr=>h r (by simp[hr])) j (by simpa using hj)]
   rfl
theorem own_word {w:World} {base z:Nat} {S:Nat→Prop} {v:Value} {e:TypeId} {l:List (List Int)} (h:w.ownsRow base e z v l.length (flatC l)) (hl:∀r∈l,r.length=z∧∀x∈r,WF x):OwnK (kFlat z) e base S w v l:=
 ⟨flatC l,h,fun j hj=>by
  have h2:=hl _ (List.getElem_mem hj)
  refine ⟨h2.1,?_,h2.2⟩
  exact flatC_part (z:=z) (fun r hr=>(hl r hr).1) j hj⟩
end Go.Proofs.YtaijafjfafbcfaaGreat
namespace Go.Proofs.YtaijafjfafbcfaaGreat
section
variable {P:Program} {ops:Array Oper} {Q:Exit→Act→World→Prop} {md:Region.Mode} {S:World→Prop} {X:Nat→Bool}
def waitsB (md:Region.Mode) (ops:Array Oper):Nat→Nat→Nat→Bool
 | 0,_,_=>false
 | n+1,j,i=>match ops[j]? with | some o=>o.after.any (fun e=>Region.binds md e&&(e.on==i||waitsB md ops n e.on i)) | none=>false
def ClosedL (md:Region.Mode) (ops:Array Oper) (listed:Array Bool):Prop:=∀k ok,ops[k]? =some ok→listed.getD k true=true→∀e∈ok.after,Region.binds md e=true→listed.getD e.on true=true
theorem waits_spec {listed:Array Bool} (hc:ClosedL md ops listed) {i:Nat} (hi:listed.getD i true=false):∀(n j:Nat),waitsB md ops n j i=true→∃o,ops[j]? =some o∧∃e∈o.after,Region.binds md e=true∧listed.getD e.on true=false
 | 0,_,h=>by cases h
 | n+1,j,h=>by
  unfold waitsB at h
  cases ho:ops[j]? with
  | none=>rw[ho]at h;cases h
  | some o=>
   rw[ho]at h
   simp only at h
   rw[Array.any_eq_true]at h
   obtain ⟨k,hk,he⟩:=h
   simp only[Bool.and_eq_true,Bool.or_eq_true,beq_iff_eq]at he
   refine ⟨o,rfl,o.after[k],Array.getElem_mem hk,he.1,?_⟩
   rcases he.2 with h2 | h2
   ·rw[h2];exact hi
   ·obtain ⟨o2,ho2,e2,he2,hb2,hl2⟩:=waits_spec hc hi n _ h2
    cases hl:listed.getD (o.after[k]).on true with
    | false=>rfl
    | true=>
     have:=hc _ _ ho2 hl e2 he2 hb2
     rw[hl2]at this
     cases this
theorem closed_set {listed:Array Bool} (hc:ClosedL md ops listed) {j:Nat} (hj:j∈Region.ready md ops listed):ClosedL md ops (listed.setIfInBounds j true):=by
 have up:∀q,listed.getD q true=true→(listed.setIfInBounds j true).getD q true=true:=fun q hq=>by
  by_cases e:j=q
  ·subst e
   rcases Nat.lt_or_ge j listed.size with h | h
   ·simp[h]
   ·simp[Array.getElem?_eq_none (show (listed.setIfInBounds j true).size≤j by simpa using h)]
  ·rw[getD_set_ne true e];exact hq
 obtain ⟨_,oj,hoj,hall⟩:=mem_ready.1 hj
 intro k ok hk hl e he hb
 by_cases ejk:j=k
 ·subst ejk
  rw[hoj]at hk
  cases hk
  have h1:=hall e he hb
  refine up _ ?_
  rcases Nat.lt_or_ge e.on listed.size with h' | h'
  ·simp[h']at h1 ⊢;exact h1
  ·simp[Array.getElem?_eq_none h']
 ·rw[getD_set_ne true ejk]at hl
  exact up _ (hc k ok hk hl e he hb)
def waitForT (md:Region.Mode) (ops:Array Oper) (X:Nat→Bool) (i:Nat):Bool:=(List.range ops.size).all fun j=> !X j||waitsB md ops ops.size j i
theorem anyE_firstT {i:Nat} {oi:Oper} {v:Value} (hi:ops[i]? =some oi) (hsel:∀(j:Nat) (o:Oper) cs b,ops[j]? =some o→o.op≠.select cs b)
  (hX:waitForT md ops X i=true) (hQ:∀c a w,Q (.panic c) (a.put oi.dst v) w→Q (.panic c) a w):
  ∀(fuel:Nat) (listed:Array Bool) (a:Act) (w:World),ClosedL md ops listed→
   (∀j oj,ops[j]? =some oj→j≠i→listed.getD j true=false→(∀e∈oj.after,Region.binds md e=true→e.on≠i)→oi.apart ops oj=true)→
   i∈Region.ready md ops listed→YieldsIf P ops S oi v a→S w→
   AnyE P md ops Q S X fuel (listed.setIfInBounds i true) (a.put oi.dst v) w→AnyE P md ops Q S X (fuel+1) listed a w:=by
 intro fuel
 induction fuel with
 | zero=>
  intro listed a w _ _ hr hy hS H
  refine ⟨fun h=>(by rw[h]at hr;cases hr),fun j hj=>?_⟩
  by_cases hji:j=i
  ·subst hji;exact hy.wpOp hi hS ⟨fun _=>hS,H⟩
  ·have:=ready_mono hj hji
   rw[H.1]at this
   cases this
 | succ fuel ih=>
  intro listed a w hc hfree hr hy hS H
  refine ⟨fun h=>(by rw[h]at hr;cases hr),fun j hj=>?_⟩
  by_cases hji:j=i
  ·subst hji;exact hy.wpOp hi hS ⟨fun _=>hS,H⟩
  ·have h1:=H.2 j (ready_mono hj hji)
   have hj2:=hj
   obtain ⟨hjun,oj,hoj,hall⟩:=mem_ready.1 hj
   have hun:listed.getD i true=false:=by simpa using (mem_ready.1 hr).1
   have tr:∀q,(listed.getD q true=true↔listed.getD q false=true∨listed.size≤q):=fun q=>by
    rcases Nat.lt_or_ge q listed.size with h' | h'
    ·simp[h'];omega
    ·simp[Array.getElem?_eq_none h',h']
   have hnot:∀e∈oj.after,Region.binds md e=true→e.on≠i:=fun e he hb heq=>by
    have k1:=hall e he hb
    have k0:=(mem_ready.1 hr).1
    rw[heq]at k1
    rcases Nat.lt_or_ge i listed.size with h' | h'
    ·simp[h']at k0 k1;rw[k0]at k1;cases k1
    ·simp[Array.getElem?_eq_none h']at k1
   have hxj:X j=false:=by
    cases hx:X j with
    | false=>rfl
    | true=>
     have:=List.all_eq_true.1 hX j (List.mem_range.2 (Array.getElem?_eq_some_iff.1 hoj).1)
     rw[hx]at this
     simp only[Bool.not_true,Bool.false_or]at this
     obtain ⟨o2,ho2,e,he,hb,hl⟩:=waits_spec hc hun _ _ this
     rw[hoj]at ho2
     cases ho2
     have k1:=hall e he hb
     rcases Nat.lt_or_ge e.on listed.size with h' | h'
     ·simp[h']at k1 hl;rw[hl]at k1;cases k1
     ·simp[Array.getElem?_eq_none h']at k1
   have h2:=wpOp_putIf hoj (hfree j oj hoj hji hjun hnot) (fun cs b=>hsel i oi cs b hi) (fun cs b=>hsel j oj cs b hoj) hQ hy h1
   refine wpOp_mono (fun a' w' h3=>⟨fun _=>h3.2.1 hxj,ih (listed.setIfInBounds j true) a' w' (closed_set hc hj2) (fun k ok hk hki hun hno=>?_) (ready_mono hr (Ne.symm hji)) h3.1 (h3.2.1 hxj) ?_⟩) h2
   ·refine hfree k ok hk hki ?_ hno
    by_cases hjk:j=k
    ·subst hjk;exact hjun
    ·rw[getD_set_ne true hjk]at hun;exact hun
   ·rw[Array.setIfInBounds_comm _ _ hji]
    exact h3.2.2
def closedB (md:Region.Mode) (ops:Array Oper) (listed:Array Bool):Bool:=
 (List.range ops.size).all fun k=> !listed.getD k true||(match ops[k]? with | some o=>o.after.all (fun e=> !Region.binds md e||listed.getD e.on true) | none=>true)
theorem closedB_spec {listed:Array Bool} (h:closedB md ops listed=true):ClosedL md ops listed:=fun k ok hk hl e he hb=>by
 have:=List.all_eq_true.1 h k (List.mem_range.2 (Array.getElem?_eq_some_iff.1 hk).1)
 rw[hk,hl]at this
 simp only[Bool.not_true,Bool.false_or]at this
 rw[Array.all_eq_true]at this
 obtain ⟨q,hq,rfl⟩:=Array.getElem_of_mem he
 have:=this q hq
 rw[hb]at this
 simpa using this
theorem anyE_takeT {l:List Oper} (i:Nat) {oi:Oper} {v:Value} {fuel:Nat} {listed:Array Bool} {a:Act} {w:World} (hi:l[i]? =some oi)
  (hf:(Region.noSelect l.toArray&&(Region.free md l.toArray listed i&&((Region.ready md l.toArray listed).contains i&&(waitForT md l.toArray X i&&closedB md l.toArray listed))))=true)
  (hQ:∀c a w,Q (.panic c) (a.put oi.dst v) w→Q (.panic c) a w) (hw:Region.wanted oi (yielded l.toArray a.tmps)=true) (hy:∀w,S w→(execOp a.eval oi).run P w=.ok (.value v) w) (hS:S w)
  (h:AnyE P md l.toArray Q S X fuel (listed.setIfInBounds i true) (a.put oi.dst v) w):AnyE P md l.toArray Q S X (fuel+1) listed a w:=by
 simp only[Bool.and_eq_true]at hf
 obtain ⟨h1,h2,h3,h4,h5⟩:=hf
 have hi':l.toArray[i]? =some oi:=by simpa using hi
 exact anyE_firstT hi' (Region.noSelect_spec h1) h4 hQ fuel listed a w (closedB_spec h5) (Region.free_spec hi' h2) (by simpa using h3) (.inl ⟨hw,hy⟩) hS h
end
end Go.Proofs.YtaijafjfafbcfaaGreat
