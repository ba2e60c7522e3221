/- Part of the proof that the laws answer true for every input. -/
import Derived.Test.YtjpakklplhabdaaGreatPGaA20
import Derived.Test.YtjpakklplhabdaaGreatPGaA21
set_option linter.unusedSimpArgs false
set_option linter.unnecessarySimpa false
set_option linter.unusedVariables false
set_option maxRecDepth 100000
set_option maxHeartbeats 40000000
namespace Go.Proofs.YtjpakklplhabdaaGreat
open Go.RowKit Go.Maps
attribute [local go_sem ↓] Go.wp_at_zero Go.wp_at_succ
theorem yM:(Tryz.prog.info? 134).map (fun i=>(i.zero,i.size,i.bytes))=some (some (.agg #[.int .i64 0,.int .i64 0,.int .i64 0,.int .i64 0,.int .i64 0,.int .i64 0,.int .i64 0,.int .i64 0]),8,64):=by kernel_rfl
theorem Xx (w:World):(zeroValue 3).run Tryz.prog w=.ok (.int .i64 0) w:=by
 simp[Tryz.zeroValue3,go_sem]
def ViewOK (x:List Int):Prop:=x.length=8∧∀y∈x,WF y
theorem zdN {t:List (List Int)} {v:List Int} {j:Nat} (h:j<idxV t v):nthL t j≠v:=by
 intro e
 have hl:=Nat.lt_of_lt_of_le h (XL t v)
 have:=List.not_of_lt_findIdx (p:=fun x=>x==v) (xs:=t) (i:=j) (by simpa[idxV,List.idxOf] using h)
 rw[zM hl]at e
 simp[e]at this
theorem ZP {t:List (List Int)} {v:List Int} {j:Nat} (h:j<t.length):nthL (t++[v]) j=nthL t j:=by simp[nthL,List.getElem?_append_left h]
theorem zbV {t:List (List Int)} {v z:List Int} (h:z∈t):idxV (t++[v]) z=idxV t z:=by
 have hl:=qT.2 h
 exact xI (by simp;omega) (by rw[ZP hl,xb h]) fun j hj=>by rw[ZP (by omega)];exact zdN hj
theorem zdl {t:List (List Int)} {v:List Int} (h:v∉t):idxV (t++[v]) v=t.length:=
 xI (by simp) (by simp[nthL]) fun j hj=>by rw[ZP hj];exact fun e=>h (e▸yl hj)
def numM (tab:List (List Int)) (x:List Int):Option Value:=if x∈tab then some (.int .i64 (idxV tab x:Nat)) else none
theorem zdR {tab:List (List Int)} {v:List Int} (hv:v∉tab):(fun z=>if z=v then some (.int .i64 (tab.length:Nat)) else numM tab z)=numM (addV tab v):=by
 funext z
 unfold numM addV
 rw[if_neg hv]
 by_cases e:z=v
 ·subst e
  rw[if_pos rfl,if_pos (by simp)]
  rw[zdl hv]
 ·rw[if_neg e]
  by_cases h:z∈tab
  ·rw[if_pos h,if_pos (by simp[h])]
   rw[zbV h]
  ·rw[if_neg h,if_neg (by simp[h,e])]
structure BSt (B BB MB:Nat) (n:Int) (W:World) (vv:Value) (tab:List (List Int)):Prop where
 row:Row W BB 97 [.int .i64 n,vv,.map (some MB)]
 own:OwnK (kFlat 8) 134 B (fun _=>False) W vv tab
 map:MapV viewKey W MB (numM tab) tab.length
 ok:∀v∈tab,ViewOK v
 og:∀g,vv.ownBlock=some g→g≠BB∧g≠MB
 bm:BB≠MB∧B≤BB∧B≤MB
def keepsB (BB MB:Nat) (vv:Value) (b:Nat):Prop:=b≠BB∧b≠MB∧vv.ownBlock≠some b
theorem BSt.ext {B BB MB:Nat} {n:Int} {W W':World} {vv:Value} {tab:List (List Int)} (h:BSt B BB MB n W vv tab) (hb:Below W.heap.size W W'):BSt B BB MB n W' vv tab:=
 ⟨h.row.ext hb,h.own.ext hb,h.map.ext hb,h.ok,h.og,h.bm⟩
def BEnd (B BB MB:Nat) (n:Int) (W:World) (vv:Value) (tab:List (List Int)) (W':World):Prop:=
 ∃vv',Agree (keepsB BB MB vv) W W'∧Below B W W'∧BSt B BB MB n W' vv' tab∧∀g,vv'.ownBlock=some g→vv.ownBlock=some g∨W.heap.size≤g
theorem xp (w:World):Calls Tryz.prog 65 #[] w (Post w fun _ r=>r=.agg #[.int .i64 (-1),.int .i64 (-1),.int .i64 (-1),.int .i64 (-1),.int .i64 (-1)]):=by
 have ex:=zg (zb w (.cells #[.int .i64 0,.int .i64 0,.int .i64 0,.int .i64 0,.int .i64 0] 63)) (.cells #[.int .i64 0,.int .i64 0,.int .i64 0,.int .i64 0,.int .i64 0] 63)
 have R0:=(ze w [.int .i64 0,.int .i64 0,.int .i64 0,.int .i64 0,.int .i64 0] 63).alloc (.cells #[.int .i64 0,.int .i64 0,.int .i64 0,.int .i64 0,.int .i64 0] 63)
 have R1:=ze (w.alloc (.cells #[.int .i64 0,.int .i64 0,.int .i64 0,.int .i64 0,.int .i64 0] 63)) [.int .i64 0,.int .i64 0,.int .i64 0,.int .i64 0,.int .i64 0] 63
 rw[World.size_alloc]at R1
 go_enter Tryz.func65,Tryz.ntmps65
 go_wp2
 go_loopw [2,3] (fun _ i wr=>∃k:Nat,k≤5∧i=.int .i64 k∧Below w.heap.size w wr∧Row wr w.heap.size 63 [.int .i64 0,.int .i64 0,.int .i64 0,.int .i64 0,.int .i64 0]∧Row wr (w.heap.size+1) 63 ((List.replicate k (.int .i64 (-1)))++List.replicate (5 - k) (.int .i64 0))) (fun _ i _=>5 - (intOf i).toNat)
 case atStart=>exact ⟨0,by omega,rfl,ex,R0,R1⟩
 case round=>
  clear ex R0 R1
  obtain ⟨k,hk,rfl,hb,R0,R1⟩:=hrel
  have hk6:k=0∨k=1∨k=2∨k=3∨k=4∨k=5:=by omega
  have hl1:=R1.lt
  have hl0:=R0.lt
  rcases hk6 with rfl | rfl | rfl | rfl | rfl | rfl
  case inr.inr.inr.inr.inr=>
   have t0:=R1.zc 0 rfl
   have t1:=R1.zc 1 rfl
   have t2:=R1.zc 2 rfl
   have t3:=R1.zc 3 rfl
   have t4:=R1.zc 4 rfl
   have d0:=R0.zc 0 rfl
   have d1:=R0.zc 1 rfl
   have d2:=R0.zc 2 rfl
   have d3:=R0.zc 3 rfl
   have d4:=R0.zc 4 rfl
   have f0:=R0.free 0
   have f1:=R0.free 1
   have f2:=R0.free 2
   have f3:=R0.free 3
   have f4:=R0.free 4
   have HRZ:=zhd (R0.sets [(0,.int .i64 (-1)),(1,.int .i64 (-1)),(2,.int .i64 (-1)),(3,.int .i64 (-1)),(4,.int .i64 (-1))])
   have HBZ:=zhd (zD (Nat.le_refl _) [(0,.int .i64 (-1)),(1,.int .i64 (-1)),(2,.int .i64 (-1)),(3,.int .i64 (-1)),(4,.int .i64 (-1))] wr hb)
   go_wp2
   obtain ⟨W7,hW7⟩:∃W7,W7=sets w.heap.size [(0,.int .i64 (-1)),(1,.int .i64 (-1)),(2,.int .i64 (-1)),(3,.int .i64 (-1)),(4,.int .i64 (-1))] wr:=⟨_,rfl⟩
   rw[←hW7]at HRZ HBZ
   have q0:W7.cell? ⟨w.heap.size,0,none⟩=some _:=HRZ.out.zc 0 rfl
   have q1:W7.cell? ⟨w.heap.size,1,none⟩=some _:=HRZ.out.zc 1 rfl
   have q2:W7.cell? ⟨w.heap.size,2,none⟩=some _:=HRZ.out.zc 2 rfl
   have q3:W7.cell? ⟨w.heap.size,3,none⟩=some _:=HRZ.out.zc 3 rfl
   have q4:W7.cell? ⟨w.heap.size,4,none⟩=some _:=HRZ.out.zc 4 rfl
   unfold sets at hW7
   simp only[List.foldl_cons,List.foldl_nil]at hW7
   rw[←hW7]
   refine bodyPost_ret (v:=.agg #[.int .i64 (-1),.int .i64 (-1),.int .i64 (-1),.int .i64 (-1),.int .i64 (-1)]) (by simp[results,Tryz.results65,go_sem,q0,q1,q2,q3,q4]) rfl ?_
   exact .mk HBZ.out rfl
  all_goals
   first
    | (have tc:=R1.zc 0 rfl;have tf:=R1.free 0;have HR:=zhd (R1.set 0 (.int .i64 (-1)));have H0:=zhd (R0.grown (zj wr (w.heap.size+1) 0 (.int .i64 (-1))) (by simp));have HB:=zhd (hb.setCell (p:=⟨w.heap.size+1,0,none⟩) (by simp) (.int .i64 (-1)));clear R0 R1;go_wp2;go_roundw;(case rel=>exact ⟨1,by omega,by go_num,HB.out,H0.out,HR.out⟩);(case measure=>simp[intOf]);done)
    | (have tc:=R1.zc 1 rfl;have tf:=R1.free 1;have HR:=zhd (R1.set 1 (.int .i64 (-1)));have H0:=zhd (R0.grown (zj wr (w.heap.size+1) 1 (.int .i64 (-1))) (by simp));have HB:=zhd (hb.setCell (p:=⟨w.heap.size+1,1,none⟩) (by simp) (.int .i64 (-1)));clear R0 R1;go_wp2;go_roundw;(case rel=>exact ⟨2,by omega,by go_num,HB.out,H0.out,HR.out⟩);(case measure=>simp[intOf]);done)
    | (have tc:=R1.zc 2 rfl;have tf:=R1.free 2;have HR:=zhd (R1.set 2 (.int .i64 (-1)));have H0:=zhd (R0.grown (zj wr (w.heap.size+1) 2 (.int .i64 (-1))) (by simp));have HB:=zhd (hb.setCell (p:=⟨w.heap.size+1,2,none⟩) (by simp) (.int .i64 (-1)));clear R0 R1;go_wp2;go_roundw;(case rel=>exact ⟨3,by omega,by go_num,HB.out,H0.out,HR.out⟩);(case measure=>simp[intOf]);done)
    | (have tc:=R1.zc 3 rfl;have tf:=R1.free 3;have HR:=zhd (R1.set 3 (.int .i64 (-1)));have H0:=zhd (R0.grown (zj wr (w.heap.size+1) 3 (.int .i64 (-1))) (by simp));have HB:=zhd (hb.setCell (p:=⟨w.heap.size+1,3,none⟩) (by simp) (.int .i64 (-1)));clear R0 R1;go_wp2;go_roundw;(case rel=>exact ⟨4,by omega,by go_num,HB.out,H0.out,HR.out⟩);(case measure=>simp[intOf]);done)
    | (have tc:=R1.zc 4 rfl;have tf:=R1.free 4;have HR:=zhd (R1.set 4 (.int .i64 (-1)));have H0:=zhd (R0.grown (zj wr (w.heap.size+1) 4 (.int .i64 (-1))) (by simp));have HB:=zhd (hb.setCell (p:=⟨w.heap.size+1,4,none⟩) (by simp) (.int .i64 (-1)));clear R0 R1;go_wp2;go_roundw;(case rel=>exact ⟨5,by omega,by go_num,HB.out,H0.out,HR.out⟩);(case measure=>simp[intOf]);done)
end Go.Proofs.YtjpakklplhabdaaGreat
namespace Go.Proofs.YtjpakklplhabdaaGreat
open Go.RowKit Go.Maps
attribute [local go_sem ↓] Go.wp_at_zero Go.wp_at_succ
section
variable {P:Program} {k:TypeId} {K:Type} {B:KeyB P k K} {w:World} {b n:Nat} {m:K→Option Value} {ops:Array Oper} {o:Oper} {a:Act} {Kc:Act→World→Prop} {Q:Exit→Act→World→Prop} {E:Prop}
theorem Qx (hg:o.guard=none) (mo xo:Operand) (t:TypeId) (hop:o.op=Op.lookup t mo xo true) (e:TypeId) (ht:P.underlying t=some (.map k e)) (z:Value) (hz:(zeroValue e).run P w=.ok z w)
  (hm:a.eval mo=.map (some b)) (h:MapV B w b m n) (x:K) (hxv:a.eval xo=B.kv x) (hx:B.ok x)
  (hK:Kc (a.put o.dst (.tuple #[(m x).getD z,.bool (m x).isSome])) w):if Region.wanted o (yielded ops a.tmps)=true then Oper.wp P o a w Kc Q else E:=by
 have hw:Region.wanted o (yielded ops a.tmps)=true:=by simp[Region.wanted,hg]
 rw[if_pos hw]
 unfold Oper.wp
 simp[execOp,hop,hm,hxv,h.look ht hz hx true,Result.andThen]
 exact hK
theorem zd2 [DecidableEq K] (hg:o.guard=none) (mo xo yo:Operand) (t:TypeId) (hop:o.op=Op.mapUpdate t mo xo yo) (e:TypeId) (ht:P.underlying t=some (.map k e))
  (hm:a.eval mo=.map (some b)) (h:MapV B w b m n) (hn:n<maxLen) (x:K) (hxv:a.eval xo=B.kv x) (hx:B.ok x) (y:Value) (hy:a.eval yo=y)
  (hK:∀w',MapV B w' b (fun z=>if z=x then some y else m z) (if (m x).isSome then n else n+1)→w.grownBy w' (some b)→Kc (a.put o.dst undef) w'):if Region.wanted o (yielded ops a.tmps)=true then Oper.wp P o a w Kc Q else E:=by
 have hw:Region.wanted o (yielded ops a.tmps)=true:=by simp[Region.wanted,hg]
 rw[if_pos hw]
 obtain ⟨w',hr,r1,r2⟩:=h.store ht hn hx y
 unfold Oper.wp
 simp[execOp,hop,hm,hxv,hy,hr,Result.andThen]
 exact hK w' r1 r2
end
def viewV (v:List Int):Value:=.agg #[.int .i64 (nth v 0),.int .i64 (nth v 1),.int .i64 (nth v 2),.int .i64 (nth v 3),.int .i64 (nth v 4),.int .i64 (nth v 5),.int .i64 (nth v 6),.int .i64 (nth v 7)]
theorem Xr {v:List Int} (h:v.length=8):viewKey.kv v=viewV v:=by
 match v,h with
 | [a,b,c,d,e,f,g,i],_=>rfl
theorem cells8 {v:List Int} (h:v.length=8):v.map (Value.int .i64)=[.int .i64 (nth v 0),.int .i64 (nth v 1),.int .i64 (nth v 2),.int .i64 (nth v 3),.int .i64 (nth v 4),.int .i64 (nth v 5),.int .i64 (nth v 6),.int .i64 (nth v 7)]:=by
 match v,h with
 | [a,b,c,d,e,f,g,i],_=>rfl
theorem zej {B BB MB:Nat} {n:Int} {W:World} {vv:Value} {tab:List (List Int)} {v:List Int} (h:BSt B BB MB n W vv tab) (hv:ViewOK v) (hB:B≤W.heap.size) (hin:v∈tab):
  Calls Tryz.prog 64 #[.pointer (some ⟨BB,0,none⟩),.agg #[.int .i64 (nth v 0),.int .i64 (nth v 1),.int .i64 (nth v 2),.int .i64 (nth v 3),.int .i64 (nth v 4),.int .i64 (nth v 5),.int .i64 (nth v 6),.int .i64 (nth v 7)]] W (fun e W'=>e=.returned (.int .i64 (idxV tab v:Nat))∧BEnd B BB MB n W vv tab W'):=by
 have ex:=zb W (.cells #[.int .i64 (nth v 0),.int .i64 (nth v 1),.int .i64 (nth v 2),.int .i64 (nth v 3),.int .i64 (nth v 4),.int .i64 (nth v 5),.int .i64 (nth v 6),.int .i64 (nth v 7)] 134)
 have RV:=ze W [.int .i64 (nth v 0),.int .i64 (nth v 1),.int .i64 (nth v 2),.int .i64 (nth v 3),.int .i64 (nth v 4),.int .i64 (nth v 5),.int .i64 (nth v 6),.int .i64 (nth v 7)] 134
 have HB:=zhd (h.ext ex)
 have h0:=zhd h
 have hBBl:=h.row.lt
 have hMBl:=h.map.lt
 have b0:=HB.out.row.zc 0 rfl
 have b1:=HB.out.row.zc 1 rfl
 have KEEP:Hid (∀w',Agree (fun b=>b=BB∨b=W.heap.size) (W.alloc (.cells #[.int .i64 (nth v 0),.int .i64 (nth v 1),.int .i64 (nth v 2),.int .i64 (nth v 3),.int .i64 (nth v 4),.int .i64 (nth v 5),.int .i64 (nth v 6),.int .i64 (nth v 7)] 134)) w'→w'.cell? ⟨BB,2,none⟩=some (.map (some MB))∧w'.cell? ⟨W.heap.size,0,none⟩=some (.int .i64 (nth v 0))∧w'.cell? ⟨W.heap.size,1,none⟩=some (.int .i64 (nth v 1))∧w'.cell? ⟨W.heap.size,2,none⟩=some (.int .i64 (nth v 2))∧w'.cell? ⟨W.heap.size,3,none⟩=some (.int .i64 (nth v 3))∧w'.cell? ⟨W.heap.size,4,none⟩=some (.int .i64 (nth v 4))∧w'.cell? ⟨W.heap.size,5,none⟩=some (.int .i64 (nth v 5))∧w'.cell? ⟨W.heap.size,6,none⟩=some (.int .i64 (nth v 6))∧w'.cell? ⟨W.heap.size,7,none⟩=some (.int .i64 (nth v 7))):=zhd fun w' hA=>⟨(HB.out.row.agree hA (.inl rfl)).zc 2 rfl,(RV.agree hA (.inr rfl)).zc 0 rfl,(RV.agree hA (.inr rfl)).zc 1 rfl,(RV.agree hA (.inr rfl)).zc 2 rfl,(RV.agree hA (.inr rfl)).zc 3 rfl,(RV.agree hA (.inr rfl)).zc 4 rfl,(RV.agree hA (.inr rfl)).zc 5 rfl,(RV.agree hA (.inr rfl)).zc 6 rfl,(RV.agree hA (.inr rfl)).zc 7 rfl⟩
 have HMP:=zhd (HB.out.map.agree (zq (fun _=>True) (W.alloc (.cells #[.int .i64 (nth v 0),.int .i64 (nth v 1),.int .i64 (nth v 2),.int .i64 (nth v 3),.int .i64 (nth v 4),.int .i64 (nth v 5),.int .i64 (nth v 6),.int .i64 (nth v 7)] 134)) 1) trivial)
 have HKV:=zhd (Xr hv.1)
 have HVO:Hid (viewKey.ok v):=zhd hv
 have HNM:Hid ((Value.tuple #[(numM tab v).getD (.int .i64 0),.bool (numM tab v).isSome])=.tuple #[.int .i64 (idxV tab v:Nat),.bool true]):=zhd (by unfold numM;rw[if_pos hin];rfl)
 have HF:Hid (BEnd B BB MB n W vv tab ((W.alloc (.cells #[.int .i64 (nth v 0),.int .i64 (nth v 1),.int .i64 (nth v 2),.int .i64 (nth v 3),.int .i64 (nth v 4),.int .i64 (nth v 5),.int .i64 (nth v 6),.int .i64 (nth v 7)] 134)).drew)):=zhd ⟨vv,((Agree.refl _ _).alloc _).trans (zq _ _ 1),((Below.refl _ _).alloc hB _).trans (zh _ _ 1),HB.out.ext (zh _ _ 1),fun g hg=>.inl hg⟩
 clear h hv hin ex RV HB
 go_enter Tryz.func64,Tryz.ntmps64
 go_wp2
 refine zH (fun w':World=>w'.cell? ⟨BB,2,none⟩=some (.map (some MB))∧w'.cell? ⟨W.heap.size,0,none⟩=some (.int .i64 (nth v 0))∧w'.cell? ⟨W.heap.size,1,none⟩=some (.int .i64 (nth v 1))∧w'.cell? ⟨W.heap.size,2,none⟩=some (.int .i64 (nth v 2))∧w'.cell? ⟨W.heap.size,3,none⟩=some (.int .i64 (nth v 3))∧w'.cell? ⟨W.heap.size,4,none⟩=some (.int .i64 (nth v 4))∧w'.cell? ⟨W.heap.size,5,none⟩=some (.int .i64 (nth v 5))∧w'.cell? ⟨W.heap.size,6,none⟩=some (.int .i64 (nth v 6))∧w'.cell? ⟨W.heap.size,7,none⟩=some (.int .i64 (nth v 7))) (fun i=>false) (by kernel_rfl) ?_ (fun hHeld=>?_)
 ·exact KEEP.out _ (zq _ _ 1)
 refine anyE_take 0 (v:=?_) rfl (by kernel_rfl) (fun _ _ _ h=>h) (by rfl) ?hy0 hHeld ?r0
 case hy0=>(intro w hSw;(try dsimp only at hSw);go_simp;try with_reducible rfl)
 try simp only[Act.put,zsa,zsz,zss]
 refine anyE_take 1 (v:=?_) rfl (by kernel_rfl) (fun _ _ _ h=>h) (by rfl) ?hy1 hHeld ?r1
 case hy1=>(intro w hSw;(try dsimp only at hSw);go_simp;try with_reducible rfl)
 try simp only[Act.put,zsa,zsz,zss]
 refine anyE_take 2 (v:=?_) rfl (by kernel_rfl) (fun _ _ _ h=>h) (by rfl) ?hy2 hHeld ?r2
 case hy2=>(intro w hSw;(try dsimp only at hSw);go_simp;try with_reducible rfl)
 try simp only[Act.put,zsa,zsz,zss]
 refine anyE_take 3 (v:=?_) rfl (by kernel_rfl) (fun _ _ _ h=>h) (by rfl) ?hy3 hHeld ?r3
 case hy3=>(intro w hSw;(try dsimp only at hSw);go_simp;try with_reducible rfl)
 try simp only[Act.put,zsa,zsz,zss]
 refine anyE_take 4 (v:=?_) rfl (by kernel_rfl) (fun _ _ _ h=>h) (by rfl) ?hy4 hHeld ?r4
 case hy4=>(intro w hSw;(try dsimp only at hSw);go_simp;try with_reducible rfl)
 try simp only[Act.put,zsa,zsz,zss]
 refine anyE_one 5 rfl (by kernel_rfl) (fun K hK=>?_)
 (refine Qx rfl _ _ 95 (by rfl) 3 Tryz.underlying95 (.int .i64 0) (Xx _) (by rfl) HMP.out v (by rw[HKV.out];rfl) HVO.out ?_;rw[HNM.out])
 refine hK.out _ _ (fun _=>hHeld) (fun hHeld=>?_);replace hHeld:=hHeld rfl
 clear hK K
 try simp only[Act.put,zsa,zsz,zss]
 refine anyE_take 6 (v:=?_) rfl (by kernel_rfl) (fun _ _ _ h=>h) (by rfl) ?hy6 hHeld ?r6
 case hy6=>(intro w hSw;(try dsimp only at hSw);go_simp;try with_reducible rfl)
 try simp only[Act.put,zsa,zsz,zss]
 refine anyE_take 7 (v:=?_) rfl (by kernel_rfl) (fun _ _ _ h=>h) (by rfl) ?hy7 hHeld ?r7
 case hy7=>(intro w hSw;(try dsimp only at hSw);go_simp;try with_reducible rfl)
 try simp only[Act.put,zsa,zsz,zss]
 refine anyE_take 8 (v:=?_) rfl (by kernel_rfl) (fun _ _ _ h=>h) (by rfl) ?hy8 hHeld ?r8
 case hy8=>(intro w hSw;(try dsimp only at hSw);go_simp;try with_reducible rfl)
 try simp only[Act.put,zsa,zsz,zss]
 refine anyE_take 9 (v:=?_) rfl (by kernel_rfl) (fun _ _ _ h=>h) (by rfl) ?hy9 hHeld ?r9
 case hy9=>(intro w hSw;(try dsimp only at hSw);go_simp;try with_reducible rfl)
 try simp only[Act.put,zsa,zsz,zss]
 refine anyE_take 10 (v:=?_) rfl (by kernel_rfl) (fun _ _ _ h=>h) (by rfl) ?hy10 hHeld ?r10
 case hy10=>(intro w hSw;(try dsimp only at hSw);go_simp;try with_reducible rfl)
 try simp only[Act.put,zsa,zsz,zss]
 refine zy (by kernel_rfl) ?_ _
 clear hHeld KEEP
 go_wp2
 go_ret
 exact ⟨rfl,HF.out⟩
theorem zdp {B BB MB:Nat} {n:Int} {W:World} {vv:Value} {tab:List (List Int)} {v:List Int} (h:BSt B BB MB n W vv tab) (hv:ViewOK v) (hB:B≤W.heap.size) (hin:v∉tab) (ht:tab.length≤100000):
  Calls Tryz.prog 64 #[.pointer (some ⟨BB,0,none⟩),.agg #[.int .i64 (nth v 0),.int .i64 (nth v 1),.int .i64 (nth v 2),.int .i64 (nth v 3),.int .i64 (nth v 4),.int .i64 (nth v 5),.int .i64 (nth v 6),.int .i64 (nth v 7)]] W (fun e W'=>e=.returned (.int .i64 (idxV tab v:Nat))∧BEnd B BB MB n W vv (tab++[v]) W'):=by
 obtain ⟨va,vc,rfl,_,_⟩:=h.own.form
 have ex:=zb W (.cells #[.int .i64 (nth v 0),.int .i64 (nth v 1),.int .i64 (nth v 2),.int .i64 (nth v 3),.int .i64 (nth v 4),.int .i64 (nth v 5),.int .i64 (nth v 6),.int .i64 (nth v 7)] 134)
 have RV:=ze W [.int .i64 (nth v 0),.int .i64 (nth v 1),.int .i64 (nth v 2),.int .i64 (nth v 3),.int .i64 (nth v 4),.int .i64 (nth v 5),.int .i64 (nth v 6),.int .i64 (nth v 7)] 134
 have HB:=zhd (h.ext ex)
 have h0:=zhd h
 have hBBl:=h.row.lt
 have hMBl:=h.map.lt
 have b0:=HB.out.row.zc 0 rfl
 have b1:=HB.out.row.zc 1 rfl
 have KEEP:Hid (∀w',Agree (fun b=>b=BB∨b=W.heap.size) (W.alloc (.cells #[.int .i64 (nth v 0),.int .i64 (nth v 1),.int .i64 (nth v 2),.int .i64 (nth v 3),.int .i64 (nth v 4),.int .i64 (nth v 5),.int .i64 (nth v 6),.int .i64 (nth v 7)] 134)) w'→w'.cell? ⟨BB,2,none⟩=some (.map (some MB))∧w'.cell? ⟨W.heap.size,0,none⟩=some (.int .i64 (nth v 0))∧w'.cell? ⟨W.heap.size,1,none⟩=some (.int .i64 (nth v 1))∧w'.cell? ⟨W.heap.size,2,none⟩=some (.int .i64 (nth v 2))∧w'.cell? ⟨W.heap.size,3,none⟩=some (.int .i64 (nth v 3))∧w'.cell? ⟨W.heap.size,4,none⟩=some (.int .i64 (nth v 4))∧w'.cell? ⟨W.heap.size,5,none⟩=some (.int .i64 (nth v 5))∧w'.cell? ⟨W.heap.size,6,none⟩=some (.int .i64 (nth v 6))∧w'.cell? ⟨W.heap.size,7,none⟩=some (.int .i64 (nth v 7))):=zhd fun w' hA=>⟨(HB.out.row.agree hA (.inl rfl)).zc 2 rfl,(RV.agree hA (.inr rfl)).zc 0 rfl,(RV.agree hA (.inr rfl)).zc 1 rfl,(RV.agree hA (.inr rfl)).zc 2 rfl,(RV.agree hA (.inr rfl)).zc 3 rfl,(RV.agree hA (.inr rfl)).zc 4 rfl,(RV.agree hA (.inr rfl)).zc 5 rfl,(RV.agree hA (.inr rfl)).zc 6 rfl,(RV.agree hA (.inr rfl)).zc 7 rfl⟩
 have HMP:=zhd (HB.out.map.agree (zq (fun _=>True) (W.alloc (.cells #[.int .i64 (nth v 0),.int .i64 (nth v 1),.int .i64 (nth v 2),.int .i64 (nth v 3),.int .i64 (nth v 4),.int .i64 (nth v 5),.int .i64 (nth v 6),.int .i64 (nth v 7)] 134)) 1) trivial)
 have HKV:=zhd (Xr hv.1)
 have HVO:Hid (viewKey.ok v):=zhd hv
 have HNM:Hid ((Value.tuple #[(numM tab v).getD (.int .i64 0),.bool (numM tab v).isSome])=.tuple #[.int .i64 0,.bool false]):=zhd (by unfold numM;rw[if_neg hin];rfl)
 have HIX:Hid (idxV tab v=tab.length):=zhd (xl hin)
 have HMPn:Hid (∀m,MapV viewKey ((W.alloc (.cells #[.int .i64 (nth v 0),.int .i64 (nth v 1),.int .i64 (nth v 2),.int .i64 (nth v 3),.int .i64 (nth v 4),.int .i64 (nth v 5),.int .i64 (nth v 6),.int .i64 (nth v 7)] 134)).drewN m) MB (numM tab) tab.length):=zhd fun m=>HB.out.map.agree (zq (fun _=>True) (W.alloc (.cells #[.int .i64 (nth v 0),.int .i64 (nth v 1),.int .i64 (nth v 2),.int .i64 (nth v 3),.int .i64 (nth v 4),.int .i64 (nth v 5),.int .i64 (nth v 6),.int .i64 (nth v 7)] 134)) m) trivial
 have HML:Hid (tab.length<maxLen):=zhd (by unfold maxLen;omega)
 have HBY:Hid ((tab.length+1) * 64≤140737488355328):=zhd (by omega)
 have HBN:Hid (tab.length<9223372036854775807):=zhd (by omega)
 have hown:=h.own.lt
 have HRD:Hid (∀{S:Nat→Prop} {w:World},(kFlat 8).rd S w [.int .i64 (nth v 0),.int .i64 (nth v 1),.int .i64 (nth v 2),.int .i64 (nth v 3),.int .i64 (nth v 4),.int .i64 (nth v 5),.int .i64 (nth v 6),.int .i64 (nth v 7)] v):=zhd ⟨hv.1,(cells8 hv.1).symm,hv.2⟩
 have FIN5:Hid (∀w5,MapV viewKey w5 MB (fun z=>if z=v then some (.int .i64 (tab.length:Nat)) else numM tab z) (if (numM tab v).isSome then tab.length else tab.length+1)→((W.alloc (.cells #[.int .i64 (nth v 0),.int .i64 (nth v 1),.int .i64 (nth v 2),.int .i64 (nth v 3),.int .i64 (nth v 4),.int .i64 (nth v 5),.int .i64 (nth v 6),.int .i64 (nth v 7)] 134)).drewN 2).grownBy w5 (some MB)→
   Agree (fun b=>b=BB∨b=W.heap.size) (W.alloc (.cells #[.int .i64 (nth v 0),.int .i64 (nth v 1),.int .i64 (nth v 2),.int .i64 (nth v 3),.int .i64 (nth v 4),.int .i64 (nth v 5),.int .i64 (nth v 6),.int .i64 (nth v 7)] 134)) w5∧OwnK (kFlat 8) 134 B (fun _=>False) w5.drew (.slice va tab.length vc) tab∧B≤w5.drew.heap.size∧
   (∀w',Agree (fun b=>b=BB∨b=W.heap.size) w5 w'→w'.cell? ⟨BB,1,none⟩=some (.slice va tab.length vc)∧w'.frozen? ⟨BB,1,none⟩=false∧BB<w'.heap.size∧w'.cell? ⟨W.heap.size,0,none⟩=some (.int .i64 (nth v 0))∧w'.cell? ⟨W.heap.size,1,none⟩=some (.int .i64 (nth v 1))∧w'.cell? ⟨W.heap.size,2,none⟩=some (.int .i64 (nth v 2))∧w'.cell? ⟨W.heap.size,3,none⟩=some (.int .i64 (nth v 3))∧w'.cell? ⟨W.heap.size,4,none⟩=some (.int .i64 (nth v 4))∧w'.cell? ⟨W.heap.size,5,none⟩=some (.int .i64 (nth v 5))∧w'.cell? ⟨W.heap.size,6,none⟩=some (.int .i64 (nth v 6))∧w'.cell? ⟨W.heap.size,7,none⟩=some (.int .i64 (nth v 7)))∧
   ∀g6 c6 w6,OwnK (kFlat 8) 134 B (fun _=>False) w6 (.slice (some ⟨g6,0,none⟩) (tab.length+1) c6) (tab++[v])→Below B w5.drew w6→(∀S:Nat→Prop,(∀k,(Value.slice va tab.length vc).ownBlock=some k→¬S k)→Agree S w5.drew w6)→((Value.slice va tab.length vc).ownBlock=some g6∨w5.drew.heap.size≤g6)→
    Agree (fun b=>b=BB∨b=W.heap.size) w5 w6∧BEnd B BB MB n W (.slice va tab.length vc) (tab++[v]) (w6.setCell ⟨BB,1,none⟩ (.slice (some ⟨g6,0,none⟩) (tab.length+1) c6))):=zhd fun w5 hM5 hg5=>by
  have hbm:=h.bm
  have hog:=h.og
  have hA5:Agree (fun b=>b≠MB) (W.alloc (.cells #[.int .i64 (nth v 0),.int .i64 (nth v 1),.int .i64 (nth v 2),.int .i64 (nth v 3),.int .i64 (nth v 4),.int .i64 (nth v 5),.int .i64 (nth v 6),.int .i64 (nth v 7)] 134)) w5:=(zq _ _ 2).trans (.of_grown hg5 fun b hb e=>hb (by cases e;rfl))
  have hA5':Agree (fun b=>b=BB∨b=W.heap.size) (W.alloc (.cells #[.int .i64 (nth v 0),.int .i64 (nth v 1),.int .i64 (nth v 2),.int .i64 (nth v 3),.int .i64 (nth v 4),.int .i64 (nth v 5),.int .i64 (nth v 6),.int .i64 (nth v 7)] 134)) w5:=hA5.mono fun b hb=>by omega
  have hB5:Below B W w5:=(((Below.refl _ _).alloc hB _).trans (zh _ _ 2)).grown hg5 (by simp;omega) (fun k hk=>by cases hk;exact hbm.2.2)
  have hO5:OwnK (kFlat 8) 134 B (fun _=>False) w5.drew (.slice va tab.length vc) tab:=(HB.out.own.agree hA5 (fun k hk=>(hog k hk).2) fun b hb=>hb.elim).ext (zh _ _ 1)
  have K5:∀w',Agree (fun b=>b=BB∨b=W.heap.size) w5 w'→w'.cell? ⟨BB,1,none⟩=some (.slice va tab.length vc)∧w'.frozen? ⟨BB,1,none⟩=false∧BB<w'.heap.size∧w'.cell? ⟨W.heap.size,0,none⟩=some (.int .i64 (nth v 0))∧w'.cell? ⟨W.heap.size,1,none⟩=some (.int .i64 (nth v 1))∧w'.cell? ⟨W.heap.size,2,none⟩=some (.int .i64 (nth v 2))∧w'.cell? ⟨W.heap.size,3,none⟩=some (.int .i64 (nth v 3))∧w'.cell? ⟨W.heap.size,4,none⟩=some (.int .i64 (nth v 4))∧w'.cell? ⟨W.heap.size,5,none⟩=some (.int .i64 (nth v 5))∧w'.cell? ⟨W.heap.size,6,none⟩=some (.int .i64 (nth v 6))∧w'.cell? ⟨W.heap.size,7,none⟩=some (.int .i64 (nth v 7)):=fun w' hA=>by
   have hR:=(HB.out.row.agree hA5' (.inl rfl)).agree hA (.inl rfl)
   have hV:=(RV.agree hA5' (.inr rfl)).agree hA (.inr rfl)
   exact ⟨hR.zc 1 rfl,hR.free 1,hR.lt,hV.zc 0 rfl,hV.zc 1 rfl,hV.zc 2 rfl,hV.zc 3 rfl,hV.zc 4 rfl,hV.zc 5 rfl,hV.zc 6 rfl,hV.zc 7 rfl⟩
  refine ⟨hA5',hO5,Nat.le_trans hB hB5.size,K5,fun g6 c6 w6 ho6 hb6 hag6 hg6=>?_⟩
  have hA6:∀T:Nat→Prop,(∀k,(Value.slice va tab.length vc).ownBlock=some k→¬T k)→Agree T w5 w6:=fun T hT=>(zq T w5 1).trans (hag6 T hT)
  have hA6':=hA6 (fun b=>b=BB∨b=W.heap.size) fun k hk hT=>by
   have h1:=hog k hk
   have h2:=(hown k hk).2
   rcases hT with e | e
   ·exact h1.1 e
   ·omega
  have hg7:g6≠BB∧g6≠MB:=by
   rcases hg6 with e | e
   ·exact hog g6 e
   ·have:=hB5.size;exact ⟨fun h'=>by subst h';exact absurd e (by simp;omega),fun h'=>by subst h';exact absurd e (by simp;omega)⟩
  have hgr:=zj w6 BB 1 (.slice (some ⟨g6,0,none⟩) (tab.length+1) c6)
  have sT:∀T:Nat→Prop,¬T BB→Agree T w6 (w6.setCell ⟨BB,1,none⟩ (.slice (some ⟨g6,0,none⟩) (tab.length+1) c6)):=fun T hT=>.of_grown hgr fun b hb e=>by cases e;exact hT hb
  refine ⟨hA6',.slice (some ⟨g6,0,none⟩) (tab.length+1) c6,(((Agree.refl _ _).alloc _).trans (hA5.mono fun b hb=>hb.2.1)).trans ((hA6 _ fun k hk hT=>hT.2.2 hk).trans (sT _ fun hT=>hT.1 rfl)),(hB5.trans ((zh _ _ 1).trans hb6)).setCell (by simpa using hbm.2.1) _,⟨?_,?_,?_,?_,fun g hg=>?_,hbm⟩,fun g hg=>?_⟩
  ·exact ((HB.out.row.agree hA5' (.inl rfl)).agree hA6' (.inl rfl)).set 1 _
  ·exact ho6.agree (sT (fun b=>b≠BB) fun hT=>hT rfl) (fun k hk=>by have:g6=k:=(by simpa[Value.ownBlock] using hk);rw[←this];exact hg7.1) fun b hb=>hb.elim
  ·have hno:(numM tab v).isSome=false:=by unfold numM;rw[if_neg hin];rfl
   rw[hno,zdR hin]at hM5
   have hadd:addV tab v=tab++[v]:=by unfold addV;rw[if_neg hin]
   rw[hadd]at hM5
   rw[List.length_append]
   exact (hM5.agree (hA6 (fun b=>b=MB) fun k hk e=>(hog k hk).2 e) rfl).agree (sT (fun b=>b=MB) fun e=>hbm.1 e) rfl
  ·intro x hx
   rcases List.mem_append.1 hx with e | e
   ·exact h.ok x e
   ·rw[List.mem_singleton.1 e];exact hv
  ·have:g6=g:=(by simpa[Value.ownBlock] using hg)
   rw[←this];exact hg7
  ·have:g6=g:=(by simpa[Value.ownBlock] using hg)
   rw[←this]
   rcases hg6 with e | e
   ·exact .inl e
   ·exact .inr (by have:=hB5.size;exact Nat.le_trans this e)
 clear h hv hin ex RV HB hown
 go_enter Tryz.func64,Tryz.ntmps64
 go_wp2
 refine zH (fun w':World=>w'.cell? ⟨BB,2,none⟩=some (.map (some MB))∧w'.cell? ⟨W.heap.size,0,none⟩=some (.int .i64 (nth v 0))∧w'.cell? ⟨W.heap.size,1,none⟩=some (.int .i64 (nth v 1))∧w'.cell? ⟨W.heap.size,2,none⟩=some (.int .i64 (nth v 2))∧w'.cell? ⟨W.heap.size,3,none⟩=some (.int .i64 (nth v 3))∧w'.cell? ⟨W.heap.size,4,none⟩=some (.int .i64 (nth v 4))∧w'.cell? ⟨W.heap.size,5,none⟩=some (.int .i64 (nth v 5))∧w'.cell? ⟨W.heap.size,6,none⟩=some (.int .i64 (nth v 6))∧w'.cell? ⟨W.heap.size,7,none⟩=some (.int .i64 (nth v 7))) (fun i=>false) (by kernel_rfl) ?_ (fun hHeld=>?_)
 ·exact KEEP.out _ (zq _ _ 1)
 refine anyE_take 0 (v:=?_) rfl (by kernel_rfl) (fun _ _ _ h=>h) (by rfl) ?hy0 hHeld ?r0
 case hy0=>(intro w hSw;(try dsimp only at hSw);go_simp;try with_reducible rfl)
 try simp only[Act.put,zsa,zsz,zss]
 refine anyE_take 1 (v:=?_) rfl (by kernel_rfl) (fun _ _ _ h=>h) (by rfl) ?hy1 hHeld ?r1
 case hy1=>(intro w hSw;(try dsimp only at hSw);go_simp;try with_reducible rfl)
 try simp only[Act.put,zsa,zsz,zss]
 refine anyE_take 2 (v:=?_) rfl (by kernel_rfl) (fun _ _ _ h=>h) (by rfl) ?hy2 hHeld ?r2
 case hy2=>(intro w hSw;(try dsimp only at hSw);go_simp;try with_reducible rfl)
 try simp only[Act.put,zsa,zsz,zss]
 refine anyE_take 3 (v:=?_) rfl (by kernel_rfl) (fun _ _ _ h=>h) (by rfl) ?hy3 hHeld ?r3
 case hy3=>(intro w hSw;(try dsimp only at hSw);go_simp;try with_reducible rfl)
 try simp only[Act.put,zsa,zsz,zss]
 refine anyE_take 4 (v:=?_) rfl (by kernel_rfl) (fun _ _ _ h=>h) (by rfl) ?hy4 hHeld ?r4
 case hy4=>(intro w hSw;(try dsimp only at hSw);go_simp;try with_reducible rfl)
 try simp only[Act.put,zsa,zsz,zss]
 refine anyE_one 5 rfl (by kernel_rfl) (fun K hK=>?_)
 (refine Qx rfl _ _ 95 (by rfl) 3 Tryz.underlying95 (.int .i64 0) (Xx _) (by rfl) HMP.out v (by rw[HKV.out];rfl) HVO.out ?_;rw[HNM.out])
 refine hK.out _ _ (fun _=>hHeld) (fun hHeld=>?_);replace hHeld:=hHeld rfl
 clear hK K
 try simp only[Act.put,zsa,zsz,zss]
 refine anyE_take 6 (v:=?_) rfl (by kernel_rfl) (fun _ _ _ h=>h) (by rfl) ?hy6 hHeld ?r6
 case hy6=>(intro w hSw;(try dsimp only at hSw);go_simp;try with_reducible rfl)
 try simp only[Act.put,zsa,zsz,zss]
 refine anyE_take 7 (v:=?_) rfl (by kernel_rfl) (fun _ _ _ h=>h) (by rfl) ?hy7 hHeld ?r7
 case hy7=>(intro w hSw;(try dsimp only at hSw);go_simp;try with_reducible rfl)
 try simp only[Act.put,zsa,zsz,zss]
 refine anyE_take 8 (v:=?_) rfl (by kernel_rfl) (fun _ _ _ h=>h) (by rfl) ?hy8 hHeld ?r8
 case hy8=>(intro w hSw;(try dsimp only at hSw);go_simp;try with_reducible rfl)
 try simp only[Act.put,zsa,zsz,zss]
 refine anyE_take 9 (v:=?_) rfl (by kernel_rfl) (fun _ _ _ h=>h) (by rfl) ?hy9 hHeld ?r9
 case hy9=>(intro w hSw;(try dsimp only at hSw);go_simp;try with_reducible rfl)
 try simp only[Act.put,zsa,zsz,zss]
 refine anyE_take 10 (v:=?_) rfl (by kernel_rfl) (fun _ _ _ h=>h) (by rfl) ?hy10 hHeld ?r10
 case hy10=>(intro w hSw;(try dsimp only at hSw);go_simp;try with_reducible rfl)
 try simp only[Act.put,zsa,zsz,zss]
 refine zy (by kernel_rfl) ?_ _
 clear hHeld
 go_wp2
 refine zH (fun w':World=>w'.cell? ⟨BB,2,none⟩=some (.map (some MB))∧w'.cell? ⟨W.heap.size,0,none⟩=some (.int .i64 (nth v 0))∧w'.cell? ⟨W.heap.size,1,none⟩=some (.int .i64 (nth v 1))∧w'.cell? ⟨W.heap.size,2,none⟩=some (.int .i64 (nth v 2))∧w'.cell? ⟨W.heap.size,3,none⟩=some (.int .i64 (nth v 3))∧w'.cell? ⟨W.heap.size,4,none⟩=some (.int .i64 (nth v 4))∧w'.cell? ⟨W.heap.size,5,none⟩=some (.int .i64 (nth v 5))∧w'.cell? ⟨W.heap.size,6,none⟩=some (.int .i64 (nth v 6))∧w'.cell? ⟨W.heap.size,7,none⟩=some (.int .i64 (nth v 7))) (fun i=>false) (by kernel_rfl) ?_ (fun hHeld=>?_)
 ·exact KEEP.out _ (zq _ _ 2)
 refine anyE_take 0 (v:=?_) rfl (by kernel_rfl) (fun _ _ _ h=>h) (by rfl) ?hy0c hHeld ?r0c
 case hy0c=>(intro w hSw;(try dsimp only at hSw);go_simp;try with_reducible rfl)
 try simp only[Act.put,zsa,zsz,zss]
 refine anyE_take 1 (v:=?_) rfl (by kernel_rfl) (fun _ _ _ h=>h) (by rfl) ?hy1c hHeld ?r1c
 case hy1c=>(intro w hSw;(try dsimp only at hSw);go_simp;try with_reducible rfl)
 try simp only[Act.put,zsa,zsz,zss]
 refine anyE_take 2 (v:=?_) rfl (by kernel_rfl) (fun _ _ _ h=>h) (by rfl) ?hy2c hHeld ?r2c
 case hy2c=>(intro w hSw;(try dsimp only at hSw);go_simp;try with_reducible rfl)
 try simp only[Act.put,zsa,zsz,zss]
 refine anyE_take 3 (v:=?_) rfl (by kernel_rfl) (fun _ _ _ h=>h) (by rfl) ?hy3c hHeld ?r3c
 case hy3c=>(intro w hSw;(try dsimp only at hSw);go_simp;try with_reducible rfl)
 try simp only[Act.put,zsa,zsz,zss]
 refine anyE_take 4 (v:=?_) rfl (by kernel_rfl) (fun _ _ _ h=>h) (by rfl) ?hy4c hHeld ?r4c
 case hy4c=>(intro w hSw;(try dsimp only at hSw);go_simp;try with_reducible rfl)
 try simp only[Act.put,zsa,zsz,zss]
 refine anyE_take 5 (v:=?_) rfl (by kernel_rfl) (fun _ _ _ h=>h) (by rfl) ?hy5c hHeld ?r5c
 case hy5c=>(intro w hSw;(try dsimp only at hSw);go_simp;try with_reducible rfl)
 try simp only[Act.put,zsa,zsz,zss]
 refine anyE_one 6 rfl (by kernel_rfl) (fun K hK=>?_)
 (refine zd2 (w:=(W.alloc (.cells #[.int .i64 (nth v 0),.int .i64 (nth v 1),.int .i64 (nth v 2),.int .i64 (nth v 3),.int .i64 (nth v 4),.int .i64 (nth v 5),.int .i64 (nth v 6),.int .i64 (nth v 7)] 134)).drewN 2) (n:=tab.length) (m:=numM tab) rfl _ _ _ 95 (by rfl) 3 Tryz.underlying95 (by rfl) (HMPn.out 2) HML.out v (by rw[HKV.out];rfl) HVO.out (.int .i64 (tab.length:Nat)) (by rfl) ?_;intro w5 hM5 hg5;have H5:=zhd (FIN5.out w5 hM5 hg5);clear hM5 hg5)
 refine hK.out _ _ (fun _=>KEEP.out _ H5.out.1) (fun hHeld=>?_);replace hHeld:=hHeld rfl
 clear hK K
 try simp only[Act.put,zsa,zsz,zss]
 refine zy (by kernel_rfl) ?_ _
 clear hHeld KEEP FIN5 HMP HMPn b0 b1
 go_wp2
 refine zH (fun w':World=>w'.cell? ⟨BB,1,none⟩=some (.slice va tab.length vc)∧w'.frozen? ⟨BB,1,none⟩=false∧BB<w'.heap.size∧w'.cell? ⟨W.heap.size,0,none⟩=some (.int .i64 (nth v 0))∧w'.cell? ⟨W.heap.size,1,none⟩=some (.int .i64 (nth v 1))∧w'.cell? ⟨W.heap.size,2,none⟩=some (.int .i64 (nth v 2))∧w'.cell? ⟨W.heap.size,3,none⟩=some (.int .i64 (nth v 3))∧w'.cell? ⟨W.heap.size,4,none⟩=some (.int .i64 (nth v 4))∧w'.cell? ⟨W.heap.size,5,none⟩=some (.int .i64 (nth v 5))∧w'.cell? ⟨W.heap.size,6,none⟩=some (.int .i64 (nth v 6))∧w'.cell? ⟨W.heap.size,7,none⟩=some (.int .i64 (nth v 7))) (fun i=>i==10) (by kernel_rfl) ?_ (fun hHeld=>?_)
 ·exact H5.out.2.2.2.1 _ (zq _ _ 1)
 refine anyE_takeT 0 (v:=?_) rfl (by kernel_rfl) (fun _ _ _ h=>h) (by rfl) ?hy0d hHeld ?r0d
 case hy0d=>(intro w hSw;(try dsimp only at hSw);go_simp;try with_reducible rfl)
 try simp only[Act.put,zsa,zsz,zss]
 refine anyE_takeT 1 (v:=?_) rfl (by kernel_rfl) (fun _ _ _ h=>h) (by rfl) ?hy1d hHeld ?r1d
 case hy1d=>(intro w hSw;(try dsimp only at hSw);go_simp;try with_reducible rfl)
 try simp only[Act.put,zsa,zsz,zss]
 refine anyE_takeT 2 (v:=?_) rfl (by kernel_rfl) (fun _ _ _ h=>h) (by rfl) ?hy2d hHeld ?r2d
 case hy2d=>(intro w hSw;(try dsimp only at hSw);go_simp;try with_reducible rfl)
 try simp only[Act.put,zsa,zsz,zss]
 refine anyE_takeT 3 (v:=?_) rfl (by kernel_rfl) (fun _ _ _ h=>h) (by rfl) ?hy3d hHeld ?r3d
 case hy3d=>(intro w hSw;(try dsimp only at hSw);go_simp;try with_reducible rfl)
 try simp only[Act.put,zsa,zsz,zss]
 refine anyE_takeT 4 (v:=?_) rfl (by kernel_rfl) (fun _ _ _ h=>h) (by rfl) ?hy4d hHeld ?r4d
 case hy4d=>(intro w hSw;(try dsimp only at hSw);go_simp;try with_reducible rfl)
 try simp only[Act.put,zsa,zsz,zss]
 refine anyE_takeT 5 (v:=?_) rfl (by kernel_rfl) (fun _ _ _ h=>h) (by rfl) ?hy5d hHeld ?r5d
 case hy5d=>(intro w hSw;(try dsimp only at hSw);go_simp;try with_reducible rfl)
 try simp only[Act.put,zsa,zsz,zss]
 refine anyE_one 6 rfl (by kernel_rfl) (fun K hK=>?_)
 go_simp
 refine hK.out _ _ (fun _=>H5.out.2.2.2.1 _ (((Agree.refl _ _).alloc _).trans (zq _ _ 1))) (fun hHeld=>?_);replace hHeld:=hHeld rfl
 clear hK K
 try simp only[Act.put,zsa,zsz,zss]
 refine anyE_one 7 rfl (by kernel_rfl) (fun K hK=>?_)
 (refine xJ (K:=kFlat 8) (w:=w5.drew) (v:=.slice va tab.length vc) (l:=tab) (S:=fun _=>False) (base:=B) rfl _ _ _ (by rfl) 134 _ 64 Tryz.underlying34 yM rfl (by decide) (by rfl) H5.out.2.1 (cs:=[.int .i64 (nth v 0),.int .i64 (nth v 1),.int .i64 (nth v 2),.int .i64 (nth v 3),.int .i64 (nth v 4),.int .i64 (nth v 5),.int .i64 (nth v 6),.int .i64 (nth v 7)]) (by rfl) HRD.out HBY.out HBN.out H5.out.2.2.1 ?_;intro g6 c6 w6 ho6 hb6 hag6 hg6 hgr6;have H6:=zhd (H5.out.2.2.2.2 g6 c6 w6 ho6 hb6 hag6 hg6);clear ho6 hb6 hag6 hg6 hgr6)
 refine hK.out _ _ (fun _=>H5.out.2.2.2.1 _ H6.out.1) (fun hHeld=>?_);replace hHeld:=hHeld rfl
 clear hK K
 try simp only[Act.put,zsa,zsz,zss]
 refine anyE_takeT 8 (v:=?_) rfl (by kernel_rfl) (fun _ _ _ h=>h) (by rfl) ?hy8d hHeld ?r8d
 case hy8d=>(intro w hSw;(try dsimp only at hSw);go_simp;try with_reducible rfl)
 try simp only[Act.put,zsa,zsz,zss]
 refine anyE_takeT 9 (v:=?_) rfl (by kernel_rfl) (fun _ _ _ h=>h) (by rfl) ?hy9d hHeld ?r9d
 case hy9d=>(intro w hSw;(try dsimp only at hSw);go_simp;try with_reducible rfl)
 try simp only[Act.put,zsa,zsz,zss]
 refine anyE_one 10 rfl (by kernel_rfl) (fun K hK=>?_)
 go_simp
 refine hK.out _ _ (fun h=>by simp at h) (fun hHeld=>?_)
 clear hK K
 try simp only[Act.put,zsa,zsz,zss]
 refine zy (by kernel_rfl) ?_ _
 clear hHeld
 go_wp2
 go_ret
 exact ⟨by rw[HIX.out];rfl,H6.out.2⟩
theorem Xv {B BB MB:Nat} {n:Int} {W:World} {vv:Value} {tab:List (List Int)} {v:List Int} (h:BSt B BB MB n W vv tab) (hv:ViewOK v) (hB:B≤W.heap.size) (ht:tab.length≤100000):
  Calls Tryz.prog 64 #[.pointer (some ⟨BB,0,none⟩),.agg #[.int .i64 (nth v 0),.int .i64 (nth v 1),.int .i64 (nth v 2),.int .i64 (nth v 3),.int .i64 (nth v 4),.int .i64 (nth v 5),.int .i64 (nth v 6),.int .i64 (nth v 7)]] W (fun e W'=>e=.returned (.int .i64 (idxV tab v:Nat))∧BEnd B BB MB n W vv (addV tab v) W'):=by
 by_cases hin:v∈tab
 ·have e:addV tab v=tab:=by unfold addV;rw[if_pos hin]
  rw[e];exact zej h hv hB hin
 ·have e:addV tab v=tab++[v]:=by unfold addV;rw[if_neg hin]
  rw[e];exact zdp h hv hB hin ht
end Go.Proofs.YtjpakklplhabdaaGreat
