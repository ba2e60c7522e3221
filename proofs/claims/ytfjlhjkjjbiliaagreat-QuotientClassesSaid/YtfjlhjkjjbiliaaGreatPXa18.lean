/- Part of the proof that the laws answer true for every input. -/
import Derived.Test.YtfjlhjkjjbiliaaGreatPXa17
import Derived.Test.YtfjlhjkjjbiliaaGreatPXa16
import Derived.Test.YtfjlhjkjjbiliaaGreatPXa08
set_option linter.unusedSimpArgs false
set_option linter.unnecessarySimpa false
set_option linter.unusedVariables false
set_option maxRecDepth 100000
set_option maxHeartbeats 40000000
namespace Go.Proofs.YtfjlhjkjjbiliaaGreat
open Go.RowKit Go.Maps
attribute [local go_sem ↓] Go.wp_at_zero Go.wp_at_succ
section
variable {P:Program} {k:TypeId} {K:Type} {B:KeyB P k K} {w:World} {b n:Nat} {m:K→Option Value} {ops:Array Oper} {o:Oper} {a:Act} {Kc:Act→World→Prop} {Q:Exit→Act→World→Prop} {E:Prop}
theorem Zl (hg:o.guard=none) (mo xo:Operand) (t:TypeId) (hop:o.op=Op.lookup t mo xo true) (e:TypeId) (ht:P.underlying t=some (.map k e)) (z:Value) (hz:(zeroValue e).run P w=.ok z w)
  (hm:a.eval mo=.map (some b)) (h:MapV B w b m n) (x:K) (hxv:a.eval xo=B.kv x) (hx:B.ok x)
  (hK:Kc (a.put o.dst (.tuple #[(m x).getD z,.bool (m x).isSome])) w):if Region.wanted o (yielded ops a.tmps)=true then Oper.wp P o a w Kc Q else E:=by
 have hw:Region.wanted o (yielded ops a.tmps)=true:=by simp[Region.wanted,hg]
 rw[if_pos hw]
 unfold Oper.wp
 simp[execOp,hop,hm,hxv,h.look ht hz hx true,Result.andThen]
 exact hK
theorem zcf [DecidableEq K] (hg:o.guard=none) (mo xo yo:Operand) (t:TypeId) (hop:o.op=Op.mapUpdate t mo xo yo) (e:TypeId) (ht:P.underlying t=some (.map k e))
  (hm:a.eval mo=.map (some b)) (h:MapV B w b m n) (hn:n<maxLen) (x:K) (hxv:a.eval xo=B.kv x) (hx:B.ok x) (y:Value) (hy:a.eval yo=y)
  (hK:∀w',MapV B w' b (fun z=>if z=x then some y else m z) (if (m x).isSome then n else n+1)→w.grownBy w' (some b)→Kc (a.put o.dst undef) w'):if Region.wanted o (yielded ops a.tmps)=true then Oper.wp P o a w Kc Q else E:=by
 have hw:Region.wanted o (yielded ops a.tmps)=true:=by simp[Region.wanted,hg]
 rw[if_pos hw]
 obtain ⟨w',hr,r1,r2⟩:=h.store ht hn hx y
 unfold Oper.wp
 simp[execOp,hop,hm,hxv,hy,hr,Result.andThen]
 exact hK w' r1 r2
end
def viewV (v:List Int):Value:=.agg #[.int .i64 (nth v 0),.int .i64 (nth v 1),.int .i64 (nth v 2),.int .i64 (nth v 3),.int .i64 (nth v 4),.int .i64 (nth v 5),.int .i64 (nth v 6),.int .i64 (nth v 7)]
theorem Zm {v:List Int} (h:v.length=8):viewKey.kv v=viewV v:=by
 match v,h with
 | [a,b,c,d,e,f,g,i],_=>rfl
theorem cells8 {v:List Int} (h:v.length=8):v.map (Value.int .i64)=[.int .i64 (nth v 0),.int .i64 (nth v 1),.int .i64 (nth v 2),.int .i64 (nth v 3),.int .i64 (nth v 4),.int .i64 (nth v 5),.int .i64 (nth v 6),.int .i64 (nth v 7)]:=by
 match v,h with
 | [a,b,c,d,e,f,g,i],_=>rfl
theorem zfO {B BB MB:Nat} {n:Int} {W:World} {vv:Value} {tab:List (List Int)} {v:List Int} (h:BSt B BB MB n W vv tab) (hv:ViewOK v) (hB:B≤W.heap.size) (hin:v∈tab):
  Calls Tryz.prog 98 #[.pointer (some ⟨BB,0,none⟩),.agg #[.int .i64 (nth v 0),.int .i64 (nth v 1),.int .i64 (nth v 2),.int .i64 (nth v 3),.int .i64 (nth v 4),.int .i64 (nth v 5),.int .i64 (nth v 6),.int .i64 (nth v 7)]] W (fun e W'=>e=.returned (.int .i64 (idxV tab v:Nat))∧BEnd B BB MB n W vv tab W'):=by
 have ex:=ze W (.cells #[.int .i64 (nth v 0),.int .i64 (nth v 1),.int .i64 (nth v 2),.int .i64 (nth v 3),.int .i64 (nth v 4),.int .i64 (nth v 5),.int .i64 (nth v 6),.int .i64 (nth v 7)] 72)
 have RV:=zh W [.int .i64 (nth v 0),.int .i64 (nth v 1),.int .i64 (nth v 2),.int .i64 (nth v 3),.int .i64 (nth v 4),.int .i64 (nth v 5),.int .i64 (nth v 6),.int .i64 (nth v 7)] 72
 have HB:=zhd (h.ext ex)
 have h0:=zhd h
 have hBBl:=h.row.lt
 have hMBl:=h.map.lt
 have b0:=HB.out.row.zc 0 rfl
 have b1:=HB.out.row.zc 1 rfl
 have KEEP:Hid (∀w',Agree (fun b=>b=BB∨b=W.heap.size) (W.alloc (.cells #[.int .i64 (nth v 0),.int .i64 (nth v 1),.int .i64 (nth v 2),.int .i64 (nth v 3),.int .i64 (nth v 4),.int .i64 (nth v 5),.int .i64 (nth v 6),.int .i64 (nth v 7)] 72)) w'→w'.cell? ⟨BB,2,none⟩=some (.map (some MB))∧w'.cell? ⟨W.heap.size,0,none⟩=some (.int .i64 (nth v 0))∧w'.cell? ⟨W.heap.size,1,none⟩=some (.int .i64 (nth v 1))∧w'.cell? ⟨W.heap.size,2,none⟩=some (.int .i64 (nth v 2))∧w'.cell? ⟨W.heap.size,3,none⟩=some (.int .i64 (nth v 3))∧w'.cell? ⟨W.heap.size,4,none⟩=some (.int .i64 (nth v 4))∧w'.cell? ⟨W.heap.size,5,none⟩=some (.int .i64 (nth v 5))∧w'.cell? ⟨W.heap.size,6,none⟩=some (.int .i64 (nth v 6))∧w'.cell? ⟨W.heap.size,7,none⟩=some (.int .i64 (nth v 7))):=zhd fun w' hA=>⟨(HB.out.row.agree hA (.inl rfl)).zc 2 rfl,(RV.agree hA (.inr rfl)).zc 0 rfl,(RV.agree hA (.inr rfl)).zc 1 rfl,(RV.agree hA (.inr rfl)).zc 2 rfl,(RV.agree hA (.inr rfl)).zc 3 rfl,(RV.agree hA (.inr rfl)).zc 4 rfl,(RV.agree hA (.inr rfl)).zc 5 rfl,(RV.agree hA (.inr rfl)).zc 6 rfl,(RV.agree hA (.inr rfl)).zc 7 rfl⟩
 have HMP:=zhd (HB.out.map.agree (zt (fun _=>True) (W.alloc (.cells #[.int .i64 (nth v 0),.int .i64 (nth v 1),.int .i64 (nth v 2),.int .i64 (nth v 3),.int .i64 (nth v 4),.int .i64 (nth v 5),.int .i64 (nth v 6),.int .i64 (nth v 7)] 72)) 1) trivial)
 have HKV:=zhd (Zm hv.1)
 have HVO:Hid (viewKey.ok v):=zhd hv
 have HNM:Hid ((Value.tuple #[(numM tab v).getD (.int .i64 0),.bool (numM tab v).isSome])=.tuple #[.int .i64 (idxV tab v:Nat),.bool true]):=zhd (by unfold numM;rw[if_pos hin];rfl)
 have HF:Hid (BEnd B BB MB n W vv tab ((W.alloc (.cells #[.int .i64 (nth v 0),.int .i64 (nth v 1),.int .i64 (nth v 2),.int .i64 (nth v 3),.int .i64 (nth v 4),.int .i64 (nth v 5),.int .i64 (nth v 6),.int .i64 (nth v 7)] 72)).drew)):=zhd ⟨vv,((Agree.refl _ _).alloc _).trans (zt _ _ 1),((Below.refl _ _).alloc hB _).trans (zf _ _ 1),HB.out.ext (zf _ _ 1),fun g hg=>.inl hg⟩
 clear h hv hin ex RV HB
 go_enter Tryz.func98,Tryz.ntmps98
 go_wp2
 refine zF (fun w':World=>w'.cell? ⟨BB,2,none⟩=some (.map (some MB))∧w'.cell? ⟨W.heap.size,0,none⟩=some (.int .i64 (nth v 0))∧w'.cell? ⟨W.heap.size,1,none⟩=some (.int .i64 (nth v 1))∧w'.cell? ⟨W.heap.size,2,none⟩=some (.int .i64 (nth v 2))∧w'.cell? ⟨W.heap.size,3,none⟩=some (.int .i64 (nth v 3))∧w'.cell? ⟨W.heap.size,4,none⟩=some (.int .i64 (nth v 4))∧w'.cell? ⟨W.heap.size,5,none⟩=some (.int .i64 (nth v 5))∧w'.cell? ⟨W.heap.size,6,none⟩=some (.int .i64 (nth v 6))∧w'.cell? ⟨W.heap.size,7,none⟩=some (.int .i64 (nth v 7))) (fun i=>false) (by kernel_rfl) ?_ (fun hHeld=>?_)
 ·exact KEEP.out _ (zt _ _ 1)
 refine za 0 (v:=?_) rfl (by kernel_rfl) (fun _ _ _ h=>h) (by rfl) ?hy0 hHeld ?r0
 case hy0=>(intro w hSw;(try dsimp only at hSw);go_simp;try with_reducible rfl)
 try simp only[Act.put,zsa,zsz,zss]
 refine za 1 (v:=?_) rfl (by kernel_rfl) (fun _ _ _ h=>h) (by rfl) ?hy1 hHeld ?r1
 case hy1=>(intro w hSw;(try dsimp only at hSw);go_simp;try with_reducible rfl)
 try simp only[Act.put,zsa,zsz,zss]
 refine za 2 (v:=?_) rfl (by kernel_rfl) (fun _ _ _ h=>h) (by rfl) ?hy2 hHeld ?r2
 case hy2=>(intro w hSw;(try dsimp only at hSw);go_simp;try with_reducible rfl)
 try simp only[Act.put,zsa,zsz,zss]
 refine za 3 (v:=?_) rfl (by kernel_rfl) (fun _ _ _ h=>h) (by rfl) ?hy3 hHeld ?r3
 case hy3=>(intro w hSw;(try dsimp only at hSw);go_simp;try with_reducible rfl)
 try simp only[Act.put,zsa,zsz,zss]
 refine za 4 (v:=?_) rfl (by kernel_rfl) (fun _ _ _ h=>h) (by rfl) ?hy4 hHeld ?r4
 case hy4=>(intro w hSw;(try dsimp only at hSw);go_simp;try with_reducible rfl)
 try simp only[Act.put,zsa,zsz,zss]
 refine zn 5 rfl (by kernel_rfl) (fun K hK=>?_)
 (refine Zl rfl _ _ 122 (by rfl) 3 Tryz.underlying122 (.int .i64 0) (yY _) (by rfl) HMP.out v (by rw[HKV.out];rfl) HVO.out ?_;rw[HNM.out])
 refine hK.out _ _ (fun _=>hHeld) (fun hHeld=>?_);replace hHeld:=hHeld rfl
 clear hK K
 try simp only[Act.put,zsa,zsz,zss]
 refine za 6 (v:=?_) rfl (by kernel_rfl) (fun _ _ _ h=>h) (by rfl) ?hy6 hHeld ?r6
 case hy6=>(intro w hSw;(try dsimp only at hSw);go_simp;try with_reducible rfl)
 try simp only[Act.put,zsa,zsz,zss]
 refine za 7 (v:=?_) rfl (by kernel_rfl) (fun _ _ _ h=>h) (by rfl) ?hy7 hHeld ?r7
 case hy7=>(intro w hSw;(try dsimp only at hSw);go_simp;try with_reducible rfl)
 try simp only[Act.put,zsa,zsz,zss]
 refine za 8 (v:=?_) rfl (by kernel_rfl) (fun _ _ _ h=>h) (by rfl) ?hy8 hHeld ?r8
 case hy8=>(intro w hSw;(try dsimp only at hSw);go_simp;try with_reducible rfl)
 try simp only[Act.put,zsa,zsz,zss]
 refine za 9 (v:=?_) rfl (by kernel_rfl) (fun _ _ _ h=>h) (by rfl) ?hy9 hHeld ?r9
 case hy9=>(intro w hSw;(try dsimp only at hSw);go_simp;try with_reducible rfl)
 try simp only[Act.put,zsa,zsz,zss]
 refine za 10 (v:=?_) rfl (by kernel_rfl) (fun _ _ _ h=>h) (by rfl) ?hy10 hHeld ?r10
 case hy10=>(intro w hSw;(try dsimp only at hSw);go_simp;try with_reducible rfl)
 try simp only[Act.put,zsa,zsz,zss]
 refine zy (by kernel_rfl) ?_ _
 clear hHeld KEEP
 go_wp2
 go_ret
 exact ⟨rfl,HF.out⟩
theorem ze6 {B BB MB:Nat} {n:Int} {W:World} {vv:Value} {tab:List (List Int)} {v:List Int} (h:BSt B BB MB n W vv tab) (hv:ViewOK v) (hB:B≤W.heap.size) (hin:v∉tab) (ht:tab.length≤100000):
  Calls Tryz.prog 98 #[.pointer (some ⟨BB,0,none⟩),.agg #[.int .i64 (nth v 0),.int .i64 (nth v 1),.int .i64 (nth v 2),.int .i64 (nth v 3),.int .i64 (nth v 4),.int .i64 (nth v 5),.int .i64 (nth v 6),.int .i64 (nth v 7)]] W (fun e W'=>e=.returned (.int .i64 (idxV tab v:Nat))∧BEnd B BB MB n W vv (tab++[v]) W'):=by
 obtain ⟨va,vc,rfl,_,_⟩:=h.own.form
 have ex:=ze W (.cells #[.int .i64 (nth v 0),.int .i64 (nth v 1),.int .i64 (nth v 2),.int .i64 (nth v 3),.int .i64 (nth v 4),.int .i64 (nth v 5),.int .i64 (nth v 6),.int .i64 (nth v 7)] 72)
 have RV:=zh W [.int .i64 (nth v 0),.int .i64 (nth v 1),.int .i64 (nth v 2),.int .i64 (nth v 3),.int .i64 (nth v 4),.int .i64 (nth v 5),.int .i64 (nth v 6),.int .i64 (nth v 7)] 72
 have HB:=zhd (h.ext ex)
 have h0:=zhd h
 have hBBl:=h.row.lt
 have hMBl:=h.map.lt
 have b0:=HB.out.row.zc 0 rfl
 have b1:=HB.out.row.zc 1 rfl
 have KEEP:Hid (∀w',Agree (fun b=>b=BB∨b=W.heap.size) (W.alloc (.cells #[.int .i64 (nth v 0),.int .i64 (nth v 1),.int .i64 (nth v 2),.int .i64 (nth v 3),.int .i64 (nth v 4),.int .i64 (nth v 5),.int .i64 (nth v 6),.int .i64 (nth v 7)] 72)) w'→w'.cell? ⟨BB,2,none⟩=some (.map (some MB))∧w'.cell? ⟨W.heap.size,0,none⟩=some (.int .i64 (nth v 0))∧w'.cell? ⟨W.heap.size,1,none⟩=some (.int .i64 (nth v 1))∧w'.cell? ⟨W.heap.size,2,none⟩=some (.int .i64 (nth v 2))∧w'.cell? ⟨W.heap.size,3,none⟩=some (.int .i64 (nth v 3))∧w'.cell? ⟨W.heap.size,4,none⟩=some (.int .i64 (nth v 4))∧w'.cell? ⟨W.heap.size,5,none⟩=some (.int .i64 (nth v 5))∧w'.cell? ⟨W.heap.size,6,none⟩=some (.int .i64 (nth v 6))∧w'.cell? ⟨W.heap.size,7,none⟩=some (.int .i64 (nth v 7))):=zhd fun w' hA=>⟨(HB.out.row.agree hA (.inl rfl)).zc 2 rfl,(RV.agree hA (.inr rfl)).zc 0 rfl,(RV.agree hA (.inr rfl)).zc 1 rfl,(RV.agree hA (.inr rfl)).zc 2 rfl,(RV.agree hA (.inr rfl)).zc 3 rfl,(RV.agree hA (.inr rfl)).zc 4 rfl,(RV.agree hA (.inr rfl)).zc 5 rfl,(RV.agree hA (.inr rfl)).zc 6 rfl,(RV.agree hA (.inr rfl)).zc 7 rfl⟩
 have HMP:=zhd (HB.out.map.agree (zt (fun _=>True) (W.alloc (.cells #[.int .i64 (nth v 0),.int .i64 (nth v 1),.int .i64 (nth v 2),.int .i64 (nth v 3),.int .i64 (nth v 4),.int .i64 (nth v 5),.int .i64 (nth v 6),.int .i64 (nth v 7)] 72)) 1) trivial)
 have HKV:=zhd (Zm hv.1)
 have HVO:Hid (viewKey.ok v):=zhd hv
 have HNM:Hid ((Value.tuple #[(numM tab v).getD (.int .i64 0),.bool (numM tab v).isSome])=.tuple #[.int .i64 0,.bool false]):=zhd (by unfold numM;rw[if_neg hin];rfl)
 have HIX:Hid (idxV tab v=tab.length):=zhd (Zp hin)
 have HMPn:Hid (∀m,MapV viewKey ((W.alloc (.cells #[.int .i64 (nth v 0),.int .i64 (nth v 1),.int .i64 (nth v 2),.int .i64 (nth v 3),.int .i64 (nth v 4),.int .i64 (nth v 5),.int .i64 (nth v 6),.int .i64 (nth v 7)] 72)).drewN m) MB (numM tab) tab.length):=zhd fun m=>HB.out.map.agree (zt (fun _=>True) (W.alloc (.cells #[.int .i64 (nth v 0),.int .i64 (nth v 1),.int .i64 (nth v 2),.int .i64 (nth v 3),.int .i64 (nth v 4),.int .i64 (nth v 5),.int .i64 (nth v 6),.int .i64 (nth v 7)] 72)) m) trivial
 have HML:Hid (tab.length<maxLen):=zhd (by unfold maxLen;omega)
 have HBY:Hid ((tab.length+1) * 64≤140737488355328):=zhd (by omega)
 have HBN:Hid (tab.length<9223372036854775807):=zhd (by omega)
 have hown:=h.own.lt
 have HRD:Hid (∀{S:Nat→Prop} {w:World},(kFlat 8).rd S w [.int .i64 (nth v 0),.int .i64 (nth v 1),.int .i64 (nth v 2),.int .i64 (nth v 3),.int .i64 (nth v 4),.int .i64 (nth v 5),.int .i64 (nth v 6),.int .i64 (nth v 7)] v):=zhd ⟨hv.1,(cells8 hv.1).symm,hv.2⟩
 have FIN5:Hid (∀w5,MapV viewKey w5 MB (fun z=>if z=v then some (.int .i64 (tab.length:Nat)) else numM tab z) (if (numM tab v).isSome then tab.length else tab.length+1)→((W.alloc (.cells #[.int .i64 (nth v 0),.int .i64 (nth v 1),.int .i64 (nth v 2),.int .i64 (nth v 3),.int .i64 (nth v 4),.int .i64 (nth v 5),.int .i64 (nth v 6),.int .i64 (nth v 7)] 72)).drewN 2).grownBy w5 (some MB)→
   Agree (fun b=>b=BB∨b=W.heap.size) (W.alloc (.cells #[.int .i64 (nth v 0),.int .i64 (nth v 1),.int .i64 (nth v 2),.int .i64 (nth v 3),.int .i64 (nth v 4),.int .i64 (nth v 5),.int .i64 (nth v 6),.int .i64 (nth v 7)] 72)) w5∧OwnK (kFlat 8) 72 B (fun _=>False) w5.drew (.slice va tab.length vc) tab∧B≤w5.drew.heap.size∧
   (∀w',Agree (fun b=>b=BB∨b=W.heap.size) w5 w'→w'.cell? ⟨BB,1,none⟩=some (.slice va tab.length vc)∧w'.frozen? ⟨BB,1,none⟩=false∧BB<w'.heap.size∧w'.cell? ⟨W.heap.size,0,none⟩=some (.int .i64 (nth v 0))∧w'.cell? ⟨W.heap.size,1,none⟩=some (.int .i64 (nth v 1))∧w'.cell? ⟨W.heap.size,2,none⟩=some (.int .i64 (nth v 2))∧w'.cell? ⟨W.heap.size,3,none⟩=some (.int .i64 (nth v 3))∧w'.cell? ⟨W.heap.size,4,none⟩=some (.int .i64 (nth v 4))∧w'.cell? ⟨W.heap.size,5,none⟩=some (.int .i64 (nth v 5))∧w'.cell? ⟨W.heap.size,6,none⟩=some (.int .i64 (nth v 6))∧w'.cell? ⟨W.heap.size,7,none⟩=some (.int .i64 (nth v 7)))∧
   ∀g6 c6 w6,OwnK (kFlat 8) 72 B (fun _=>False) w6 (.slice (some ⟨g6,0,none⟩) (tab.length+1) c6) (tab++[v])→Below B w5.drew w6→(∀S:Nat→Prop,(∀k,(Value.slice va tab.length vc).ownBlock=some k→¬S k)→Agree S w5.drew w6)→((Value.slice va tab.length vc).ownBlock=some g6∨w5.drew.heap.size≤g6)→
    Agree (fun b=>b=BB∨b=W.heap.size) w5 w6∧BEnd B BB MB n W (.slice va tab.length vc) (tab++[v]) (w6.setCell ⟨BB,1,none⟩ (.slice (some ⟨g6,0,none⟩) (tab.length+1) c6))):=zhd fun w5 hM5 hg5=>by
  have hbm:=h.bm
  have hog:=h.og
  have hA5:Agree (fun b=>b≠MB) (W.alloc (.cells #[.int .i64 (nth v 0),.int .i64 (nth v 1),.int .i64 (nth v 2),.int .i64 (nth v 3),.int .i64 (nth v 4),.int .i64 (nth v 5),.int .i64 (nth v 6),.int .i64 (nth v 7)] 72)) w5:=(zt _ _ 2).trans (.of_grown hg5 fun b hb e=>hb (by cases e;rfl))
  have hA5':Agree (fun b=>b=BB∨b=W.heap.size) (W.alloc (.cells #[.int .i64 (nth v 0),.int .i64 (nth v 1),.int .i64 (nth v 2),.int .i64 (nth v 3),.int .i64 (nth v 4),.int .i64 (nth v 5),.int .i64 (nth v 6),.int .i64 (nth v 7)] 72)) w5:=hA5.mono fun b hb=>by omega
  have hB5:Below B W w5:=(((Below.refl _ _).alloc hB _).trans (zf _ _ 2)).grown hg5 (by simp;omega) (fun k hk=>by cases hk;exact hbm.2.2)
  have hO5:OwnK (kFlat 8) 72 B (fun _=>False) w5.drew (.slice va tab.length vc) tab:=(HB.out.own.agree hA5 (fun k hk=>(hog k hk).2) fun b hb=>hb.elim).ext (zf _ _ 1)
  have K5:∀w',Agree (fun b=>b=BB∨b=W.heap.size) w5 w'→w'.cell? ⟨BB,1,none⟩=some (.slice va tab.length vc)∧w'.frozen? ⟨BB,1,none⟩=false∧BB<w'.heap.size∧w'.cell? ⟨W.heap.size,0,none⟩=some (.int .i64 (nth v 0))∧w'.cell? ⟨W.heap.size,1,none⟩=some (.int .i64 (nth v 1))∧w'.cell? ⟨W.heap.size,2,none⟩=some (.int .i64 (nth v 2))∧w'.cell? ⟨W.heap.size,3,none⟩=some (.int .i64 (nth v 3))∧w'.cell? ⟨W.heap.size,4,none⟩=some (.int .i64 (nth v 4))∧w'.cell? ⟨W.heap.size,5,none⟩=some (.int .i64 (nth v 5))∧w'.cell? ⟨W.heap.size,6,none⟩=some (.int .i64 (nth v 6))∧w'.cell? ⟨W.heap.size,7,none⟩=some (.int .i64 (nth v 7)):=fun w' hA=>by
   have hR:=(HB.out.row.agree hA5' (.inl rfl)).agree hA (.inl rfl)
   have hV:=(RV.agree hA5' (.inr rfl)).agree hA (.inr rfl)
   exact ⟨hR.zc 1 rfl,hR.free 1,hR.lt,hV.zc 0 rfl,hV.zc 1 rfl,hV.zc 2 rfl,hV.zc 3 rfl,hV.zc 4 rfl,hV.zc 5 rfl,hV.zc 6 rfl,hV.zc 7 rfl⟩
  refine ⟨hA5',hO5,Nat.le_trans hB hB5.size,K5,fun g6 c6 w6 ho6 hb6 hag6 hg6=>?_⟩
  have hA6:∀T:Nat→Prop,(∀k,(Value.slice va tab.length vc).ownBlock=some k→¬T k)→Agree T w5 w6:=fun T hT=>(zt T w5 1).trans (hag6 T hT)
  have hA6':=hA6 (fun b=>b=BB∨b=W.heap.size) fun k hk hT=>by
   have h1:=hog k hk
   have h2:=(hown k hk).2
   rcases hT with e | e
   ·exact h1.1 e
   ·omega
  have hg7:g6≠BB∧g6≠MB:=by
   rcases hg6 with e | e
   ·exact hog g6 e
   ·have:=hB5.size;exact ⟨fun h'=>by subst h';exact absurd e (by simp;omega),fun h'=>by subst h';exact absurd e (by simp;omega)⟩
  have hgr:=zi w6 BB 1 (.slice (some ⟨g6,0,none⟩) (tab.length+1) c6)
  have sT:∀T:Nat→Prop,¬T BB→Agree T w6 (w6.setCell ⟨BB,1,none⟩ (.slice (some ⟨g6,0,none⟩) (tab.length+1) c6)):=fun T hT=>.of_grown hgr fun b hb e=>by cases e;exact hT hb
  refine ⟨hA6',.slice (some ⟨g6,0,none⟩) (tab.length+1) c6,(((Agree.refl _ _).alloc _).trans (hA5.mono fun b hb=>hb.2.1)).trans ((hA6 _ fun k hk hT=>hT.2.2 hk).trans (sT _ fun hT=>hT.1 rfl)),(hB5.trans ((zf _ _ 1).trans hb6)).setCell (by simpa using hbm.2.1) _,⟨?_,?_,?_,?_,fun g hg=>?_,hbm⟩,fun g hg=>?_⟩
  ·exact ((HB.out.row.agree hA5' (.inl rfl)).agree hA6' (.inl rfl)).set 1 _
  ·exact ho6.agree (sT (fun b=>b≠BB) fun hT=>hT rfl) (fun k hk=>by have:g6=k:=(by simpa[Value.ownBlock] using hk);rw[←this];exact hg7.1) fun b hb=>hb.elim
  ·have hno:(numM tab v).isSome=false:=by unfold numM;rw[if_neg hin];rfl
   rw[hno,zbF hin]at hM5
   have hadd:addV tab v=tab++[v]:=by unfold addV;rw[if_neg hin]
   rw[hadd]at hM5
   rw[List.length_append]
   exact (hM5.agree (hA6 (fun b=>b=MB) fun k hk e=>(hog k hk).2 e) rfl).agree (sT (fun b=>b=MB) fun e=>hbm.1 e) rfl
  ·intro x hx
   rcases List.mem_append.1 hx with e | e
   ·exact h.ok x e
   ·rw[List.mem_singleton.1 e];exact hv
  ·have:g6=g:=(by simpa[Value.ownBlock] using hg)
   rw[←this];exact hg7
  ·have:g6=g:=(by simpa[Value.ownBlock] using hg)
   rw[←this]
   rcases hg6 with e | e
   ·exact .inl e
   ·exact .inr (by have:=hB5.size;exact Nat.le_trans this e)
 clear h hv hin ex RV HB hown
 go_enter Tryz.func98,Tryz.ntmps98
 go_wp2
 refine zF (fun w':World=>w'.cell? ⟨BB,2,none⟩=some (.map (some MB))∧w'.cell? ⟨W.heap.size,0,none⟩=some (.int .i64 (nth v 0))∧w'.cell? ⟨W.heap.size,1,none⟩=some (.int .i64 (nth v 1))∧w'.cell? ⟨W.heap.size,2,none⟩=some (.int .i64 (nth v 2))∧w'.cell? ⟨W.heap.size,3,none⟩=some (.int .i64 (nth v 3))∧w'.cell? ⟨W.heap.size,4,none⟩=some (.int .i64 (nth v 4))∧w'.cell? ⟨W.heap.size,5,none⟩=some (.int .i64 (nth v 5))∧w'.cell? ⟨W.heap.size,6,none⟩=some (.int .i64 (nth v 6))∧w'.cell? ⟨W.heap.size,7,none⟩=some (.int .i64 (nth v 7))) (fun i=>false) (by kernel_rfl) ?_ (fun hHeld=>?_)
 ·exact KEEP.out _ (zt _ _ 1)
 refine za 0 (v:=?_) rfl (by kernel_rfl) (fun _ _ _ h=>h) (by rfl) ?hy0 hHeld ?r0
 case hy0=>(intro w hSw;(try dsimp only at hSw);go_simp;try with_reducible rfl)
 try simp only[Act.put,zsa,zsz,zss]
 refine za 1 (v:=?_) rfl (by kernel_rfl) (fun _ _ _ h=>h) (by rfl) ?hy1 hHeld ?r1
 case hy1=>(intro w hSw;(try dsimp only at hSw);go_simp;try with_reducible rfl)
 try simp only[Act.put,zsa,zsz,zss]
 refine za 2 (v:=?_) rfl (by kernel_rfl) (fun _ _ _ h=>h) (by rfl) ?hy2 hHeld ?r2
 case hy2=>(intro w hSw;(try dsimp only at hSw);go_simp;try with_reducible rfl)
 try simp only[Act.put,zsa,zsz,zss]
 refine za 3 (v:=?_) rfl (by kernel_rfl) (fun _ _ _ h=>h) (by rfl) ?hy3 hHeld ?r3
 case hy3=>(intro w hSw;(try dsimp only at hSw);go_simp;try with_reducible rfl)
 try simp only[Act.put,zsa,zsz,zss]
 refine za 4 (v:=?_) rfl (by kernel_rfl) (fun _ _ _ h=>h) (by rfl) ?hy4 hHeld ?r4
 case hy4=>(intro w hSw;(try dsimp only at hSw);go_simp;try with_reducible rfl)
 try simp only[Act.put,zsa,zsz,zss]
 refine zn 5 rfl (by kernel_rfl) (fun K hK=>?_)
 (refine Zl rfl _ _ 122 (by rfl) 3 Tryz.underlying122 (.int .i64 0) (yY _) (by rfl) HMP.out v (by rw[HKV.out];rfl) HVO.out ?_;rw[HNM.out])
 refine hK.out _ _ (fun _=>hHeld) (fun hHeld=>?_);replace hHeld:=hHeld rfl
 clear hK K
 try simp only[Act.put,zsa,zsz,zss]
 refine za 6 (v:=?_) rfl (by kernel_rfl) (fun _ _ _ h=>h) (by rfl) ?hy6 hHeld ?r6
 case hy6=>(intro w hSw;(try dsimp only at hSw);go_simp;try with_reducible rfl)
 try simp only[Act.put,zsa,zsz,zss]
 refine za 7 (v:=?_) rfl (by kernel_rfl) (fun _ _ _ h=>h) (by rfl) ?hy7 hHeld ?r7
 case hy7=>(intro w hSw;(try dsimp only at hSw);go_simp;try with_reducible rfl)
 try simp only[Act.put,zsa,zsz,zss]
 refine za 8 (v:=?_) rfl (by kernel_rfl) (fun _ _ _ h=>h) (by rfl) ?hy8 hHeld ?r8
 case hy8=>(intro w hSw;(try dsimp only at hSw);go_simp;try with_reducible rfl)
 try simp only[Act.put,zsa,zsz,zss]
 refine za 9 (v:=?_) rfl (by kernel_rfl) (fun _ _ _ h=>h) (by rfl) ?hy9 hHeld ?r9
 case hy9=>(intro w hSw;(try dsimp only at hSw);go_simp;try with_reducible rfl)
 try simp only[Act.put,zsa,zsz,zss]
 refine za 10 (v:=?_) rfl (by kernel_rfl) (fun _ _ _ h=>h) (by rfl) ?hy10 hHeld ?r10
 case hy10=>(intro w hSw;(try dsimp only at hSw);go_simp;try with_reducible rfl)
 try simp only[Act.put,zsa,zsz,zss]
 refine zy (by kernel_rfl) ?_ _
 clear hHeld
 go_wp2
 refine zF (fun w':World=>w'.cell? ⟨BB,2,none⟩=some (.map (some MB))∧w'.cell? ⟨W.heap.size,0,none⟩=some (.int .i64 (nth v 0))∧w'.cell? ⟨W.heap.size,1,none⟩=some (.int .i64 (nth v 1))∧w'.cell? ⟨W.heap.size,2,none⟩=some (.int .i64 (nth v 2))∧w'.cell? ⟨W.heap.size,3,none⟩=some (.int .i64 (nth v 3))∧w'.cell? ⟨W.heap.size,4,none⟩=some (.int .i64 (nth v 4))∧w'.cell? ⟨W.heap.size,5,none⟩=some (.int .i64 (nth v 5))∧w'.cell? ⟨W.heap.size,6,none⟩=some (.int .i64 (nth v 6))∧w'.cell? ⟨W.heap.size,7,none⟩=some (.int .i64 (nth v 7))) (fun i=>false) (by kernel_rfl) ?_ (fun hHeld=>?_)
 ·exact KEEP.out _ (zt _ _ 2)
 refine za 0 (v:=?_) rfl (by kernel_rfl) (fun _ _ _ h=>h) (by rfl) ?hy0c hHeld ?r0c
 case hy0c=>(intro w hSw;(try dsimp only at hSw);go_simp;try with_reducible rfl)
 try simp only[Act.put,zsa,zsz,zss]
 refine za 1 (v:=?_) rfl (by kernel_rfl) (fun _ _ _ h=>h) (by rfl) ?hy1c hHeld ?r1c
 case hy1c=>(intro w hSw;(try dsimp only at hSw);go_simp;try with_reducible rfl)
 try simp only[Act.put,zsa,zsz,zss]
 refine za 2 (v:=?_) rfl (by kernel_rfl) (fun _ _ _ h=>h) (by rfl) ?hy2c hHeld ?r2c
 case hy2c=>(intro w hSw;(try dsimp only at hSw);go_simp;try with_reducible rfl)
 try simp only[Act.put,zsa,zsz,zss]
 refine za 3 (v:=?_) rfl (by kernel_rfl) (fun _ _ _ h=>h) (by rfl) ?hy3c hHeld ?r3c
 case hy3c=>(intro w hSw;(try dsimp only at hSw);go_simp;try with_reducible rfl)
 try simp only[Act.put,zsa,zsz,zss]
 refine za 4 (v:=?_) rfl (by kernel_rfl) (fun _ _ _ h=>h) (by rfl) ?hy4c hHeld ?r4c
 case hy4c=>(intro w hSw;(try dsimp only at hSw);go_simp;try with_reducible rfl)
 try simp only[Act.put,zsa,zsz,zss]
 refine za 5 (v:=?_) rfl (by kernel_rfl) (fun _ _ _ h=>h) (by rfl) ?hy5c hHeld ?r5c
 case hy5c=>(intro w hSw;(try dsimp only at hSw);go_simp;try with_reducible rfl)
 try simp only[Act.put,zsa,zsz,zss]
 refine zn 6 rfl (by kernel_rfl) (fun K hK=>?_)
 (refine zcf (w:=(W.alloc (.cells #[.int .i64 (nth v 0),.int .i64 (nth v 1),.int .i64 (nth v 2),.int .i64 (nth v 3),.int .i64 (nth v 4),.int .i64 (nth v 5),.int .i64 (nth v 6),.int .i64 (nth v 7)] 72)).drewN 2) (n:=tab.length) (m:=numM tab) rfl _ _ _ 122 (by rfl) 3 Tryz.underlying122 (by rfl) (HMPn.out 2) HML.out v (by rw[HKV.out];rfl) HVO.out (.int .i64 (tab.length:Nat)) (by rfl) ?_;intro w5 hM5 hg5;have H5:=zhd (FIN5.out w5 hM5 hg5);clear hM5 hg5)
 refine hK.out _ _ (fun _=>KEEP.out _ H5.out.1) (fun hHeld=>?_);replace hHeld:=hHeld rfl
 clear hK K
 try simp only[Act.put,zsa,zsz,zss]
 refine zy (by kernel_rfl) ?_ _
 clear hHeld KEEP FIN5 HMP HMPn b0 b1
 go_wp2
 refine zF (fun w':World=>w'.cell? ⟨BB,1,none⟩=some (.slice va tab.length vc)∧w'.frozen? ⟨BB,1,none⟩=false∧BB<w'.heap.size∧w'.cell? ⟨W.heap.size,0,none⟩=some (.int .i64 (nth v 0))∧w'.cell? ⟨W.heap.size,1,none⟩=some (.int .i64 (nth v 1))∧w'.cell? ⟨W.heap.size,2,none⟩=some (.int .i64 (nth v 2))∧w'.cell? ⟨W.heap.size,3,none⟩=some (.int .i64 (nth v 3))∧w'.cell? ⟨W.heap.size,4,none⟩=some (.int .i64 (nth v 4))∧w'.cell? ⟨W.heap.size,5,none⟩=some (.int .i64 (nth v 5))∧w'.cell? ⟨W.heap.size,6,none⟩=some (.int .i64 (nth v 6))∧w'.cell? ⟨W.heap.size,7,none⟩=some (.int .i64 (nth v 7))) (fun i=>i==10) (by kernel_rfl) ?_ (fun hHeld=>?_)
 ·exact H5.out.2.2.2.1 _ (zt _ _ 1)
 refine zu 0 (v:=?_) rfl (by kernel_rfl) (fun _ _ _ h=>h) (by rfl) ?hy0d hHeld ?r0d
 case hy0d=>(intro w hSw;(try dsimp only at hSw);go_simp;try with_reducible rfl)
 try simp only[Act.put,zsa,zsz,zss]
 refine zu 1 (v:=?_) rfl (by kernel_rfl) (fun _ _ _ h=>h) (by rfl) ?hy1d hHeld ?r1d
 case hy1d=>(intro w hSw;(try dsimp only at hSw);go_simp;try with_reducible rfl)
 try simp only[Act.put,zsa,zsz,zss]
 refine zu 2 (v:=?_) rfl (by kernel_rfl) (fun _ _ _ h=>h) (by rfl) ?hy2d hHeld ?r2d
 case hy2d=>(intro w hSw;(try dsimp only at hSw);go_simp;try with_reducible rfl)
 try simp only[Act.put,zsa,zsz,zss]
 refine zu 3 (v:=?_) rfl (by kernel_rfl) (fun _ _ _ h=>h) (by rfl) ?hy3d hHeld ?r3d
 case hy3d=>(intro w hSw;(try dsimp only at hSw);go_simp;try with_reducible rfl)
 try simp only[Act.put,zsa,zsz,zss]
 refine zu 4 (v:=?_) rfl (by kernel_rfl) (fun _ _ _ h=>h) (by rfl) ?hy4d hHeld ?r4d
 case hy4d=>(intro w hSw;(try dsimp only at hSw);go_simp;try with_reducible rfl)
 try simp only[Act.put,zsa,zsz,zss]
 refine zu 5 (v:=?_) rfl (by kernel_rfl) (fun _ _ _ h=>h) (by rfl) ?hy5d hHeld ?r5d
 case hy5d=>(intro w hSw;(try dsimp only at hSw);go_simp;try with_reducible rfl)
 try simp only[Act.put,zsa,zsz,zss]
 refine zn 6 rfl (by kernel_rfl) (fun K hK=>?_)
 go_simp
 refine hK.out _ _ (fun _=>H5.out.2.2.2.1 _ (((Agree.refl _ _).alloc _).trans (zt _ _ 1))) (fun hHeld=>?_);replace hHeld:=hHeld rfl
 clear hK K
 try simp only[Act.put,zsa,zsz,zss]
 refine zn 7 rfl (by kernel_rfl) (fun K hK=>?_)
 (refine Zu (K:=kFlat 8) (w:=w5.drew) (v:=.slice va tab.length vc) (l:=tab) (S:=fun _=>False) (base:=B) rfl _ _ _ (by rfl) 72 _ 64 Tryz.underlying30 qf rfl (by decide) (by rfl) H5.out.2.1 (cs:=[.int .i64 (nth v 0),.int .i64 (nth v 1),.int .i64 (nth v 2),.int .i64 (nth v 3),.int .i64 (nth v 4),.int .i64 (nth v 5),.int .i64 (nth v 6),.int .i64 (nth v 7)]) (by rfl) HRD.out HBY.out HBN.out H5.out.2.2.1 ?_;intro g6 c6 w6 ho6 hb6 hag6 hg6 hgr6;have H6:=zhd (H5.out.2.2.2.2 g6 c6 w6 ho6 hb6 hag6 hg6);clear ho6 hb6 hag6 hg6 hgr6)
 refine hK.out _ _ (fun _=>H5.out.2.2.2.1 _ H6.out.1) (fun hHeld=>?_);replace hHeld:=hHeld rfl
 clear hK K
 try simp only[Act.put,zsa,zsz,zss]
 refine zu 8 (v:=?_) rfl (by kernel_rfl) (fun _ _ _ h=>h) (by rfl) ?hy8d hHeld ?r8d
 case hy8d=>(intro w hSw;(try dsimp only at hSw);go_simp;try with_reducible rfl)
 try simp only[Act.put,zsa,zsz,zss]
 refine zu 9 (v:=?_) rfl (by kernel_rfl) (fun _ _ _ h=>h) (by rfl) ?hy9d hHeld ?r9d
 case hy9d=>(intro w hSw;(try dsimp only at hSw);go_simp;try with_reducible rfl)
 try simp only[Act.put,zsa,zsz,zss]
 refine zn 10 rfl (by kernel_rfl) (fun K hK=>?_)
 go_simp
 refine hK.out _ _ (fun h=>by simp at h) (fun hHeld=>?_)
 clear hK K
 try simp only[Act.put,zsa,zsz,zss]
 refine zy (by kernel_rfl) ?_ _
 clear hHeld
 go_wp2
 go_ret
 exact ⟨by rw[HIX.out];rfl,H6.out.2⟩
theorem XK {B BB MB:Nat} {n:Int} {W:World} {vv:Value} {tab:List (List Int)} {v:List Int} (h:BSt B BB MB n W vv tab) (hv:ViewOK v) (hB:B≤W.heap.size) (ht:tab.length≤100000):
  Calls Tryz.prog 98 #[.pointer (some ⟨BB,0,none⟩),.agg #[.int .i64 (nth v 0),.int .i64 (nth v 1),.int .i64 (nth v 2),.int .i64 (nth v 3),.int .i64 (nth v 4),.int .i64 (nth v 5),.int .i64 (nth v 6),.int .i64 (nth v 7)]] W (fun e W'=>e=.returned (.int .i64 (idxV tab v:Nat))∧BEnd B BB MB n W vv (addV tab v) W'):=by
 by_cases hin:v∈tab
 ·have e:addV tab v=tab:=by unfold addV;rw[if_pos hin]
  rw[e];exact zfO h hv hB hin
 ·have e:addV tab v=tab++[v]:=by unfold addV;rw[if_neg hin]
  rw[e];exact ze6 h hv hB hin ht
end Go.Proofs.YtfjlhjkjjbiliaaGreat
namespace Go.Proofs.YtfjlhjkjjbiliaaGreat
open Go.RowKit Go.Maps
attribute [local go_sem ↓] Go.wp_at_zero Go.wp_at_succ
def kInts:Kd (List Int) where
  size:=1
  rd S w cs l:=∃v,cs=[v]∧Ints S w v l
  agree h hw:=by obtain ⟨v,e,h⟩:=h;exact ⟨v,e,h.agree hw⟩
  mono h hS:=by obtain ⟨v,e,h⟩:=h;exact ⟨v,e,h.mono hS⟩
  block h:=by obtain ⟨v,e,h⟩:=h;exact ⟨v,e,h.block 0⟩
  len h:=by obtain ⟨v,rfl,_⟩:=h;rfl
  one h u hu:=by
    obtain ⟨v,rfl,h⟩:=h
    obtain ⟨a,cap,rfl,_⟩:=h.form
    obtain rfl:=List.mem_singleton.1 hu
    rfl
theorem Lists.of_sl {S:Nat→Prop} {w:World} {v:Value} {l:List (List Int)} (h:Sl kInts S w v l):Lists S w v l:=by
  obtain ⟨a,cap,rfl,ha,h1,h2,hc⟩:=h
  refine ⟨a,cap,rfl,ha,h1,h2.1,fun k hk=>?_⟩
  obtain ⟨cs,h3,v,rfl,h4⟩:=hc k hk
  refine ⟨v,?_,by rw[zU hk];exact h4⟩
  have:=h3 0 (by show 0<1;omega)
  simpa[kInts] using this
def PR (N0 BB MB:Nat) (W:World) (vv:Value) (b:Nat):Prop:=N0≤b∧b<W.heap.size∧keepsB BB MB vv b
theorem PR.next {N0 BB MB b:Nat} {W W':World} {vv vv':Value} (h:PR N0 BB MB W vv b) (hs:W.heap.size≤W'.heap.size) (hg:∀g,vv'.ownBlock=some g→vv.ownBlock=some g∨W.heap.size≤g):PR N0 BB MB W' vv' b:=
  ⟨h.1,Nat.lt_of_lt_of_le h.2.1 hs,h.2.2.1,h.2.2.2.1,fun e=>by
    rcases hg b e with h1 | h1
    · exact h.2.2.2.2 h1
    · have:=h.2.1;omega⟩
theorem PR.same {N0 BB MB b:Nat} {W W':World} {vv:Value} (h:PR N0 BB MB W vv b) (hs:W.heap.size≤W'.heap.size):PR N0 BB MB W' vv b:=h.next hs fun g hg=>.inl hg
theorem BSt.agree {B BB MB:Nat} {n:Int} {W W':World} {vv:Value} {tab:List (List Int)} {T:Nat→Prop} (h:BSt B BB MB n W vv tab) (hA:Agree T W W') (h1:T BB) (h2:T MB) (h3:∀g,vv.ownBlock=some g→T g):BSt B BB MB n W' vv tab:=
  ⟨h.row.agree hA h1,h.own.agree hA h3 fun b hb=>hb.elim,h.map.agree hA h2,h.ok,h.og,h.bm⟩
theorem BSt.fresh {B BB MB:Nat} {n:Int} {W:World} {vv:Value} {tab:List (List Int)} (h:BSt B BB MB n W vv tab) {g:Nat} (hg:W.heap.size≤g):keepsB BB MB vv g:=
  ⟨by have:=h.row.lt;omega,by have:=h.map.lt;omega,fun e=>by have:=(h.own.lt g e).2;omega⟩
theorem BSt.low {B BB MB:Nat} {n:Int} {W:World} {vv:Value} {tab:List (List Int)} (h:BSt B BB MB n W vv tab) {g:Nat} (hg:g<B):keepsB BB MB vv g:=
  ⟨by have:=h.bm;omega,by have:=h.bm;omega,fun e=>by have:=(h.own.lt g e).1;omega⟩
structure PE (B BB MB:Nat) (n:Int) (X:Nat) (W0:World) (vv0:Value) (W:World) (vv:Value) (tab:List (List Int)):Prop where
  ag:Agree (fun b=>keepsB BB MB vv0 b∧b≠X) W0 W
  be:Below B W0 W
  st:BSt B BB MB n W vv tab
  og:∀g,vv.ownBlock=some g→vv0.ownBlock=some g∨W0.heap.size≤g
section
variable {B BB MB X:Nat} {n:Int} {W0 W W':World} {vv0 vv:Value} {tab tab':List (List Int)}
theorem PE.start (h:BSt B BB MB n W vv tab):PE B BB MB n X W vv W vv tab:=⟨.refl _ _,.refl _ _,h,fun g hg=>.inl hg⟩
theorem PE.ext (h:PE B BB MB n X W0 vv0 W vv tab) (hB:B≤W0.heap.size) (hb:Below W.heap.size W W'):PE B BB MB n X W0 vv0 W' vv tab:=
  ⟨h.ag.trans (.of_ext hb),h.be.trans (hb.mono (Nat.le_trans hB h.be.size)),h.st.ext hb,h.og⟩
theorem PE.add (h:PE B BB MB n X W0 vv0 W vv tab) (he:BEnd B BB MB n W vv tab' W'):∃vv',PE B BB MB n X W0 vv0 W' vv' tab'∧Agree (keepsB BB MB vv) W W'∧∀g,vv'.ownBlock=some g→vv.ownBlock=some g∨W.heap.size≤g:=by
  obtain ⟨vv',h1,h2,h3,h4⟩:=he
  refine ⟨vv',⟨⟨Nat.le_trans h.ag.size h1.size,fun b hb hlt=>?_⟩,h.be.trans h2,h3,fun g hg=>?_⟩,h1,h4⟩
  · refine (h1.block b ⟨hb.1.1,hb.1.2.1,fun e=>?_⟩ (Nat.lt_of_lt_of_le hlt h.ag.size)).trans (h.ag.block b hb hlt)
    rcases h.og b e with e1 | e1
    · exact hb.1.2.2 e1
    · omega
  · rcases h4 g hg with e | e
    · exact h.og g e
    · exact .inr (Nat.le_trans h.ag.size e)
theorem PE.set (h:PE B BB MB n X W0 vv0 W vv tab) (hX:keepsB BB MB vv X) (hB:B≤X) (j:Nat) (u:Value):PE B BB MB n X W0 vv0 (W.setCell ⟨X,j,none⟩ u) vv tab:=by
  have hA:Agree (fun b=>b≠X) W (W.setCell ⟨X,j,none⟩ u):=.of_grown (zi _ _ _ _) fun b hb e=>hb (by cases e;rfl)
  exact ⟨h.ag.trans (hA.mono fun b hb=>hb.2),h.be.setCell (by simpa using hB) _,h.st.agree hA (fun e=>hX.1 e.symm) (fun e=>hX.2.1 e.symm) fun g hg e=>hX.2.2 (by rw[←e];exact hg),h.og⟩
theorem PE.trans {X':Nat} {W2:World} {vv2:Value} {tab2:List (List Int)} (h:PE B BB MB n X W0 vv0 W vv tab) (h2:PE B BB MB n X' W vv W2 vv2 tab2) (hX:W0.heap.size≤X'):PE B BB MB n X W0 vv0 W2 vv2 tab2:=by
  refine ⟨⟨Nat.le_trans h.ag.size h2.ag.size,fun b hb hlt=>?_⟩,h.be.trans h2.be,h2.st,fun g hg=>?_⟩
  · refine (h2.ag.block b ⟨⟨hb.1.1,hb.1.2.1,fun e=>?_⟩,by omega⟩ (Nat.lt_of_lt_of_le hlt h.ag.size)).trans (h.ag.block b hb hlt)
    rcases h.og b e with e1 | e1
    · exact hb.1.2.2 e1
    · omega
  · rcases h2.og g hg with e | e
    · exact h.og g e
    · exact .inr (Nat.le_trans h.ag.size e)
theorem PE.size (h:PE B BB MB n X W0 vv0 W vv tab):W0.heap.size≤W.heap.size:=h.ag.size
end
theorem yQ (b off:Nat) {p:Nat} (hp:p<5) (W:World):
    (Instr.indexAt 70 (.pointer (some ⟨b,off,none⟩)) (.int .i64 p)).run Tryz.prog W=.ok (.pointer (some ⟨b,off+p,none⟩)) W:=by
  obtain ⟨i,hi,hz1,hz2,hz3⟩:=info_parts zD
  have hA:=Tryz.underlying70
  have hE:Tryz.prog.elem 70=3:=by simp[Program.elem,hA]
  have hL:Tryz.prog.arrayLen 70=5:=by simp[Program.arrayLen,hA]
  rw[run_indexAt_array W _ _ _ _ (by rw[hE,hL];exact hA),hL,hE,if_pos (by omega)]
  simp[sizeOf,typeInfo,hi,hz2,Result.andThen,Addr.add]
theorem Zw (g n c:Nat) {k:Nat} (hk:k<n) (W:World):(Instr.indexAt 36 (.slice (some ⟨g,0,none⟩) n c) (.int .i64 k)).run Tryz.prog W=.ok (.pointer (some ⟨g,k,none⟩)) W:=by
  obtain ⟨i,hi,_,h1,_⟩:=info_parts zD
  rw [run_indexAt_slice W _ _ n c .i64 k (by have : Tryz.prog.elem 36 = 3 := by simp [Program.elem, Tryz.underlying36]
                                             rw[this];exact Tryz.underlying36),if_pos (by omega)]
  simp[Program.elem,Tryz.underlying36,sizeOf,typeInfo,hi,h1,Result.andThen,Addr.add]
  try omega
theorem za0:(Tryz.prog.info? 116).map (·.size)=some 7:=by kernel_rfl
theorem Z4 {S:Nat→Prop} {w:World} {a:Option Addr} {n cap:Nat} (h:Ad S w a n cap):∀k:Nat,k<n→∀W:World,(Instr.indexAt 108 (.slice a n cap) (.int .i64 k)).run Tryz.prog W=.ok (.pointer (some (adr a (k * 7)))) W:=by
  have h7:=za0
  cases hi:Tryz.prog.info? 116 with
  | none=>rw[hi]at h7;cases h7
  | some i=>
    rw[hi]at h7
    exact zC Tryz.underlying108 hi (by simpa using h7) h
def layR (mk:Nat→List Int) (t:List (List Int)) (N k:Nat):List Value:=((layV mk t k).2++List.replicate (N - k) 0).map (Value.int .i64)
theorem X5 (mk:Nat→List Int) (t:List (List Int)) (N:Nat):layR mk t N 0=(List.replicate N (0:Int)).map (Value.int .i64):=by unfold layR layV;simp
theorem zeu {mk:Nat→List Int} {t:List (List Int)} {N k:Nat} (h:k<N):(layR mk t N k).set k (.int .i64 (idxV (layV mk t k).1 (mk k):Nat))=layR mk t N (k+1):=by
  unfold layR
  rw[←List.map_set]
  congr 1
  have hl:=zZ mk t k
  have hr:List.replicate (N - k) (0:Int)=0::List.replicate (N - (k+1)) 0:=by rw[←List.replicate_succ];congr 1;omega
  rw[hr,List.set_append_right _ _ (by omega),hl,Nat.sub_self,zsz]
  show _=(layV mk t k).2++[_]++_
  rw[List.append_assoc];rfl
theorem XV (mk:Nat→List Int) (t:List (List Int)) (N:Nat):layR mk t N N=(layV mk t N).2.map (Value.int .i64):=by unfold layR;simp
theorem ze5 {mk:Nat→List Int} {t:List (List Int)} {N k:Nat} (h:k<N):(layR mk t N k)[k]? =some (.int .i64 0):=by
  unfold layR
  rw[List.getElem?_map,List.getElem?_append_right (by rw[zZ];omega),zZ,Nat.sub_self]
  have hr:List.replicate (N - k) (0:Int)=0::List.replicate (N - (k+1)) 0:=by rw[←List.replicate_succ];congr 1;omega
  rw[hr];rfl
theorem yE (mk:Nat→List Int) {t:List (List Int)} {M:Nat} (ht:t.length≤M):∀q,∀x∈(layV mk t q).2,0≤x∧x<(M:Int)+q
  | 0,x,h=>by simp[layV]at h
  | q+1,x,h=>by
    unfold layV at h
    rcases List.mem_append.1 h with h | h
    · have:=yE mk ht q x h;omega
    · rw[List.mem_singleton.1 h]
      have h1:=zbl (layV mk t q).1 (mk q)
      have h2:=yI mk t q
      omega
theorem qH (n:Nat) (inn:List Int) (word:List (List Int)) {t:List (List Int)} {M:Nat} (ht:t.length≤M):∀k,∀l∈(playV n inn word t k).2,l.length=n∧∀x∈l,0≤x∧x<(M:Int)+n * (k+1)
  | 0,l,h=>by
    unfold playV at h
    rw[List.mem_singleton.1 h]
    refine ⟨zZ _ _ _,fun x hx=>?_⟩
    have:=yE (fun q=>firstV q (nth inn q)) ht n x hx
    simp;omega
  | k+1,l,h=>by
    unfold playV at h
    have e:(n:Int) * ((k+1:Nat)+1)=n * (k+1)+n:=by rw[Int.mul_add];simp
    rcases List.mem_append.1 h with h | h
    · obtain ⟨h1,h2⟩:=qH n inn word ht k l h
      refine ⟨h1,fun x hx=>?_⟩
      have:=h2 x hx
      omega
    · rw[List.mem_singleton.1 h]
      refine ⟨zZ _ _ _,fun x hx=>?_⟩
      have hs:=yC n inn word t k
      have h1:(playV n inn word t k).1.length≤M+n * (k+1):=by omega
      have:=yE (fun q=>seenV (nthL word k) n (k+1) q (nthL (playV n inn word t k).2 k)) h1 n x hx
      have e2:((M+n * (k+1):Nat):Int)=M+n * (k+1):=by simp
      omega
theorem zcm {g:List Int} {j k p:Nat} {prev:List Int} (hj:j<5):(if (nth g (p+1)).toNat.testBit j=true then (seenV g j k p prev).set (3+j) (nth prev j) else seenV g j k p prev)=seenV g (j+1) k p prev:=by
  have h5:j=0∨j=1∨j=2∨j=3∨j=4:=by omega
  rcases h5 with rfl | rfl | rfl | rfl | rfl<;>unfold seenV heardV<;>split<;>rename_i h<;>simp[h]
theorem zcj (g:List Int) (k p:Nat) (prev:List Int):seenV g 0 k p prev=[(p:Int),(k:Int),0, -1, -1, -1, -1, -1]:=by unfold seenV heardV;simp
theorem zem {g prev:List Int} {n q r:Nat} (h:∀x∈prev,WF x):WF (heardV g n q prev r):=by
  unfold heardV
  split
  · exact zgs h r
  · exact WF.small (by omega)
theorem zcb {g prev:List Int} {n k q:Nat} (h:∀x∈prev,WF x) (hk:k≤1000) (hq:q≤1000):ViewOK (seenV g n k q prev):=by
  refine ⟨rfl,fun y hy=>?_⟩
  unfold seenV at hy
  simp only[List.mem_cons,List.not_mem_nil,or_false]at hy
  rcases hy with rfl | rfl | rfl | rfl | rfl | rfl | rfl | rfl
  · exact WF.small (by omega)
  · exact WF.small (by omega)
  · exact WF.small (by omega)
  all_goals exact zem h
theorem zaF {q:Nat} {x:Int} (h:WF x) (hq:q≤1000):ViewOK (firstV q x):=by
  refine ⟨rfl,fun y hy=>?_⟩
  unfold firstV at hy
  simp only[List.mem_cons,List.not_mem_nil,or_false]at hy
  rcases hy with rfl | rfl | rfl | rfl | rfl | rfl | rfl | rfl
  · exact WF.small (by omega)
  · exact WF.small (by omega)
  · exact h
  all_goals exact WF.small (by omega)
section
variable {B BB MB X:Nat} {n:Int} {W0 W W':World} {vv0 vv:Value} {tab tab':List (List Int)}
theorem PE.move (h:PE B BB MB n X W0 vv0 W vv tab) {T:Nat→Prop} (hA:Agree T W W') (hb:Below B W W') (h1:T BB) (h2:T MB) (h3:∀g,vv.ownBlock=some g→T g) (h4:∀b,b<W0.heap.size→keepsB BB MB vv0 b∧b≠X→T b):PE B BB MB n X W0 vv0 W' vv tab:=
  ⟨⟨Nat.le_trans h.ag.size hA.size,fun b hb hlt=>(hA.block b (h4 b hlt hb) (Nat.lt_of_lt_of_le hlt h.ag.size)).trans (h.ag.block b hb hlt)⟩,h.be.trans hb,h.st.agree hA h1 h2 h3,h.og⟩
theorem zb4 {N0 N k:Nat} {f:Nat→List Int} {v:List Int} {w2 w3:World} {tb:List (List Int)} (hB:B≤W0.heap.size) (hBX:B≤X) (h:PE B BB MB n X W0 vv0 W vv (layV f tb k).1) (R:Row W X 3 (layR f tb N k)) (Q:PR N0 BB MB W vv X) (hk:k<N)
    (hw:Below W.heap.size W w2) (hv:v=f k) (he:BEnd B BB MB n w2 vv (addV (layV f tb k).1 v) w3):∃vv3,Agree (fun b=>keepsB BB MB vv0 b∧b≠X) W0 w3∧w3.cell? ⟨X,k,none⟩=some (.int .i64 0)∧w3.frozen? ⟨X,k,none⟩=false∧X<w3.heap.size∧
      PE B BB MB n X W0 vv0 (w3.setCell ⟨X,k,none⟩ (.int .i64 (idxV (layV f tb k).1 v:Nat))) vv3 (layV f tb (k+1)).1∧Row (w3.setCell ⟨X,k,none⟩ (.int .i64 (idxV (layV f tb k).1 v:Nat))) X 3 (layR f tb N (k+1))∧PR N0 BB MB (w3.setCell ⟨X,k,none⟩ (.int .i64 (idxV (layV f tb k).1 v:Nat))) vv3 X:=by
  subst hv
  obtain ⟨vv3,P3,A3,g3⟩:=(h.ext hB hw).add he
  have Q3:=(Q.same hw.size).next A3.size g3
  have R3:=(R.ext hw).agree A3 (Q.same hw.size).2.2
  have hs:w3.heap.size≤(w3.setCell ⟨X,k,none⟩ (.int .i64 (idxV (layV f tb k).1 (f k):Nat))).heap.size:=(zi w3 X k _).size
  refine ⟨vv3,P3.ag,R3.cell (ze5 hk),R3.free k,R3.lt,P3.set Q3.2.2 hBX k _,?_,Q3.same hs⟩
  rw[←zeu hk]
  exact R3.set k _
end
theorem OwnK.slS {α:Type} {K:Kd α} {e:TypeId} {base:Nat} {S:Nat→Prop} {w:World} {v:Value} {l:List α} (h:OwnK K e base S w v l) (hn:l.length≤140737488355328) (hS:∀q,v.ownBlock=some q→S q):Sl K S w v l:=by
  obtain ⟨xs,ho,hr⟩:=h
  rcases ho.2 with ⟨rfl,hn0⟩ | ⟨g,cap,cur,rfl,hb,hg,hnc,hcm,_⟩
  · have:l=[]:=by simpa using hn0
    subst this
    exact Sl.nil _ _ _
  · refine ⟨_,cap,rfl,.inr ⟨g,0,rfl,(Array.getElem?_eq_some_iff.1 hg).1,hS g rfl⟩,hnc,⟨hcm,hn⟩,fun j hj=>⟨zzpart xs j K.size,fun i hi=>?_,K.mono (hr j hj) fun b hb=>hb.1⟩⟩
    have hlx:xs.length=l.length * K.size:=ho.1
    have hlt:j * K.size+i<xs.length:=by
      have:(j+1) * K.size≤l.length * K.size:=Nat.mul_le_mul_right _ hj
      rw[Nat.add_mul,Nat.one_mul]at this
      omega
    rw[yn hi,zS,Nat.zero_add,ho.cellAt (j * K.size+i) (by omega)]
theorem zbW {S:Nat→Prop} {w:World} {g N:Nat} {l:List Int} (R:Row w g 3 (l.map (Value.int .i64))) (hl:l.length=N) (hN:N≤1000000) (hw:∀x∈l,WF x) (hS:S g):kInts.rd S w [.slice (some ⟨g,0,none⟩) N N] l:=by
  subst hl
  exact ⟨_,rfl,(R.ints (by unfold maxLen;omega) hw).mono fun b hb=>by rw[hb];exact hS⟩
theorem zf2 {S:Nat→Prop} {w:World} {base g:Nat} {e:TypeId} {u:Value} {l:List Int} (R:Row w g e [u]) (hb:base≤g) (hr:kInts.rd (fun b=>S b∧b≠g) w [u] l):OwnK kInts e base S w (.slice (some ⟨g,0,none⟩) 1 1) [l]:=by
  refine ⟨[u],R.ownsW hb rfl (by decide),fun j hj=>?_⟩
  obtain rfl:j=0:=by simpa using hj
  have hp:zzpart [u] 0 kInts.size=[u]:=zfk rfl
  rw[hp]
  exact kInts.mono hr fun b hb=>⟨hb.1,fun e=>hb.2 (by simpa[Value.ownBlock] using e.symm)⟩
theorem OwnK.slot {α:Type} {K:Kd α} {e:TypeId} {base:Nat} {S S':Nat→Prop} {w w':World} {v:Value} {l:List α} {T:Nat→Prop} (h:OwnK K e base S w v l) (hw:Agree T w w') (h1:∀k,v.ownBlock=some k→T k) (h2:∀b,S b→T b) (h3:∀b,S b→S' b):OwnK K e base S' w' v l:=
  (h.agree hw h1 h2).mono h3
end Go.Proofs.YtfjlhjkjjbiliaaGreat
