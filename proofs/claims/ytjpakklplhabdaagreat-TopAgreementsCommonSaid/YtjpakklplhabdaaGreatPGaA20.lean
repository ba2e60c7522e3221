/- Part of the proof that the laws answer true for every input. -/
import Derived.Test.YtjpakklplhabdaaGreatPGaA19
set_option linter.unusedSimpArgs false
set_option linter.unnecessarySimpa false
set_option linter.unusedVariables false
set_option maxRecDepth 100000
set_option maxHeartbeats 40000000
namespace Go.Proofs.YtjpakklplhabdaaGreat
open Go.RowKit
attribute [local go_sem ↓] Go.wp_at_zero Go.wp_at_succ
theorem Y3 {P:Program} {w:World} (t ty e:TypeId) (z:Value) (size bytes:Nat) (ht:P.underlying t=some (.slice e))
  (hinfo:(P.info? e).map (fun i=>(i.zero,i.size,i.bytes))=some (some z,size,bytes)) (hz1:z.cells.size=size) (hsz:0<size) {base g n cap:Nat} {xs cs:List Value} (hown:w.ownsRow base e size (.slice (some ⟨g,0,none⟩) n cap) n xs)
  (hroom:n+1≤cap) (hcs:cs.length=size) (h1:∀u∈cs,u.oneCell'=true) (hbytes:(n+1) * bytes≤140737488355328) (hn:n<9223372036854775807) (hbase:base≤w.heap.size):
  ∃w',(Builtin.append_ #[t,t] ty #[.slice (some ⟨g,0,none⟩) n cap,.slice (some ⟨w.heap.size,0,none⟩) 1 1]).run P (w.alloc (.cells cs.toArray e))=.ok (.slice (some ⟨g,0,none⟩) (n+1) cap) w'∧
   w'.ownsRow base e size (.slice (some ⟨g,0,none⟩) (n+1) cap) (n+1) (xs++cs)∧(w.alloc (.cells cs.toArray e)).grownBy w' (some g):=by
 obtain ⟨i,hi,hz,hz2,hz3⟩:=info_parts hinfo
 have hown2:=hown.alloc (.cells cs.toArray e)
 have hnews:∀j u,cs[j]? =some u→(w.alloc (.cells cs.toArray e)).cell? ((⟨w.heap.size,0,none⟩:Addr).add j)=some u:=fun j u hj=>by
  rw[Addr.add_lit,Nat.zero_add,World.cell?_alloc_new];simpa using hj
 obtain ⟨v',w',hr,h2,h3,h4⟩:=yi (P:=P) (w.alloc (.cells cs.toArray e)) base t ty e i z size bytes ht hi hz hz2 hz3 hz1 hsz _ n xs hown2 ⟨w.heap.size,0,none⟩ 1 1 cs (by omega) hnews h1 (by unfold maxLen;omega) hbytes (by simp;omega)
 have hg0:=hown2.2
 rcases hg0 with ⟨e0,_⟩ | ⟨g',cap',cur,e0,hb,hg,hnc,hcm,hcsz,htake⟩
 ·cases e0
 ·injection e0 with e1 e2 e3
  injection e1 with e1
  injection e1 with e1
  subst e1 e3
  have hr2:=run_append_room (P:=P) (w.alloc (.cells cs.toArray e)) t ty e i ht hi g n cap cur hg ⟨w.heap.size,0,none⟩ 1 1 cs (by omega) hnews h1 hroom (by rw[hz2,hcs,hcsz];have:(n+1) * size≤cap * size:=Nat.mul_le_mul_right _ hroom;rw[Nat.add_mul,Nat.one_mul]at this;exact this)
  rw[hr]at hr2
  injection hr2 with hv hw
  subst hv
  exact ⟨w',hr,h2,h3⟩
theorem ZV {P:Program} {ops:Array Oper} {o:Oper} {a:Act} {w:World} {Kc:Act→World→Prop} {Q:Exit→Act→World→Prop} {E:Prop} (hgd:o.guard=none) (s x:Operand) (t:TypeId)
  (ho:o.op=.call {callee:=.builtin .append,args:=#[s,x],argTypes:=#[t,t]}) (e:TypeId) (z:Value) (size bytes:Nat) (ht:P.underlying t=some (.slice e))
  (hinfo:(P.info? e).map (fun i=>(i.zero,i.size,i.bytes))=some (some z,size,bytes)) (hz1:z.cells.size=size) (hsz:0<size) {base g n cap:Nat} {xs cs:List Value} (hs:a.eval s=.slice (some ⟨g,0,none⟩) n cap) (hx:a.eval x=.slice (some ⟨w.heap.size,0,none⟩) 1 1) (hown:w.ownsRow base e size (.slice (some ⟨g,0,none⟩) n cap) n xs)
  (hroom:n+1≤cap) (hcs:cs.length=size) (h1:∀u∈cs,u.oneCell'=true) (hbytes:(n+1) * bytes≤140737488355328) (hn:n<9223372036854775807) (hbase:base≤w.heap.size)
  (h:∀w',w'.ownsRow base e size (.slice (some ⟨g,0,none⟩) (n+1) cap) (n+1) (xs++cs)→(w.alloc (.cells cs.toArray e)).grownBy w' (some g)→Kc (a.put o.dst (.slice (some ⟨g,0,none⟩) (n+1) cap)) w'):
  if Region.wanted o (yielded ops a.tmps)=true then Oper.wp P o a (w.alloc (.cells cs.toArray e)) Kc Q else E:=by
 have hw:Region.wanted o (yielded ops a.tmps)=true:=by simp[Region.wanted,hgd]
 rw[if_pos hw]
 obtain ⟨w',hr,h2,h3⟩:=Y3 (P:=P) (w:=w) t o.type e z size bytes ht hinfo hz1 hsz hown hroom hcs h1 hbytes hn hbase
 unfold Oper.wp
 simp[execOp,ho,resolve,invoke,builtin,hs,hx,hr,Result.andThen]
 exact h w' h2 h3
theorem xJ {α:Type} {K:Kd α} {P:Program} {ops:Array Oper} {o:Oper} {a:Act} {w:World} {Kc:Act→World→Prop} {Q:Exit→Act→World→Prop} {E:Prop} (hgd:o.guard=none) (s x:Operand) (t:TypeId)
  (ho:o.op=.call {callee:=.builtin .append,args:=#[s,x],argTypes:=#[t,t]}) (e:TypeId) (z:Value) (bytes:Nat) (ht:P.underlying t=some (.slice e))
  (hinfo:(P.info? e).map (fun i=>(i.zero,i.size,i.bytes))=some (some z,K.size,bytes)) (hz1:z.cells.size=K.size) (hsz:0<K.size) {base:Nat} {S:Nat→Prop} {v:Value} {l:List α} (hs:a.eval s=v) (hown:OwnK K e base S w v l)
  {cs:List Value} {y:α} (hx:a.eval x=.slice (some ⟨w.heap.size,0,none⟩) 1 1) (hy:K.rd (fun b=>S b∧v.ownBlock≠some b) w cs y) (hbytes:(l.length+1) * bytes≤140737488355328) (hn:l.length<9223372036854775807) (hbase:base≤w.heap.size)
  (h:∀g' c' w',OwnK K e base S w' (.slice (some ⟨g',0,none⟩) (l.length+1) c') (l++[y])→Below base w w'→(∀S:Nat→Prop,(∀k,v.ownBlock=some k→¬S k)→Agree S w w')→(v.ownBlock=some g'∨w.heap.size≤g')→(w.alloc (.cells cs.toArray e)).grownBy w' v.ownBlock→Kc (a.put o.dst (.slice (some ⟨g',0,none⟩) (l.length+1) c')) w'):
  if Region.wanted o (yielded ops a.tmps)=true then Oper.wp P o a (w.alloc (.cells cs.toArray e)) Kc Q else E:=by
 have hw:Region.wanted o (yielded ops a.tmps)=true:=by simp[Region.wanted,hgd]
 rw[if_pos hw]
 obtain ⟨g',c',w',hrun,r1,r2,r3,r4,r5⟩:=Xw (P:=P) t o.type e z bytes ht hinfo hz1 hsz hown hy hbytes hn hbase
 unfold Oper.wp
 simp[execOp,ho,resolve,invoke,builtin,hs,hx,hrun,Result.andThen]
 exact h g' c' w' r1 r2 r3 r4 r5
theorem zcP {w:World} {base g n cap z:Nat} {e:TypeId} {xs ys:List Value} (h:w.ownsRow base e z (.slice (some ⟨g,0,none⟩) (n+1) cap) (n+1) (xs++ys)) (hx:xs.length=n * z):w.ownsRow base e z (.slice (some ⟨g,0,none⟩) n cap) n xs:=by
 refine ⟨hx,?_⟩
 rcases h.2 with ⟨e0,_⟩ | ⟨g',cap',cur,e0,hb,hg,hnc,hcm,hcsz,htake⟩
 ·cases e0
 ·injection e0 with e1 e2 e3
  injection e1 with e1
  injection e1 with e1
  subst e1 e3
  refine .inr ⟨g,cap,cur,rfl,hb,hg,by omega,hcm,hcsz,?_⟩
  have h2:(cur.toList.take ((n+1) * z)).take (n * z)=(xs++ys).take (n * z):=by rw[htake]
  rw[List.take_take,Nat.min_eq_left (Nat.mul_le_mul_right _ (Nat.le_succ _)),←hx,List.take_left]at h2
  rw[←hx]
  exact h2
def flatC (l:List (List Int)):List Value:=l.flatMap fun r=>r.map (Value.int .i64)
theorem Yj (l:List (List Int)) (r:List Int):flatC (l++[r])=flatC l++r.map (Value.int .i64):=by unfold flatC;rw[List.flatMap_append];simp
theorem zcK {l:List (List Int)} {z:Nat} (h:∀r∈l,r.length=z):(flatC l).length=l.length * z:=by
 induction l with
 | nil=>simp[flatC]
 | cons r l ih=>
  have:=ih fun r hr=>h r (by simp[hr])
  unfold flatC at this ⊢
  rw[List.flatMap_cons,List.length_append,this,List.length_map,h r (by simp),List.length_cons,Nat.add_mul]
  omega
theorem zbo {l:List (List Int)} {z:Nat} (h:∀r∈l,r.length=z):∀j (hj:j<l.length),zzpart (flatC l) j z=l[j].map (Value.int .i64):=by
 induction l with
 | nil=>intro j hj;simp at hj
 | cons r l ih=>
  intro j hj
  have e:flatC (r::l)=r.map (Value.int .i64)++flatC l:=by unfold flatC;rw[List.flatMap_cons]
  have hr:(r.map (Value.int .i64)).length=z:=by rw[List.length_map];exact h r (by simp)
  rw[e]
  cases j with
  | zero=>rw[Xk hr];rfl
  | succ j=>
   rw[Xc hr,ih (fun r hr=>h r (by simp[hr])) j (by simpa using hj)]
   rfl
theorem zdj {w:World} {base z:Nat} {S:Nat→Prop} {v:Value} {e:TypeId} {l:List (List Int)} (h:w.ownsRow base e z v l.length (flatC l)) (hl:∀r∈l,r.length=z∧∀x∈r,WF x):OwnK (kFlat z) e base S w v l:=
 ⟨flatC l,h,fun j hj=>by
  have h2:=hl _ (List.getElem_mem hj)
  refine ⟨h2.1,?_,h2.2⟩
  exact zbo (z:=z) (fun r hr=>(hl r hr).1) j hj⟩
end Go.Proofs.YtjpakklplhabdaaGreat
