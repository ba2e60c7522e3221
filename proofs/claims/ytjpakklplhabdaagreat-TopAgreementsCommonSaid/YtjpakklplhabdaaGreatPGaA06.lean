/- Part of the proof that the laws answer true for every input. -/
import Derived.Test.YtjpakklplhabdaaGreatPGaA03
import Derived.Test.YtjpakklplhabdaaGreatPGaA04
set_option linter.unusedSimpArgs false
set_option linter.unnecessarySimpa false
set_option linter.unusedVariables false
set_option maxRecDepth 100000
set_option maxHeartbeats 40000000
namespace Go.Proofs.YtjpakklplhabdaaGreat
open Go.RowKit
structure Kd (α:Type) where
 size:Nat
 rd:(Nat→Prop)→World→List Value→α→Prop
 agree:∀{S w w' cs x},rd S w cs x→Agree S w w'→rd S w' cs x
 mono:∀{S S' w cs x},rd S w cs x→(∀b,S b→S' b)→rd S' w cs x
 block:∀{S w cs x},rd S w cs x→rd (fun b=>S b∧b<w.heap.size) w cs x
 len:∀{S w cs x},rd S w cs x→cs.length=size
 one:∀{S w cs x},rd S w cs x→∀u∈cs,u.oneCell'=true
def Sl {α:Type} (K:Kd α) (S:Nat→Prop) (w:World) (v:Value) (l:List α):Prop:=
 ∃a cap,v=.slice a l.length cap∧Ad S w a l.length cap∧l.length≤cap∧(cap≤maxLen∧l.length≤140737488355328)∧
  ∀j (h:j<l.length),∃cs:List Value,(∀i,i<K.size→w.cell? (adr a (j * K.size+i))=cs[i]?)∧K.rd S w cs l[j]
section
variable {α:Type} {K:Kd α} {S S':Nat→Prop} {w w':World} {v:Value} {l:List α}
theorem Sl.agree (h:Sl K S w v l) (hw:Agree S w w'):Sl K S w' v l:=by
 obtain ⟨a,cap,rfl,ha,h1,h2,hc⟩:=h
 refine ⟨a,cap,rfl,ha.agree hw,h1,h2,fun j hj=>?_⟩
 obtain ⟨cs,h3,h4⟩:=hc j hj
 refine ⟨cs,fun i hi=>?_,K.agree h4 hw⟩
 rw[←h3 i hi]
 rcases ha with ⟨h0,_⟩ | ⟨b,off,rfl,hb,hs⟩
 ·omega
 ·exact World.cell?_of_block (hw.block b hs hb)
theorem Sl.mono (h:Sl K S w v l) (hS:∀b,S b→S' b):Sl K S' w v l:=by
 obtain ⟨a,cap,rfl,ha,h1,h2,hc⟩:=h
 refine ⟨a,cap,rfl,ha.mono hS,h1,h2,fun j hj=>?_⟩
 obtain ⟨cs,h3,h4⟩:=hc j hj
 exact ⟨cs,h3,K.mono h4 hS⟩
theorem Sl.block (h:Sl K S w v l):Sl K (fun b=>S b∧b<w.heap.size) w v l:=by
 obtain ⟨a,cap,rfl,ha,h1,h2,hc⟩:=h
 refine ⟨a,cap,rfl,?_,h1,h2,fun j hj=>?_⟩
 ·rcases ha with h | ⟨b,off,rfl,hb,hs⟩
  ·exact .inl h
  ·exact .inr ⟨b,off,rfl,hb,hs,hb⟩
 ·obtain ⟨cs,h3,h4⟩:=hc j hj
  exact ⟨cs,h3,K.block h4⟩
theorem Sl.ext (h:Sl K S w v l) (hw:Below w.heap.size w w'):Sl K S w' v l:=h.agree (.of_ext hw)
theorem Sl.all (h:Sl K S w v l):Sl K (fun _=>True) w v l:=h.mono fun _ _=>trivial
theorem Sl.nil (K:Kd α) (S:Nat→Prop) (w:World):Sl K S w (.slice none 0 0) []:=
 ⟨none,0,rfl,.inl ⟨rfl,rfl⟩,Nat.le_refl _,by simp[maxLen],fun j hj=>by simp at hj⟩
theorem Sl.form (h:Sl K S w v l):∃a cap,v=.slice a l.length cap∧Ad S w a l.length cap∧l.length≤cap∧cap≤maxLen:=by
 obtain ⟨a,cap,e,ha,h1,h2,_⟩:=h;exact ⟨a,cap,e,ha,h1,h2.1⟩
theorem Sl.few (h:Sl K S w v l):l.length≤140737488355328:=by
 obtain ⟨_,_,_,_,_,h2,_⟩:=h;exact h2.2
theorem Sl.len (h:Sl K S w v l):l.length≤maxLen:=by
 obtain ⟨_,_,_,_,h1,h2,_⟩:=h;exact Nat.le_trans h1 h2.1
theorem Sl.at {a:Option Addr} {n cap:Nat} (h:Sl K S w (.slice a n cap) l) {j:Nat} (hj:j<l.length):
  ∃cs:List Value,(∀i,i<K.size→w.cell? (adr a (j * K.size+i))=cs[i]?)∧K.rd S w cs l[j]∧cs.length=K.size:=by
 obtain ⟨a',cap',e,ha,h1,h2,hc⟩:=h
 simp only[Value.slice.injEq]at e
 obtain ⟨rfl,_,_⟩:=e
 obtain ⟨cs,h3,h4⟩:=hc j hj
 exact ⟨cs,h3,h4,K.len h4⟩
theorem Sl.ad {a:Option Addr} {n cap:Nat} (h:Sl K S w (.slice a n cap) l):Ad S w a l.length cap∧n=l.length:=by
 obtain ⟨a',cap',e,ha,h1,h2,hc⟩:=h
 simp only[Value.slice.injEq]at e
 obtain ⟨rfl,rfl,rfl⟩:=e
 exact ⟨ha,rfl⟩
end
theorem zJ {P:Program} {S:Nat→Prop} {w:World} {T E:TypeId} {i:TypeInfo} (hT:P.underlying T=some (.slice E)) (hi:P.info? E=some i) {z:Nat} (h1:i.size=z) {a:Option Addr} {n cap:Nat} (h:Ad S w a n cap):
  ∀k:Nat,k<n→∀W:World,(Instr.indexAt T (.slice a n cap) (.int .i64 k)).run P W=.ok (.pointer (some (adr a (k * z)))) W:=by
 intro k hk W
 rcases h with ⟨rfl,_⟩ | ⟨b,off,rfl,_,_⟩
 ·omega
 ·have hE:P.elem T=E:=by simp[Program.elem,hT]
  rw[run_indexAt_slice W T _ n cap .i64 k (by rw[hE];exact hT),if_pos (by omega),hE]
  simp[sizeOf,typeInfo,hi,h1,Result.andThen,adr,Addr.add]
theorem zdb {l:List Int} {i:Nat} (h:i<l.length):(l.map (Value.int .i64))[i]? =some (.int .i64 (nth l i)):=by
 rw[List.getElem?_map,get?_nth h];rfl
def kFlat (n:Nat):Kd (List Int) where
 size:=n
 rd _ _ cs l:=l.length=n∧cs=l.map (Value.int .i64)∧∀x∈l,WF x
 agree h _:=h
 mono h _:=h
 block h:=h
 len h:=by rw[h.2.1,List.length_map];exact h.1
 one h u hu:=by
  rw[h.2.1]at hu
  obtain ⟨x,_,rfl⟩:=List.mem_map.1 hu
  rfl
theorem zbv (n:Nat):(kFlat n).size=n:=rfl
theorem Sl.num {n:Nat} {S:Nat→Prop} {w:World} {a:Option Addr} {m cap:Nat} {l:List (List Int)} (h:Sl (kFlat n) S w (.slice a m cap) l) {k:Nat} (hk:k<l.length):
  (nthL l k).length=n∧(∀x∈nthL l k,WF x)∧∀i,i<n→w.cell? (adr a (k * n+i))=some (.int .i64 (nth (nthL l k) i)):=by
 obtain ⟨cs,h1,⟨h2,rfl,h3⟩,_⟩:=h.at hk
 rw[zM hk]
 refine ⟨h2,h3,fun i hi=>?_⟩
 rw[zbv]at h1
 rw[h1 i hi,zdb (by omega)]
def kSl {α:Type} (K:Kd α):Kd (List α) where
 size:=1
 rd S w cs l:=∃v,cs=[v]∧Sl K S w v l
 agree h hw:=by obtain ⟨v,e,h⟩:=h;exact ⟨v,e,h.agree hw⟩
 mono h hS:=by obtain ⟨v,e,h⟩:=h;exact ⟨v,e,h.mono hS⟩
 block h:=by obtain ⟨v,e,h⟩:=h;exact ⟨v,e,h.block⟩
 len h:=by obtain ⟨v,rfl,_⟩:=h;rfl
 one h u hu:=by
  obtain ⟨v,rfl,h⟩:=h
  obtain ⟨a,cap,rfl,_⟩:=h.form
  obtain rfl:=List.mem_singleton.1 hu
  rfl
theorem Sl.row {α:Type} {K:Kd α} {S:Nat→Prop} {w:World} {a:Option Addr} {m cap:Nat} {l:List (List α)} (h:Sl (kSl K) S w (.slice a m cap) l) {k:Nat} (hk:k<l.length):
  ∃v,w.cell? (adr a k)=some v∧Sl K S w v l[k]:=by
 obtain ⟨cs,h1,⟨v,rfl,h2⟩,_⟩:=h.at hk
 refine ⟨v,?_,h2⟩
 have:=h1 0 (by show 0<1;omega)
 simpa[kSl] using this
def kCase:Kd CaseD where
 size:=3
 rd S w cs c:=∃v1 v2 v3,cs=[v1,v2,v3]∧Ints S w v1 c.inn∧Lists S w v2 c.out∧Lists S w v3 c.calm
 agree h hw:=by obtain ⟨v1,v2,v3,e,h1,h2,h3⟩:=h;exact ⟨v1,v2,v3,e,h1.agree hw,h2.agree hw,h3.agree hw⟩
 mono h hS:=by obtain ⟨v1,v2,v3,e,h1,h2,h3⟩:=h;exact ⟨v1,v2,v3,e,h1.mono hS,h2.mono hS,h3.mono hS⟩
 block h:=by obtain ⟨v1,v2,v3,e,h1,h2,h3⟩:=h;exact ⟨v1,v2,v3,e,h1.block 0,h2.block,h3.block⟩
 len h:=by obtain ⟨v1,v2,v3,rfl,_⟩:=h;rfl
 one h u hu:=by
  obtain ⟨v1,v2,v3,rfl,h1,h2,h3⟩:=h
  obtain ⟨a1,c1,rfl,_⟩:=h1.form
  obtain ⟨a2,c2,rfl,_⟩:=h2.form
  obtain ⟨a3,c3,rfl,_⟩:=h3.form
  simp at hu
  rcases hu with rfl | rfl | rfl<;>rfl
theorem Sl.case {S:Nat→Prop} {w:World} {a:Option Addr} {m cap:Nat} {l:List CaseD} (h:Sl kCase S w (.slice a m cap) l) {k:Nat} (hk:k<l.length):
  ∃v1 v2 v3,w.cell? (adr a (k * 3))=some v1∧w.cell? ⟨(adr a (k * 3)).block,(adr a (k * 3)).off+1,none⟩=some v2∧w.cell? ⟨(adr a (k * 3)).block,(adr a (k * 3)).off+2,none⟩=some v3∧
   Ints S w v1 (nthC l k).inn∧Lists S w v2 (nthC l k).out∧Lists S w v3 (nthC l k).calm:=by
 obtain ⟨cs,h1,⟨v1,v2,v3,rfl,i1,i2,i3⟩,_⟩:=h.at hk
 have e:nthC l k=l[k]:=by simp[nthC,hk]
 rw[e]
 have q0:=h1 0 (by show 0<3;omega)
 have q1:=h1 1 (by show 1<3;omega)
 have q2:=h1 2 (by show 2<3;omega)
 have sz:kCase.size=3:=rfl
 rw[sz]at q0 q1 q2
 have ha:=h.ad.1
 rcases ha with ⟨h0,_⟩ | ⟨b,off,rfl,_,_⟩
 ·omega
 ·refine ⟨v1,v2,v3,by simpa using q0,?_,?_,i1,i2,i3⟩
  ·simpa[adr,Nat.add_assoc] using q1
  ·simpa[adr,Nat.add_assoc] using q2
theorem Qd {l:List CaseD} {k:Nat} (h:k<l.length):nthC l k=l[k]:=by simp[nthC,h]
theorem Sl.nums {n:Nat} {S:Nat→Prop} {w:World} {a:Option Addr} {m cap:Nat} {l:List (List Int)} (h:Sl (kFlat n) S w (.slice a m cap) l) {k:Nat} (hk:k<l.length) (hn:0<n):
  (w.cell? (adr a (k * n))=some (.int .i64 (nth (nthL l k) 0)))∧∀i,i<n→w.cell? ⟨(adr a (k * n)).block,(adr a (k * n)).off+i,none⟩=some (.int .i64 (nth (nthL l k) i)):=by
 obtain ⟨h1,h2,h3⟩:=h.num hk
 have ha:=h.ad.1
 rcases ha with ⟨h0,_⟩ | ⟨b,off,rfl,_,_⟩
 ·omega
 ·refine ⟨by simpa using h3 0 hn,fun i hi=>?_⟩
  have:=h3 i hi
  simpa[adr,Nat.add_assoc] using this
theorem zd4 {l:List Int} (h:∀x∈l,WF x) (i:Nat):WF (nth l i):=by
 by_cases hi:i<l.length
 ·exact h _ (Zv hi)
 ·have:nth l i=0:=by simp[nth,List.getElem?_eq_none (show l.length≤i by omega)]
  rw[this];exact WF.small (by omega)
end Go.Proofs.YtjpakklplhabdaaGreat
