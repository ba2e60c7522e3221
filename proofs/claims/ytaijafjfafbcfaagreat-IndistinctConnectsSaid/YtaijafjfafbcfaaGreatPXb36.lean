/- Part of the proof that the laws answer true for every input. -/
import Derived.Test.YtaijafjfafbcfaaGreatPXb35
import Derived.Test.YtaijafjfafbcfaaGreatPXb00
import Derived.Test.YtaijafjfafbcfaaGreatPXb02
import Derived.Test.YtaijafjfafbcfaaGreatPXb01
import Derived.Deep.OwnRows
set_option linter.unusedSimpArgs false
set_option linter.unnecessarySimpa false
set_option linter.unusedVariables false
set_option maxRecDepth 100000
set_option maxHeartbeats 40000000
namespace Go.Proofs.YtaijafjfafbcfaaGreat
open Go.RowKit
theorem info3:(Tryz.prog.info? 3).map (fun i=>(i.zero,i.size,i.bytes))=some (some (.int .i64 0),1,8):=by kernel_rfl
theorem zero_int (w:World):(zeroValue 3).run Tryz.prog w=.ok (.int .i64 0) w:=by kernel_rfl
noncomputable def keyInt:KeyB Tryz.prog 3 Int:=intKey Tryz.underlying3
theorem labelsInt_calls {S:Nat→Prop} {w:World} {v:Value} {l:List Int} (h:Ints S w v l) (hlen:l.length≤65536):
  Calls Tryz.prog 54 #[v] w (Post w fun w' r=>Ints (fun b=>w.heap.size≤b) w' r (labs l)):=by
 obtain ⟨a,cap,rfl,ha,_,hm,hc,hf⟩:=h
 clear hm
 obtain ⟨i0,hi,hz0,hz1,hz2⟩:=info_parts info3
 have hix:=idx_one Tryz.underlying44 hi hz1 ha
 have hmm:=@run_makeMap Tryz.prog
 have hmk:=run_make_row' 44 3 (.int .i64 0) 8 Tryz.underlying44 info3 rfl .i64 .i64 l.length (by omega) (by omega)
 clear hi hz0 hz1 hz2
 go_enter Tryz.func54,Tryz.ntmps54
 go_wp2
 go_loopw [15] (fun i wr=>∃k:Nat,k≤l.length∧i=.int .i64 k∧Below w.heap.size w wr∧MapV keyInt wr w.heap.size (labMap (l.take k)) (firsts (l.take k)).length∧Row wr (w.heap.size+1) 3 (labRow (l.take k) l.length)) (fun i _=>l.length - (intOf i).toNat)
 case atStart=>
  refine ⟨0,by omega,rfl,((Below.refl _ _).alloc (Nat.le_refl _) _).alloc (by simp) _,?_,?_⟩
  ·rw[List.take_zero,labMap_nil]
   exact (MapV.made keyInt w).agree (Agree.of_grown (S:=fun b=>b=w.heap.size) (World.grownBy_alloc _ _ none) (by simp)) rfl
  ·rw[List.take_zero,labRow_nil]
   have:=Row.made (w.alloc (.map #[] 0)) (.int .i64 0) l.length 3
   simpa using this
 case round=>
  obtain ⟨k,hk,rfl,hb,hM,hR⟩:=hrel
  have hd:=cells_at ha hb hc
  by_cases hlt:k<l.length
  ·have q:=hix k hlt
   have p:=hd k hlt
   have hwf:WF (nth l k):=hf _ (nth_mem hlt)
   have HT:=Lib.hid (take_nth hlt)
   have hB:=hb.size
   have hs:=hM.lt
   have HK:=Lib.hid (show (l.take k).length=k by simp;omega)
   have hR0:=hR.cell (j:=k) (u:=.int .i64 0) (by have:=labRow_get (l:=l.take k) (n:=l.length) (by rw[HK.out];omega);rw[HK.out]at this;exact this)
   have hRf:=hR.free k
   have hFl:(firsts (l.take k)).length≤k:=by have:=length_firsts_le (l.take k);rw[HK.out]at this;exact this
   by_cases hin:nth l k∈l.take k
   ·have hhit:=Lib.hid (labMap_hit hin)
    clear hix hd hc
    go_wp2_with (at_lookup;refine wpList_hit rfl _ _ 107 rfl 3 Tryz.underlying107 (.int .i64 0) (zero_int _) rfl hM (nth l k) rfl hwf _ hhit.out ?_)
    go_roundw
    case rel=>
     have:=HK.out
     refine ⟨k+1,by omega,by go_num,hb.setCell (by simp) _,?_,?_⟩
     ·rw[HT.out,labMap_old hin,firsts_old hin]
      exact hM.agree (S:=fun b=>b=w.heap.size) (.of_grown (grownBy_setCell _ _ _ _) (by simp)) rfl
     ·rw[HT.out,←labRow_set (by rw[HK.out];exact hlt),HK.out,lab_snoc hin]
      exact hR.set k _
    case measure=>simp[intOf];omega
   ·have hmiss:=Lib.hid (labMap_miss hin)
    clear hix hd hc
    go_wp2_with (first
     | (at_lookup;refine wpList_miss rfl _ _ 107 rfl 3 Tryz.underlying107 (.int .i64 0) (zero_int _) rfl hM (nth l k) rfl hwf hmiss.out ?_)
     | (at_len;refine wpList_maplen rfl _ 107 rfl 3 Tryz.underlying107 rfl hM ?_)
     | (at_mapUpdate;refine wpList_upd rfl _ _ _ 107 rfl 3 Tryz.underlying107 rfl hM (by unfold maxLen;omega) (nth l k) rfl hwf (.int .i64 ((firsts (l.take k)).length:Int)) rfl ?_;intro w1 hM1 hg1;have p1:=(hR.grown hg1 (by simp)).cell (j:=k) (u:=.int .i64 0) (by have:=labRow_get (l:=l.take k) (n:=l.length) (by rw[HK.out];omega);rw[HK.out]at this;exact this);have p2:=(hR.grown hg1 (by simp)).free k))
    go_roundw
    case rel=>
     have:=HK.out
     refine ⟨k+1,by omega,by go_num,(hb.grown hg1 hB (fun j hj=>by cases hj;exact Nat.le_refl _)).setCell (by simp) _,?_,?_⟩
     ·rw[hmiss.out,labMap_new hin]at hM1
      rw[HT.out,firsts_new hin]
      simpa using hM1.agree (S:=fun b=>b=w.heap.size) (.of_grown (grownBy_setCell _ _ _ _) (by simp)) rfl
     ·rw[HT.out,←labRow_set (by rw[HK.out];exact hlt),HK.out,lab_new hin]
      exact (hR.grown hg1 (by simp)).set k _
    case measure=>simp[intOf];omega
  ·have hk':k=l.length:=by omega
   subst hk'
   go_wp2
   go_ret
   rw[List.take_length,labRow_full]at hR
   have:=hR.ints (by unfold maxLen;simp;omega) (labs_wf hlen)
   rw[length_labs]at this
   exact .mk hb (this.mono (by intro b hb;omega))
end Go.Proofs.YtaijafjfafbcfaaGreat
namespace Go.Proofs.YtaijafjfafbcfaaGreat
open Go.RowKit
def checkTo:List Int→Int→Int
 | [],_=>0
 | x::l,n=>if x<0 then 2 else if n<x then 14 else if x=n then checkTo l (n+1) else checkTo l n
def checkS (l:List Int):Int:=if 65536<l.length then 5 else checkTo l 0
theorem check_done {l:List Int} {k:Nat} {m:Int} (hb:¬65536<l.length) (h:checkTo (l.drop k) m=checkTo l 0) {c:Int} (hc:checkTo (l.drop k) m=c):Value.int .i64 c=Value.int .i64 (checkS l):=by
 simp[checkS,hb,←h,hc]
theorem check_calls {S:Nat→Prop} {w:World} {v:Value} {l:List Int} (h:Ints S w v l):
  Calls Tryz.prog 77 #[v] w (Post w fun _ r=>r=.int .i64 (checkS l)):=by
 obtain ⟨a,cap,rfl,ha,h1,h2,hc,hf⟩:=h
 unfold maxLen at h2
 obtain ⟨i0,hi,hz0,hz1,hz2⟩:=info_parts info_int
 have hix:=idx_one Tryz.underlying44 hi hz1 ha
 clear hi hz0 hz1 hz2
 go_enter Tryz.func77,Tryz.ntmps77
 by_cases hbig:65536<l.length
 ·go_wp2
  go_ret
  exact .same (by simp[checkS,hbig])
 ·go_wp2
  go_loop [3,11] (fun n i=>∃k:Nat,∃m:Int,k≤l.length∧0≤m∧m≤k∧i=.int .i64 k∧n=.int .i64 m∧checkTo (l.drop k) m=checkTo l 0) (fun _ i=>l.length - (intOf i).toNat)
  case atStart=>exact ⟨0,0,by omega,by omega,by omega,rfl,rfl,rfl⟩
  case round=>
   obtain ⟨k,m,hk,hm0,hmk,rfl,rfl,hrel⟩:=hrel
   have H:=Lib.hid hrel
   clear hrel
   by_cases hlt:k<l.length
   ·have HS:=Lib.hid (drop_nth hlt)
    go_wp2
    ·go_ret
     exact .same (check_done hbig H.out (by rw[HS.out,checkTo,if_pos ‹_›]))
    ·go_ret
     exact .same (check_done hbig H.out (by rw[HS.out,checkTo,if_neg (by omega),if_pos ‹_›]))
    ·go_round
     case rel=>exact ⟨k+1,m+1,by omega,by omega,by omega,by go_num,rfl,by rw[←H.out,HS.out,checkTo,if_neg (by omega),if_neg (by omega),if_pos (beq_iff_eq.1 ‹_›)]⟩
     case measure=>simp[intOf];omega
    ·go_round
     case rel=>exact ⟨k+1,m,by omega,by omega,by omega,by go_num,rfl,by rw[←H.out,HS.out,checkTo,if_neg (by omega),if_neg (by omega),if_neg (beq_eq_false_iff_ne.1 ‹_›)]⟩
     case measure=>simp[intOf];omega
   ·go_wp2
    go_ret
    exact .same (check_done hbig H.out (by rw[List.drop_of_length_le (by omega),checkTo]))
def bothS (a b:List Int):Int:=if checkS a≠0 then checkS a else if checkS b≠0 then checkS b else if a.length≠b.length then 15 else 0
theorem both_calls {S S':Nat→Prop} {w:World} {va vb:Value} {a b:List Int} (ha:Ints S w va a) (hb:Ints S' w vb b):
  Calls Tryz.prog 52 #[va,vb] w (Post w fun _ r=>r=.int .i64 (bothS a b)):=by
 have ka:=ha
 have kb:=hb
 obtain ⟨aa,capa,rfl,_⟩:=ka
 obtain ⟨ab,capb,rfl,_⟩:=kb
 go_enter Tryz.func52,Tryz.ntmps52
 go_wp2
 have hb0:Below w.heap.size w (w.alloc (.cells #[.slice aa a.length capa,.slice ab b.length capb] 44)):=(Below.refl _ _).alloc (Nat.le_refl _) _
 refine wp_loop_rounds 3 ?_
 rw[rounds_succ]
 go_wp2_with fail
 refine (check_calls (ha.ext hb0)).mono ?_
 rintro _ w1 ⟨_,rfl,hb1,rfl⟩
 have c1:w1.cell? ⟨w.heap.size,1,none⟩=some (.slice ab b.length capb):=by
  rw[hb1.cell (p:=⟨w.heap.size,1,none⟩) (by simp)];simp
 go_wp2_with fail
 ·go_ret
  exact .mk (ext_trans hb0 hb1) (int_eq (by simp_all [bothS]))
 ·rw[rounds_succ]
  go_wp2_with fail
  refine (check_calls ((hb.ext hb0).ext hb1)).mono ?_
  rintro _ w2 ⟨_,rfl,hb2,rfl⟩
  go_wp2_with fail
  ·go_ret
   exact .mk (ext_trans hb0 (ext_trans hb1 hb2)) (int_eq (by simp_all [bothS]))
  ·rw[rounds_succ]
   by_cases hl:a.length=b.length
   ·have e3:((a.length:Int) !=b.length)=false:=by simp[hl]
    have HL:=Lib.hid hl
    clear hl
    go_wp2_with fail
    go_ret
    exact .mk (ext_trans hb0 (ext_trans hb1 hb2)) (int_eq (by have:=HL.out;simp_all [bothS]))
   ·have e3:((a.length:Int) !=b.length)=true:=by simp;omega
    have HL:=Lib.hid hl
    clear hl
    go_wp2_with fail
    go_ret
    exact .mk (ext_trans hb0 (ext_trans hb1 hb2)) (int_eq (by have:=HL.out;simp_all [bothS]))
end Go.Proofs.YtaijafjfafbcfaaGreat
namespace Go.Proofs.YtaijafjfafbcfaaGreat
def numS (l:List Int):Int:=l.foldl (fun n x=>max n (x+1)) 0
theorem numS_snoc (l:List Int) (x:Int):numS (l++[x])=max (numS l) (x+1):=by simp[numS,List.foldl_append]
def Good (l:List Int):Prop:=l.length≤65536∧∀i,i<l.length→0≤nth l i∧nth l i≤numS (l.take i)
theorem good_aux (l:List Int):∀n k,n=l.length - k→k≤l.length→(checkTo (l.drop k) (numS (l.take k))=0↔∀i,k≤i→i<l.length→0≤nth l i∧nth l i≤numS (l.take i)):=by
 intro n
 induction n with
 | zero=>
  intro k hn hk
  have hk':k=l.length:=by omega
  subst hk'
  simp only[List.drop_length,checkTo,true_iff]
  intro i h1 h2;omega
 | succ n ih=>
  intro k hn hk
  have hlt:k<l.length:=by omega
  have ihk:=ih (k+1) (by omega) (by omega)
  rw[drop_nth hlt,checkTo]
  rw[take_nth hlt,numS_snoc]at ihk
  constructor
  ·intro h
   split at h
   ·cases h
   ·split at h
    ·cases h
    ·have hm:(if nth l k=numS (l.take k) then numS (l.take k)+1 else numS (l.take k))=max (numS (l.take k)) (nth l k+1):=by
      split<;>omega
     have h':checkTo (l.drop (k+1)) (max (numS (l.take k)) (nth l k+1))=0:=by
      rw[←hm]
      split at h<;>(rename_i hx;simpa[hx] using h)
     intro i h1 h2
     by_cases hik:i=k
     ·subst hik;omega
     ·exact ihk.1 h' i (by omega) h2
  ·intro h
   have hk0:=h k (Nat.le_refl _) hlt
   rw[if_neg (by omega),if_neg (by omega)]
   have hm:(if nth l k=numS (l.take k) then numS (l.take k)+1 else numS (l.take k))=max (numS (l.take k)) (nth l k+1):=by
    split<;>omega
   have h':=ihk.2 (fun i h1 h2=>h i (by omega) h2)
   rw[←hm]at h'
   split<;>(rename_i hx;simpa[hx] using h')
theorem checkS_good {l:List Int}:checkS l=0↔Good l:=by
 have:=good_aux l l.length 0 (by omega) (by omega)
 simp only[List.drop_zero,List.take_zero]at this
 unfold checkS Good
 split
 ·constructor
  ·intro h;cases h
  ·intro h;omega
 ·rw[show (0:Int)=numS [] from rfl]at *
  rw[this]
  constructor
  ·intro h;exact ⟨by omega,fun i hi=>h i (by omega) hi⟩
  ·intro h i _ hi;exact h.2 i hi
end Go.Proofs.YtaijafjfafbcfaaGreat
namespace Go.Proofs.YtaijafjfafbcfaaGreat
section
variable {K L:Type}
def keys (f:Nat→K) (n:Nat):List K:=(List.range n).map f
theorem keys_succ (f:Nat→K) (n:Nat):keys f (n+1)=keys f n++[f n]:=by simp[keys,List.range_succ]
theorem mem_keys {f:Nat→K} {n:Nat} {x:K}:x∈keys f n↔∃i,i<n∧f i=x:=by simp[keys]
@[simp] theorem length_keys (f:Nat→K) (n:Nat):(keys f n).length=n:=by simp[keys]
variable [DecidableEq K] [DecidableEq L]
omit [DecidableEq L] in
theorem lab_keys_mono (f:Nat→K) {i n:Nat} (h:i<n):lab (keys f (n+1)) (f i)=lab (keys f n) (f i):=by
 rw[keys_succ,lab_snoc (mem_keys.2 ⟨i,h,rfl⟩)]
theorem labs_congr_aux (f:Nat→K) (g:Nat→L):∀n,(∀i j,i<n→j<n→(f i=f j↔g i=g j))→
  (∀i,i<n→lab (keys f n) (f i)=lab (keys g n) (g i))∧(firsts (keys f n)).length=(firsts (keys g n)).length:=by
 intro n
 induction n with
 | zero=>intro _;exact ⟨fun i hi=>by omega,rfl⟩
 | succ n ih=>
  intro h
  obtain ⟨h1,h2⟩:=ih (fun i j hi hj=>h i j (by omega) (by omega))
  have hmem:f n∈keys f n↔g n∈keys g n:=by
   rw[mem_keys,mem_keys]
   constructor
   ·rintro ⟨i,hi,e⟩;exact ⟨i,hi,(h i n (by omega) (by omega)).1 e⟩
   ·rintro ⟨i,hi,e⟩;exact ⟨i,hi,(h i n (by omega) (by omega)).2 e⟩
  by_cases hf:f n∈keys f n
  ·have hg:=hmem.1 hf
   refine ⟨fun i hi=>?_,by rw[keys_succ,keys_succ,firsts_old hf,firsts_old hg,h2]⟩
   by_cases hin:i<n
   ·rw[lab_keys_mono f hin,lab_keys_mono g hin,h1 i hin]
   ·obtain rfl:i=n:=by omega
    obtain ⟨j,hj,e⟩:=mem_keys.1 hf
    have e':=(h j i (by omega) (by omega)).1 e
    rw[←e,←e',lab_keys_mono f hj,lab_keys_mono g hj,h1 j hj]
  ·have hg:g n∉keys g n:=fun h'=>hf (hmem.2 h')
   refine ⟨fun i hi=>?_,by rw[keys_succ,keys_succ,firsts_new hf,firsts_new hg];simp[h2]⟩
   by_cases hin:i<n
   ·rw[lab_keys_mono f hin,lab_keys_mono g hin,h1 i hin]
   ·obtain rfl:i=n:=by omega
    rw[keys_succ,keys_succ,lab_new hf,lab_new hg,h2]
theorem labs_congr {f:Nat→K} {g:Nat→L} {n:Nat} (h:∀i j,i<n→j<n→(f i=f j↔g i=g j)):labs (keys f n)=labs (keys g n):=by
 obtain ⟨h1,_⟩:=labs_congr_aux f g n h
 apply List.ext_getElem
 ·simp
 ·intro i hi1 hi2
  simp at hi1
  have:=h1 i hi1
  simp[labs,keys]at this ⊢
  rw[this]
end
theorem keys_nth (l:List Int):keys (nth l) l.length=l:=by
 apply List.ext_getElem
 ·simp
 ·intro i h1 h2
  simp[keys,nth_eq h2]
theorem nth_labs_iff {K:Type} [DecidableEq K] {f:Nat→K} {n i j:Nat} (hi:i<n) (hj:j<n):nth (labs (keys f n)) i=nth (labs (keys f n)) j↔f i=f j:=by
 have e:∀k,k<n→nth (labs (keys f n)) k=(lab (keys f n) (f k):Int):=fun k hk=>by
  rw[nth_eq (by simpa using hk)]
  simp[labs,keys]
 rw[e i hi,e j hj]
 constructor
 ·intro h
  exact lab_inj (mem_keys.2 ⟨i,hi,rfl⟩) (mem_keys.2 ⟨j,hj,rfl⟩) (by omega)
 ·intro h;rw[h]
def Gen (a b:List Int) (i j:Nat):Prop:=
 ∀R:Nat→Nat→Prop,(∀i j,i<a.length→j<a.length→(nth a i=nth a j∨nth b i=nth b j)→R i j)→(∀i j,R i j→R j i)→(∀i j k,R i j→R j k→R i k)→R i j
theorem Gen.base {a b:List Int} {i j:Nat} (hi:i<a.length) (hj:j<a.length) (h:nth a i=nth a j∨nth b i=nth b j):Gen a b i j:=fun _ h1 _ _=>h1 i j hi hj h
theorem Gen.symm {a b:List Int} {i j:Nat} (h:Gen a b i j):Gen a b j i:=fun R h1 h2 h3=>h2 _ _ (h R h1 h2 h3)
theorem Gen.trans {a b:List Int} {i j k:Nat} (h:Gen a b i j) (h':Gen a b j k):Gen a b i k:=fun R h1 h2 h3=>h3 _ _ _ (h R h1 h2 h3) (h' R h1 h2 h3)
noncomputable def least (a b:List Int) (i:Nat):Nat:=Classical.epsilon (Gen a b i)
theorem least_iff {a b:List Int} {i j:Nat} (hi:i<a.length) (hj:j<a.length):least a b i=least a b j↔Gen a b i j:=by
 have gi:Gen a b i (least a b i):=Classical.epsilon_spec (p:=Gen a b i) ⟨i,.base hi hi (.inl rfl)⟩
 have gj:Gen a b j (least a b j):=Classical.epsilon_spec (p:=Gen a b j) ⟨j,.base hj hj (.inl rfl)⟩
 constructor
 ·intro h
  rw[←h]at gj
  exact gi.trans gj.symm
 ·intro h
  have:Gen a b i=Gen a b j:=by
   funext k
   exact propext ⟨fun h'=>h.symm.trans h',fun h'=>h.trans h'⟩
  unfold least
  rw[this]
noncomputable def joinS (a b:List Int):List Int:=labs (keys (least a b) a.length)
theorem joinS_of {a b r:List Int} (hr:r.length=a.length) (h:∀i j,i<a.length→j<a.length→(nth r i=nth r j↔Gen a b i j)):labs r=joinS a b:=by
 have:=keys_nth r
 rw[←this,hr]
 exact labs_congr fun i j hi hj=>by rw[h i j hi hj,least_iff hi hj]
end Go.Proofs.YtaijafjfafbcfaaGreat
namespace Go.Proofs.YtaijafjfafbcfaaGreat
theorem minF (f:Nat→Bool):∀(n k:Nat),(minT f k n= -1∧∀i,k≤i→i<k+n→f i=false)∨∃t:Nat,minT f k n=t∧k≤t∧t<k+n∧f t=true∧∀i,k≤i→i<t→f i=false
 | 0,k=>.inl ⟨rfl,fun i h1 h2=>by omega⟩
 | n+1,k=>by
  rw[show minT f k (n+1)=if f k then (k:Int) else minT f (k+1) n from rfl]
  cases h:f k with
  | true=>rw[if_pos rfl];exact .inr ⟨k,rfl,Nat.le_refl _,by omega,h,fun i h1 h2=>by omega⟩
  | false=>
   rw[if_neg (by simp)]
   rcases minF f n (k+1) with ⟨h1,h2⟩ | ⟨t,h1,h2,h3,h4,h5⟩
   ·refine .inl ⟨h1,fun i h3 h4=>?_⟩
    by_cases e1:i=k
    ·subst e1;exact h
    ·exact h2 i (by omega) (by omega)
   ·refine .inr ⟨t,h1,by omega,by omega,h4,fun i h6 h7=>?_⟩
    by_cases e1:i=k
    ·subst e1;exact h
    ·exact h5 i (by omega) (by omega)
def keyN (s:SysF) (q e:Nat):Nat:=if 0≤minT (fun f=>lkB s q e f) 0 e then (minT (fun f=>lkB s q e f) 0 e).toNat else e
theorem keyN_spec (s:SysF) (q e:Nat):(keyN s q e=e∧∀f,f<e→lkB s q e f=false)∨(keyN s q e<e∧lkB s q e (keyN s q e)=true∧∀f,f<keyN s q e→lkB s q e f=false):=by
 unfold keyN
 rcases minF (fun f=>lkB s q e f) e 0 with ⟨h1,h2⟩ | ⟨t,h1,h2,h3,h4,h5⟩
 ·rw[h1,if_neg (by omega)]
  exact .inl ⟨rfl,fun f hf=>h2 f (by omega) (by omega)⟩
 ·rw[h1,if_pos (by omega),Int.toNat_natCast]
  exact .inr ⟨by omega,h4,fun f hf=>h5 f (by omega) hf⟩
theorem keyN_lk (s:SysF) (q e:Nat):keyN s q e=e∨lkB s q e (keyN s q e)=true:=by
 rcases keyN_spec s q e with ⟨h,_⟩ | ⟨_,h,_⟩
 ·exact .inl h
 ·exact .inr h
theorem keyN_min {s:SysF} {q e g:Nat} (h:lkB s q e g=true):keyN s q e≤g:=by
 rcases keyN_spec s q e with ⟨h1,h2⟩ | ⟨h1,h2,h3⟩
 ·apply Decidable.byContradiction
  intro hn
  have:=h2 g (by omega);rw[h]at this;cases this
 ·apply Decidable.byContradiction
  intro hn
  have:=h3 g (by omega);rw[h]at this;cases this
theorem keyN_eq {s:SysF} {q e f:Nat}:keyN s q e=keyN s q f↔e=f∨lkB s q e f=true:=by
 constructor
 ·intro h
  rcases keyN_lk s q e with h1 | h1<;>rcases keyN_lk s q f with h2 | h2
  ·left;omega
  ·right;rw[←h,h1]at h2;exact lkB_symm h2
  ·right;rw[h,h2]at h1;exact h1
  ·right;rw[h]at h1;exact lkB_trans h1 (lkB_symm h2)
 ·rintro (rfl | h)
  ·rfl
  ·have a:keyN s q e≤keyN s q f:=by
    rcases keyN_lk s q f with h2 | h2
    ·rw[h2];exact keyN_min h
    ·exact keyN_min (lkB_trans h h2)
   have b:keyN s q f≤keyN s q e:=by
    rcases keyN_lk s q e with h2 | h2
    ·rw[h2];exact keyN_min (lkB_symm h)
    ·exact keyN_min (lkB_trans (lkB_symm h) h2)
   omega
def clsL (s:SysF) (q:Nat):List Int:=labs (keys (keyN s q) s.ex.length)
theorem clsL_len (s:SysF) (q:Nat):(clsL s q).length=s.ex.length:=by simp[clsL,labs,keys]
theorem clsL_eq {s:SysF} {q e f:Nat} (he:e<s.ex.length) (hf:f<s.ex.length):nth (clsL s q) e=nth (clsL s q) f↔e=f∨lkB s q e f=true:=by
 unfold clsL
 rw[nth_labs_iff he hf,keyN_eq]
theorem cls_step (s:SysF) (q k:Nat):labs (keys (keyN s q) (k+1))=labs (keys (keyN s q) k)++[(lab (keys (keyN s q) (k+1)) (keyN s q k):Int)]:=by
 rw[keys_succ,labs_snoc]
theorem cls_new {s:SysF} {q k:Nat} (h:∀f,f<k→lkB s q k f=false):lab (keys (keyN s q) (k+1)) (keyN s q k)=(firsts (keys (keyN s q) k)).length∧(firsts (keys (keyN s q) (k+1))).length=(firsts (keys (keyN s q) k)).length+1:=by
 have hn:keyN s q k∉keys (keyN s q) k:=fun hm=>by
  obtain ⟨i,hi,he⟩:=mem_keys.1 hm
  rcases keyN_eq.1 he with h1 | h1
  ·omega
  ·have:=h i hi;rw[lkB_comm,h1]at this;cases this
 rw[keys_succ,lab_new hn,firsts_new hn]
 exact ⟨rfl,by simp⟩
theorem cls_old {s:SysF} {q k e:Nat} (he:e<k) (h:lkB s q k e=true):lab (keys (keyN s q) (k+1)) (keyN s q k)=lab (keys (keyN s q) k) (keyN s q e)∧firsts (keys (keyN s q) (k+1))=firsts (keys (keyN s q) k):=by
 have hk:keyN s q k=keyN s q e:=keyN_eq.2 (.inr h)
 have hm:keyN s q k∈keys (keyN s q) k:=by rw[hk];exact mem_keys.2 ⟨e,he,rfl⟩
 rw[keys_succ,lab_snoc hm,firsts_old hm,hk]
 exact ⟨rfl,rfl⟩
theorem lab_keep {s:SysF} {q k e:Nat} (he:e<k):lab (keys (keyN s q) (k+1)) (keyN s q e)=lab (keys (keyN s q) k) (keyN s q e):=lab_keys_mono _ he
noncomputable def cmpL (s:SysF):Nat→List Int
 | 0=>clsL s 0
 | p+1=>joinS (cmpL s p) (clsL s (p+1))
inductive Cn (s:SysF) (p:Nat):Nat→Nat→Prop
 | refl (i:Nat) (hi:i<s.ex.length):Cn s p i i
 | step (i j k q:Nat) (h:Cn s p i j) (hk:k<s.ex.length) (hq:q≤p) (hl:lkB s q j k=true):Cn s p i k
theorem Cn.lt {s:SysF} {p i j:Nat} (h:Cn s p i j):i<s.ex.length∧j<s.ex.length:=by
 induction h with
 | refl hi=>exact ⟨hi,hi⟩
 | step j k q _ hk _ _ ih=>exact ⟨ih.1,hk⟩
theorem Cn.mono {s:SysF} {p p' i j:Nat} (h:Cn s p i j) (hp:p≤p'):Cn s p' i j:=by
 induction h with
 | refl hi=>exact .refl _ hi
 | step j k q _ hk hq hl ih=>exact .step _ _ _ q ih hk (by omega) hl
theorem Cn.trans {s:SysF} {p i j k:Nat} (h:Cn s p i j) (h':Cn s p j k):Cn s p i k:=by
 induction h' with
 | refl _=>exact h
 | step a b q _ hk hq hl ih=>exact .step _ _ _ q ih hk hq hl
theorem Cn.symm {s:SysF} {p i j:Nat} (h:Cn s p i j):Cn s p j i:=by
 induction h with
 | refl hi=>exact .refl _ hi
 | step a b q h0 hk hq hl ih=>exact (Cn.step b b a q (.refl _ hk) h0.lt.2 hq (lkB_symm hl)).trans ih
theorem Cn.one {s:SysF} {p q i j:Nat} (hi:i<s.ex.length) (hj:j<s.ex.length) (hq:q≤p) (hl:lkB s q i j=true):Cn s p i j:=.step i i j q (.refl _ hi) hj hq hl
theorem joinS_len (a b:List Int):(joinS a b).length=a.length:=by simp[joinS,labs,keys]
theorem joinS_eq {a b:List Int} {i j:Nat} (hi:i<a.length) (hj:j<a.length):nth (joinS a b) i=nth (joinS a b) j↔Gen a b i j:=by
 unfold joinS
 rw[nth_labs_iff hi hj,least_iff hi hj]
theorem cmpL_len (s:SysF):∀p,(cmpL s p).length=s.ex.length
 | 0=>clsL_len s 0
 | p+1=>by unfold cmpL;rw[joinS_len,cmpL_len s p]
theorem cmp_iff {s:SysF}:∀(p:Nat) {i j:Nat},i<s.ex.length→j<s.ex.length→(nth (cmpL s p) i=nth (cmpL s p) j↔Cn s p i j)
 | 0,i,j,hi,hj=>by
  rw[show cmpL s 0=clsL s 0 from rfl,clsL_eq hi hj]
  constructor
  ·rintro (rfl | h)
   ·exact .refl _ hi
   ·exact .one hi hj (Nat.le_refl _) h
  ·intro h
   have key:∀{a b:Nat},Cn s 0 a b→a=b∨lkB s 0 a b=true:=fun h=>by
    induction h with
    | refl _=>exact .inl rfl
    | step x y q _ _ hq hl ih=>
     obtain rfl:q=0:=by omega
     rcases ih with rfl | h1
     ·exact .inr hl
     ·exact .inr (lkB_trans h1 hl)
   exact key h
 | p+1,i,j,hi,hj=>by
  have hlen:=cmpL_len s p
  rw[show cmpL s (p+1)=joinS (cmpL s p) (clsL s (p+1)) from rfl,joinS_eq (by omega) (by omega)]
  constructor
  ·intro h
   exact (h (fun a b=>Cn s (p+1) a b∨(s.ex.length≤a∧s.ex.length≤b)) (fun a b ha hb hab=>by
    rw[hlen]at ha hb
    left
    rcases hab with h1 | h1
    ·exact ((cmp_iff p ha hb).1 h1).mono (by omega)
    ·rcases (clsL_eq ha hb).1 h1 with h2 | h2
     ·subst h2;exact .refl _ ha
     ·exact .one ha hb (Nat.le_refl _) h2) (fun a b hab=>by
    rcases hab with h1 | h1
    ·exact .inl h1.symm
    ·exact .inr ⟨h1.2,h1.1⟩) (fun a b c h1 h2=>by
    rcases h1 with h1 | h1<;>rcases h2 with h2 | h2
    ·exact .inl (h1.trans h2)
    ·have:=h1.lt.2;omega
    ·have:=h2.lt.1;omega
    ·exact .inr ⟨h1.1,h2.2⟩)).resolve_right (fun h1=>by omega)
  ·intro h
   have key:∀{a b:Nat},Cn s (p+1) a b→Gen (cmpL s p) (clsL s (p+1)) a b:=fun h=>by
    induction h with
    | refl ha=>exact .base (by omega) (by omega) (.inl rfl)
    | step x y q h0 hy hq hl ih=>
     have hx:=h0.lt.2
     refine ih.trans (.base (by omega) (by omega) ?_)
     by_cases e:q=p+1
     ·subst e;exact .inr ((clsL_eq hx hy).2 (.inr hl))
     ·exact .inl ((cmp_iff p hx hy).2 (.one hx hy (by omega) hl))
   exact key h
theorem cn_stp {s:SysF} {i j:Nat} (hN:0<s.N) (hi:i<s.ex.length) (hj:j<s.ex.length):Cn s (s.N - 1) i j↔0≤dstV s j i:=by
 constructor
 ·intro h
  have key:∀{a b:Nat},Cn s (s.N - 1) a b→∃d,stpB s b d a=true:=fun h=>by
   induction h with
   | refl _=>exact ⟨0,stp_zero.2 rfl⟩
   | step x y q h0 hy hq hl ih=>
    obtain ⟨d,hd⟩:=ih
    by_cases e:x=y
    ·subst e;exact ⟨d,hd⟩
    ·exact ⟨d+1,stp_add hd (stp_one hy (adjB_iff.2 ⟨byN_ne.2 ⟨q,by omega,hl⟩,e⟩))⟩
  obtain ⟨d,hd⟩:=key h
  rcases dst_spec j hi with ⟨_,h1⟩ | ⟨k,h1,_⟩
  ·rw[h1 d]at hd;cases hd
  ·omega
 ·intro h
  rcases dst_spec j hi with ⟨h1,_⟩ | ⟨k,h1,h2⟩
  ·omega
  ·have key:∀(k a:Nat),a<s.ex.length→stpB s j k a=true→Cn s (s.N - 1) a j:=by
    intro k
    induction k with
    | zero=>intro a ha h;rw[stp_zero]at h;subst h;exact .refl _ ha
    | succ k ih=>
     intro a ha h
     obtain ⟨g,hg,h3,h4⟩:=stp_succ.1 h
     obtain ⟨q,hq,hl⟩:=byN_ne.1 (adjB_iff.1 h3).1
     exact (Cn.one ha hg (by omega) hl).trans (ih g hg h4)
   exact key k i hi h2.1
end Go.Proofs.YtaijafjfafbcfaaGreat
