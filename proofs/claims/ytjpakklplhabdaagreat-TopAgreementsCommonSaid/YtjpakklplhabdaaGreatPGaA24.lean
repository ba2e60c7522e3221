/- Part of the proof that the laws answer true for every input. -/
import Derived.Test.YtjpakklplhabdaaGreatPGaA22
import Derived.Test.YtjpakklplhabdaaGreatPGaA23
set_option linter.unusedSimpArgs false
set_option linter.unnecessarySimpa false
set_option linter.unusedVariables false
set_option maxRecDepth 100000
set_option maxHeartbeats 40000000
namespace Go.Proofs.YtjpakklplhabdaaGreat
open Go.RowKit Go.Maps
attribute [local go_sem ↓] Go.wp_at_zero Go.wp_at_succ
def kInts:Kd (List Int) where
  size:=1
  rd S w cs l:=∃v,cs=[v]∧Ints S w v l
  agree h hw:=by obtain ⟨v,e,h⟩:=h;exact ⟨v,e,h.agree hw⟩
  mono h hS:=by obtain ⟨v,e,h⟩:=h;exact ⟨v,e,h.mono hS⟩
  block h:=by obtain ⟨v,e,h⟩:=h;exact ⟨v,e,h.block 0⟩
  len h:=by obtain ⟨v,rfl,_⟩:=h;rfl
  one h u hu:=by
    obtain ⟨v,rfl,h⟩:=h
    obtain ⟨a,cap,rfl,_⟩:=h.form
    obtain rfl:=List.mem_singleton.1 hu
    rfl
theorem Lists.of_sl {S:Nat→Prop} {w:World} {v:Value} {l:List (List Int)} (h:Sl kInts S w v l):Lists S w v l:=by
  obtain ⟨a,cap,rfl,ha,h1,h2,hc⟩:=h
  refine ⟨a,cap,rfl,ha,h1,h2.1,fun k hk=>?_⟩
  obtain ⟨cs,h3,v,rfl,h4⟩:=hc k hk
  refine ⟨v,?_,by rw[zM hk];exact h4⟩
  have:=h3 0 (by show 0<1;omega)
  simpa[kInts] using this
def PR (N0 BB MB:Nat) (W:World) (vv:Value) (b:Nat):Prop:=N0≤b∧b<W.heap.size∧keepsB BB MB vv b
theorem PR.next {N0 BB MB b:Nat} {W W':World} {vv vv':Value} (h:PR N0 BB MB W vv b) (hs:W.heap.size≤W'.heap.size) (hg:∀g,vv'.ownBlock=some g→vv.ownBlock=some g∨W.heap.size≤g):PR N0 BB MB W' vv' b:=
  ⟨h.1,Nat.lt_of_lt_of_le h.2.1 hs,h.2.2.1,h.2.2.2.1,fun e=>by
    rcases hg b e with h1 | h1
    · exact h.2.2.2.2 h1
    · have:=h.2.1;omega⟩
theorem PR.same {N0 BB MB b:Nat} {W W':World} {vv:Value} (h:PR N0 BB MB W vv b) (hs:W.heap.size≤W'.heap.size):PR N0 BB MB W' vv b:=h.next hs fun g hg=>.inl hg
theorem BSt.agree {B BB MB:Nat} {n:Int} {W W':World} {vv:Value} {tab:List (List Int)} {T:Nat→Prop} (h:BSt B BB MB n W vv tab) (hA:Agree T W W') (h1:T BB) (h2:T MB) (h3:∀g,vv.ownBlock=some g→T g):BSt B BB MB n W' vv tab:=
  ⟨h.row.agree hA h1,h.own.agree hA h3 fun b hb=>hb.elim,h.map.agree hA h2,h.ok,h.og,h.bm⟩
theorem BSt.fresh {B BB MB:Nat} {n:Int} {W:World} {vv:Value} {tab:List (List Int)} (h:BSt B BB MB n W vv tab) {g:Nat} (hg:W.heap.size≤g):keepsB BB MB vv g:=
  ⟨by have:=h.row.lt;omega,by have:=h.map.lt;omega,fun e=>by have:=(h.own.lt g e).2;omega⟩
theorem BSt.low {B BB MB:Nat} {n:Int} {W:World} {vv:Value} {tab:List (List Int)} (h:BSt B BB MB n W vv tab) {g:Nat} (hg:g<B):keepsB BB MB vv g:=
  ⟨by have:=h.bm;omega,by have:=h.bm;omega,fun e=>by have:=(h.own.lt g e).1;omega⟩
structure PE (B BB MB:Nat) (n:Int) (X:Nat) (W0:World) (vv0:Value) (W:World) (vv:Value) (tab:List (List Int)):Prop where
  ag:Agree (fun b=>keepsB BB MB vv0 b∧b≠X) W0 W
  be:Below B W0 W
  st:BSt B BB MB n W vv tab
  og:∀g,vv.ownBlock=some g→vv0.ownBlock=some g∨W0.heap.size≤g
section
variable {B BB MB X:Nat} {n:Int} {W0 W W':World} {vv0 vv:Value} {tab tab':List (List Int)}
theorem PE.start (h:BSt B BB MB n W vv tab):PE B BB MB n X W vv W vv tab:=⟨.refl _ _,.refl _ _,h,fun g hg=>.inl hg⟩
theorem PE.ext (h:PE B BB MB n X W0 vv0 W vv tab) (hB:B≤W0.heap.size) (hb:Below W.heap.size W W'):PE B BB MB n X W0 vv0 W' vv tab:=
  ⟨h.ag.trans (.of_ext hb),h.be.trans (hb.mono (Nat.le_trans hB h.be.size)),h.st.ext hb,h.og⟩
theorem PE.add (h:PE B BB MB n X W0 vv0 W vv tab) (he:BEnd B BB MB n W vv tab' W'):∃vv',PE B BB MB n X W0 vv0 W' vv' tab'∧Agree (keepsB BB MB vv) W W'∧∀g,vv'.ownBlock=some g→vv.ownBlock=some g∨W.heap.size≤g:=by
  obtain ⟨vv',h1,h2,h3,h4⟩:=he
  refine ⟨vv',⟨⟨Nat.le_trans h.ag.size h1.size,fun b hb hlt=>?_⟩,h.be.trans h2,h3,fun g hg=>?_⟩,h1,h4⟩
  · refine (h1.block b ⟨hb.1.1,hb.1.2.1,fun e=>?_⟩ (Nat.lt_of_lt_of_le hlt h.ag.size)).trans (h.ag.block b hb hlt)
    rcases h.og b e with e1 | e1
    · exact hb.1.2.2 e1
    · omega
  · rcases h4 g hg with e | e
    · exact h.og g e
    · exact .inr (Nat.le_trans h.ag.size e)
theorem PE.set (h:PE B BB MB n X W0 vv0 W vv tab) (hX:keepsB BB MB vv X) (hB:B≤X) (j:Nat) (u:Value):PE B BB MB n X W0 vv0 (W.setCell ⟨X,j,none⟩ u) vv tab:=by
  have hA:Agree (fun b=>b≠X) W (W.setCell ⟨X,j,none⟩ u):=.of_grown (zj _ _ _ _) fun b hb e=>hb (by cases e;rfl)
  exact ⟨h.ag.trans (hA.mono fun b hb=>hb.2),h.be.setCell (by simpa using hB) _,h.st.agree hA (fun e=>hX.1 e.symm) (fun e=>hX.2.1 e.symm) fun g hg e=>hX.2.2 (by rw[←e];exact hg),h.og⟩
theorem PE.trans {X':Nat} {W2:World} {vv2:Value} {tab2:List (List Int)} (h:PE B BB MB n X W0 vv0 W vv tab) (h2:PE B BB MB n X' W vv W2 vv2 tab2) (hX:W0.heap.size≤X'):PE B BB MB n X W0 vv0 W2 vv2 tab2:=by
  refine ⟨⟨Nat.le_trans h.ag.size h2.ag.size,fun b hb hlt=>?_⟩,h.be.trans h2.be,h2.st,fun g hg=>?_⟩
  · refine (h2.ag.block b ⟨⟨hb.1.1,hb.1.2.1,fun e=>?_⟩,by omega⟩ (Nat.lt_of_lt_of_le hlt h.ag.size)).trans (h.ag.block b hb hlt)
    rcases h.og b e with e1 | e1
    · exact hb.1.2.2 e1
    · omega
  · rcases h2.og g hg with e | e
    · exact h.og g e
    · exact .inr (Nat.le_trans h.ag.size e)
theorem PE.size (h:PE B BB MB n X W0 vv0 W vv tab):W0.heap.size≤W.heap.size:=h.ag.size
end
theorem Zr (b off:Nat) {p:Nat} (hp:p<5) (W:World):
    (Instr.indexAt 63 (.pointer (some ⟨b,off,none⟩)) (.int .i64 p)).run Tryz.prog W=.ok (.pointer (some ⟨b,off+p,none⟩)) W:=by
  obtain ⟨i,hi,hz1,hz2,hz3⟩:=info_parts zC
  have hA:=Tryz.underlying63
  have hE:Tryz.prog.elem 63=3:=by simp[Program.elem,hA]
  have hL:Tryz.prog.arrayLen 63=5:=by simp[Program.arrayLen,hA]
  rw[run_indexAt_array W _ _ _ _ (by rw[hE,hL];exact hA),hL,hE,if_pos (by omega)]
  simp[sizeOf,typeInfo,hi,hz2,Result.andThen,Addr.add]
theorem XM (g n c:Nat) {k:Nat} (hk:k<n) (W:World):(Instr.indexAt 30 (.slice (some ⟨g,0,none⟩) n c) (.int .i64 k)).run Tryz.prog W=.ok (.pointer (some ⟨g,k,none⟩)) W:=by
  obtain ⟨i,hi,_,h1,_⟩:=info_parts zC
  rw [run_indexAt_slice W _ _ n c .i64 k (by have : Tryz.prog.elem 30 = 3 := by simp [Program.elem, Tryz.underlying30]
                                             rw[this];exact Tryz.underlying30),if_pos (by omega)]
  simp[Program.elem,Tryz.underlying30,sizeOf,typeInfo,hi,h1,Result.andThen,Addr.add]
  try omega
theorem zaw:(Tryz.prog.info? 67).map (·.size)=some 7:=by kernel_rfl
theorem qv {S:Nat→Prop} {w:World} {a:Option Addr} {n cap:Nat} (h:Ad S w a n cap):∀k:Nat,k<n→∀W:World,(Instr.indexAt 46 (.slice a n cap) (.int .i64 k)).run Tryz.prog W=.ok (.pointer (some (adr a (k * 7)))) W:=by
  have h7:=zaw
  cases hi:Tryz.prog.info? 67 with
  | none=>rw[hi]at h7;cases h7
  | some i=>
    rw[hi]at h7
    exact zJ Tryz.underlying46 hi (by simpa using h7) h
def layR (mk:Nat→List Int) (t:List (List Int)) (N k:Nat):List Value:=((layV mk t k).2++List.replicate (N - k) 0).map (Value.int .i64)
theorem XE (mk:Nat→List Int) (t:List (List Int)) (N:Nat):layR mk t N 0=(List.replicate N (0:Int)).map (Value.int .i64):=by unfold layR layV;simp
theorem zcB {mk:Nat→List Int} {t:List (List Int)} {N k:Nat} (h:k<N):(layR mk t N k).set k (.int .i64 (idxV (layV mk t k).1 (mk k):Nat))=layR mk t N (k+1):=by
  unfold layR
  rw[←List.map_set]
  congr 1
  have hl:=zT mk t k
  have hr:List.replicate (N - k) (0:Int)=0::List.replicate (N - (k+1)) 0:=by rw[←List.replicate_succ];congr 1;omega
  rw[hr,List.set_append_right _ _ (by omega),hl,Nat.sub_self,zsz]
  show _=(layV mk t k).2++[_]++_
  rw[List.append_assoc];rfl
theorem QJ (mk:Nat→List Int) (t:List (List Int)) (N:Nat):layR mk t N N=(layV mk t N).2.map (Value.int .i64):=by unfold layR;simp
theorem zdJ {mk:Nat→List Int} {t:List (List Int)} {N k:Nat} (h:k<N):(layR mk t N k)[k]? =some (.int .i64 0):=by
  unfold layR
  rw[List.getElem?_map,List.getElem?_append_right (by rw[zT];omega),zT,Nat.sub_self]
  have hr:List.replicate (N - k) (0:Int)=0::List.replicate (N - (k+1)) 0:=by rw[←List.replicate_succ];congr 1;omega
  rw[hr];rfl
theorem yx (mk:Nat→List Int) {t:List (List Int)} {M:Nat} (ht:t.length≤M):∀q,∀x∈(layV mk t q).2,0≤x∧x<(M:Int)+q
  | 0,x,h=>by simp[layV]at h
  | q+1,x,h=>by
    unfold layV at h
    rcases List.mem_append.1 h with h | h
    · have:=yx mk ht q x h;omega
    · rw[List.mem_singleton.1 h]
      have h1:=XL (layV mk t q).1 (mk q)
      have h2:=yC mk t q
      omega
theorem qd (n:Nat) (inn:List Int) (word:List (List Int)) {t:List (List Int)} {M:Nat} (ht:t.length≤M):∀k,∀l∈(playV n inn word t k).2,l.length=n∧∀x∈l,0≤x∧x<(M:Int)+n * (k+1)
  | 0,l,h=>by
    unfold playV at h
    rw[List.mem_singleton.1 h]
    refine ⟨zT _ _ _,fun x hx=>?_⟩
    have:=yx (fun q=>firstV q (nth inn q)) ht n x hx
    simp;omega
  | k+1,l,h=>by
    unfold playV at h
    have e:(n:Int) * ((k+1:Nat)+1)=n * (k+1)+n:=by rw[Int.mul_add];simp
    rcases List.mem_append.1 h with h | h
    · obtain ⟨h1,h2⟩:=qd n inn word ht k l h
      refine ⟨h1,fun x hx=>?_⟩
      have:=h2 x hx
      omega
    · rw[List.mem_singleton.1 h]
      refine ⟨zT _ _ _,fun x hx=>?_⟩
      have hs:=yA n inn word t k
      have h1:(playV n inn word t k).1.length≤M+n * (k+1):=by omega
      have:=yx (fun q=>seenV (nthL word k) n (k+1) q (nthL (playV n inn word t k).2 k)) h1 n x hx
      have e2:((M+n * (k+1):Nat):Int)=M+n * (k+1):=by simp
      omega
theorem zbd {g:List Int} {j k p:Nat} {prev:List Int} (hj:j<5):(if (nth g (p+1)).toNat.testBit j=true then (seenV g j k p prev).set (3+j) (nth prev j) else seenV g j k p prev)=seenV g (j+1) k p prev:=by
  have h5:j=0∨j=1∨j=2∨j=3∨j=4:=by omega
  rcases h5 with rfl | rfl | rfl | rfl | rfl<;>unfold seenV heardV<;>split<;>rename_i h<;>simp[h]
theorem zbG (g:List Int) (k p:Nat) (prev:List Int):seenV g 0 k p prev=[(p:Int),(k:Int),0, -1, -1, -1, -1, -1]:=by unfold seenV heardV;simp
theorem zc2 {g prev:List Int} {n q r:Nat} (h:∀x∈prev,WF x):WF (heardV g n q prev r):=by
  unfold heardV
  split
  · exact zd4 h r
  · exact WF.small (by omega)
theorem zaK {g prev:List Int} {n k q:Nat} (h:∀x∈prev,WF x) (hk:k≤1000) (hq:q≤1000):ViewOK (seenV g n k q prev):=by
  refine ⟨rfl,fun y hy=>?_⟩
  unfold seenV at hy
  simp only[List.mem_cons,List.not_mem_nil,or_false]at hy
  rcases hy with rfl | rfl | rfl | rfl | rfl | rfl | rfl | rfl
  · exact WF.small (by omega)
  · exact WF.small (by omega)
  · exact WF.small (by omega)
  all_goals exact zc2 h
theorem XC {q:Nat} {x:Int} (h:WF x) (hq:q≤1000):ViewOK (firstV q x):=by
  refine ⟨rfl,fun y hy=>?_⟩
  unfold firstV at hy
  simp only[List.mem_cons,List.not_mem_nil,or_false]at hy
  rcases hy with rfl | rfl | rfl | rfl | rfl | rfl | rfl | rfl
  · exact WF.small (by omega)
  · exact WF.small (by omega)
  · exact h
  all_goals exact WF.small (by omega)
section
variable {B BB MB X:Nat} {n:Int} {W0 W W':World} {vv0 vv:Value} {tab tab':List (List Int)}
theorem PE.move (h:PE B BB MB n X W0 vv0 W vv tab) {T:Nat→Prop} (hA:Agree T W W') (hb:Below B W W') (h1:T BB) (h2:T MB) (h3:∀g,vv.ownBlock=some g→T g) (h4:∀b,b<W0.heap.size→keepsB BB MB vv0 b∧b≠X→T b):PE B BB MB n X W0 vv0 W' vv tab:=
  ⟨⟨Nat.le_trans h.ag.size hA.size,fun b hb hlt=>(hA.block b (h4 b hlt hb) (Nat.lt_of_lt_of_le hlt h.ag.size)).trans (h.ag.block b hb hlt)⟩,h.be.trans hb,h.st.agree hA h1 h2 h3,h.og⟩
theorem zaY {N0 N k:Nat} {f:Nat→List Int} {v:List Int} {w2 w3:World} {tb:List (List Int)} (hB:B≤W0.heap.size) (hBX:B≤X) (h:PE B BB MB n X W0 vv0 W vv (layV f tb k).1) (R:Row W X 3 (layR f tb N k)) (Q:PR N0 BB MB W vv X) (hk:k<N)
    (hw:Below W.heap.size W w2) (hv:v=f k) (he:BEnd B BB MB n w2 vv (addV (layV f tb k).1 v) w3):∃vv3,Agree (fun b=>keepsB BB MB vv0 b∧b≠X) W0 w3∧w3.cell? ⟨X,k,none⟩=some (.int .i64 0)∧w3.frozen? ⟨X,k,none⟩=false∧X<w3.heap.size∧
      PE B BB MB n X W0 vv0 (w3.setCell ⟨X,k,none⟩ (.int .i64 (idxV (layV f tb k).1 v:Nat))) vv3 (layV f tb (k+1)).1∧Row (w3.setCell ⟨X,k,none⟩ (.int .i64 (idxV (layV f tb k).1 v:Nat))) X 3 (layR f tb N (k+1))∧PR N0 BB MB (w3.setCell ⟨X,k,none⟩ (.int .i64 (idxV (layV f tb k).1 v:Nat))) vv3 X:=by
  subst hv
  obtain ⟨vv3,P3,A3,g3⟩:=(h.ext hB hw).add he
  have Q3:=(Q.same hw.size).next A3.size g3
  have R3:=(R.ext hw).agree A3 (Q.same hw.size).2.2
  have hs:w3.heap.size≤(w3.setCell ⟨X,k,none⟩ (.int .i64 (idxV (layV f tb k).1 (f k):Nat))).heap.size:=(zj w3 X k _).size
  refine ⟨vv3,P3.ag,R3.cell (zdJ hk),R3.free k,R3.lt,P3.set Q3.2.2 hBX k _,?_,Q3.same hs⟩
  rw[←zcB hk]
  exact R3.set k _
end
theorem OwnK.slS {α:Type} {K:Kd α} {e:TypeId} {base:Nat} {S:Nat→Prop} {w:World} {v:Value} {l:List α} (h:OwnK K e base S w v l) (hn:l.length≤140737488355328) (hS:∀q,v.ownBlock=some q→S q):Sl K S w v l:=by
  obtain ⟨xs,ho,hr⟩:=h
  rcases ho.2 with ⟨rfl,hn0⟩ | ⟨g,cap,cur,rfl,hb,hg,hnc,hcm,_⟩
  · have:l=[]:=by simpa using hn0
    subst this
    exact Sl.nil _ _ _
  · refine ⟨_,cap,rfl,.inr ⟨g,0,rfl,(Array.getElem?_eq_some_iff.1 hg).1,hS g rfl⟩,hnc,⟨hcm,hn⟩,fun j hj=>⟨zzpart xs j K.size,fun i hi=>?_,K.mono (hr j hj) fun b hb=>hb.1⟩⟩
    have hlx:xs.length=l.length * K.size:=ho.1
    have hlt:j * K.size+i<xs.length:=by
      have:(j+1) * K.size≤l.length * K.size:=Nat.mul_le_mul_right _ hj
      rw[Nat.add_mul,Nat.one_mul]at this
      omega
    rw[yf hi,zZ,Nat.zero_add,ho.cellAt (j * K.size+i) (by omega)]
theorem za5 {S:Nat→Prop} {w:World} {g N:Nat} {l:List Int} (R:Row w g 3 (l.map (Value.int .i64))) (hl:l.length=N) (hN:N≤1000000) (hw:∀x∈l,WF x) (hS:S g):kInts.rd S w [.slice (some ⟨g,0,none⟩) N N] l:=by
  subst hl
  exact ⟨_,rfl,(R.ints (by unfold maxLen;omega) hw).mono fun b hb=>by rw[hb];exact hS⟩
theorem zed {S:Nat→Prop} {w:World} {base g:Nat} {e:TypeId} {u:Value} {l:List Int} (R:Row w g e [u]) (hb:base≤g) (hr:kInts.rd (fun b=>S b∧b≠g) w [u] l):OwnK kInts e base S w (.slice (some ⟨g,0,none⟩) 1 1) [l]:=by
  refine ⟨[u],R.ownsW hb rfl (by decide),fun j hj=>?_⟩
  obtain rfl:j=0:=by simpa using hj
  have hp:zzpart [u] 0 kInts.size=[u]:=zdS rfl
  rw[hp]
  exact kInts.mono hr fun b hb=>⟨hb.1,fun e=>hb.2 (by simpa[Value.ownBlock] using e.symm)⟩
theorem OwnK.slot {α:Type} {K:Kd α} {e:TypeId} {base:Nat} {S S':Nat→Prop} {w w':World} {v:Value} {l:List α} {T:Nat→Prop} (h:OwnK K e base S w v l) (hw:Agree T w w') (h1:∀k,v.ownBlock=some k→T k) (h2:∀b,S b→T b) (h3:∀b,S b→S' b):OwnK K e base S' w' v l:=
  (h.agree hw h1 h2).mono h3
end Go.Proofs.YtjpakklplhabdaaGreat
namespace Go.Proofs.YtjpakklplhabdaaGreat
open Go.RowKit Go.Maps
attribute [local go_sem ↓] Go.wp_at_zero Go.wp_at_succ
structure PlayH (B BB MB:Nat) (N:Nat) (W:World) (vv:Value) (tab:List (List Int)) (S:Nat→Prop) (inn:List Int) (word:List (List Int)):Prop where
 st:BSt B BB MB (N:Int) W vv tab
 n1:1≤N
 n5:N≤5
 hB:B≤W.heap.size
 len:inn.length=N
 low:∀b,S b→b<B
 bit:∀r∈word,∀q,q<5→0≤nth r (q+1)∧nth r (q+1)<32
 few:word.length≤6
 room:tab.length≤90000
theorem za9 {B BB MB:Nat} {N:Nat} {W:World} {vv vin vw:Value} {tab:List (List Int)} {S:Nat→Prop} {inn:List Int} {word:List (List Int)} (h:PlayH B BB MB N W vv tab S inn word) (hin:Ints S W vin inn) (hwd:Sl (kFlat 7) S W vw word):
  Calls Tryz.prog 33 #[.pointer (some ⟨BB,0,none⟩),vin,vw] W (fun e W'=>∃rv vv',e=.returned rv∧PE B BB MB (N:Int) W.heap.size W vv W' vv' (playV N inn word tab word.length).1∧Lists (PR W.heap.size BB MB W' vv') W' rv (playV N inn word tab word.length).2):=by
 obtain ⟨ia,ic,rfl,iad,_⟩:=hin.form
 obtain ⟨wa,wc,rfl,wad,_⟩:=hwd.form2
 obtain ⟨i0,hi,hz0,hz1,hz2⟩:=info_parts zC
 obtain ⟨hst,hn1,hn5,hB,hlen,hlow,hbit,hfew,hroom⟩:=h
 have HS:=zhd hst
 have HI:=zhd hin
 have HW:=zhd hwd
 have HIA:=zhd iad
 have HBIT:=zhd hbit
 have HWF:=zhd hin.wf
 have HLEN:=zhd hlen
 have HNB0:=hst.bm
 have b0:=hst.row.zc 0 rfl
 have hBBl:=hst.row.lt
 obtain ⟨NB,hNB⟩:∃NB,NB=W.heap.size:=⟨_,rfl⟩
 have HLOW:Hid (∀b,S b→keepsB BB MB vv b∧b≠NB):=zhd fun b hb=>⟨hst.low (hlow b hb),by have:=hlow b hb;omega⟩
 clear hst hin hwd hbit hlow iad wad
 go_enter Tryz.func33,Tryz.ntmps33
 go_wp2_with (at_make;refine wpList_make_full _ rfl _ _ 30 rfl W.heap.size 3 i0 (.int .i64 0) 1 Tryz.underlying30 hi hz0 hz1 .i64 .i64 _ _ N rfl rfl rfl rfl (by rw[hz2];omega) (by unfold maxLen;omega) (Nat.le_refl _) ?_;intro w1 hown1 hgrow1;have hbw:Below W.heap.size W w1:=(Below.refl _ W).grown hgrow1 (Nat.le_refl _) (fun j hj=>by cases hj);have hmc:(madeCells #[Value.int .i64 0] (N * 1)).toList=layR (fun q=>firstV q (nth inn q)) tab N 0:=(by rw[Nat.mul_one,XE,List.map_replicate];exact (toList_madeCells_one _ _));have RN:=(Row.of_own hown1).1.get hmc)
 have hs1:NB<w1.heap.size:=by rw[hNB];exact RN.lt
 have HPE:Hid (PE B BB MB (N:Int) NB W vv w1 vv tab):=zhd ((PE.start HS.out).ext hB hbw)
 have HPR:Hid (PR NB BB MB w1 vv NB):=zhd ⟨Nat.le_refl _,hs1,HS.out.fresh (by omega)⟩
 rw[←hNB]at RN hbw ⊢
 have HNB:=zhd hNB
 clear hNB hown1 hgrow1 hmc hs1 b0 hBBl
 go_loopw [8,24] (fun _ i wr=>∃(k:Nat) (vv':Value),k≤N∧i=.int .i64 k∧Hid (PE B BB MB (N:Int) NB W vv wr vv' (layV (fun q=>firstV q (nth inn q)) tab k).1)∧Hid (Row wr NB 3 (layR (fun q=>firstV q (nth inn q)) tab N k))∧Hid (PR NB BB MB wr vv' NB)) (fun _ i _=>N - (intOf i).toNat)
 case atStart=>exact ⟨0,vv,Nat.zero_le _,rfl,HPE,zhd RN,HPR⟩
 case round=>
  clear HPE RN HPR hbw
  obtain ⟨k,vv1,hk,rfl,HPE,HRN,HPR⟩:=hrel
  by_cases hlt:k<N
  case neg=>
   obtain rfl:k=N:=by omega
   have P0:=HPE.out
   have hR0:=HRN.out
   rw[QJ]at hR0
   have hLl:=zT (fun q=>firstV q (nth inn q)) tab k
   have hLw:∀x∈(layV (fun q=>firstV q (nth inn q)) tab k).2,WF x:=fun x hx=>by have:=yx (fun q=>firstV q (nth inn q)) (Nat.le_refl _) k x hx;exact WF.small (by omega)
   have RO:=ze wr [.slice (some ⟨NB,0,none⟩) k k] 30
   have hNw:=HPR.out.2.1
   have Pa:=HPR.out.same (zb wr (.cells #[.slice (some ⟨NB,0,none⟩) k k] 30)).size
   have HO:Hid (OwnK kInts 30 NB (PR NB BB MB (wr.alloc (.cells #[.slice (some ⟨NB,0,none⟩) k k] 30)) vv1) (wr.alloc (.cells #[.slice (some ⟨NB,0,none⟩) k k] 30)) (.slice (some ⟨wr.heap.size,0,none⟩) 1 1) [(layV (fun q=>firstV q (nth inn q)) tab k).2]):=zhd (zed RO (by omega) (za5 (hR0.alloc _) hLl (by omega) hLw ⟨Pa,by omega⟩))
   have HOO:Hid (PR NB BB MB (wr.alloc (.cells #[.slice (some ⟨NB,0,none⟩) k k] 30)) vv1 wr.heap.size):=zhd ⟨by omega,by simp,P0.st.fresh (Nat.le_refl _)⟩
   have HG:Hid (Row (wr.alloc (.cells #[.slice (some ⟨NB,0,none⟩) k k] 30)) NB 3 ((layV (fun q=>firstV q (nth inn q)) tab k).2.map (Value.int .i64))∧PR NB BB MB (wr.alloc (.cells #[.slice (some ⟨NB,0,none⟩) k k] 30)) vv1 NB):=zhd ⟨hR0.alloc _,Pa⟩
   have HP1:Hid (PE B BB MB (k:Int) NB W vv (wr.alloc (.cells #[.slice (some ⟨NB,0,none⟩) k k] 30)) vv1 (playV k inn word tab 0).1):=zhd (P0.ext hB (zb _ _))
   clear P0 hR0 hLl hLw RO hNw Pa HPE HRN HPR hlt hk
   go_wp2
   obtain ⟨OB,hOB⟩:∃OB,OB=wr.heap.size:=⟨_,rfl⟩
   obtain ⟨w4,hw4⟩:∃w4,w4=wr.alloc (.cells #[.slice (some ⟨NB,0,none⟩) k k] 30):=⟨_,rfl⟩
   rw[←hOB]at HO HOO
   rw[←hOB]
   rw[←hw4]at HO HOO HG HP1
   rw[←hw4]
   clear hOB hw4
   go_loopw [7,9,10,11,12,13,14,15,16,44,56,66] (fun nv ov _ _ _ _ _ _ _ i _ _ wr=>∃(m:Nat) (vv':Value) (g:Nat) (oa:Option Addr) (oc:Nat),m≤word.length∧i=.int .i64 m∧nv=.slice (some ⟨g,0,none⟩) k k∧ov=.slice oa (m+1) oc∧Hid (PE B BB MB (k:Int) NB W vv wr vv' (playV k inn word tab m).1)∧Hid (Row wr g 3 ((nthL (playV k inn word tab m).2 m).map (Value.int .i64))∧PR NB BB MB wr vv' g)∧Hid (OwnK kInts 30 NB (PR NB BB MB wr vv') wr (.slice oa (m+1) oc) (playV k inn word tab m).2)∧Hid (∀q,(Value.slice oa (m+1) oc).ownBlock=some q→PR NB BB MB wr vv' q)) (fun _ _ _ _ _ _ _ _ _ i _ _ _=>word.length - (intOf i).toNat)
   case atStart=>exact ⟨0,vv1,NB,some ⟨OB,0,none⟩,1,Nat.zero_le _,rfl,rfl,rfl,HP1,HG,HO,zhd fun q hq=>by have:OB=q:=(by simpa[Value.ownBlock] using hq);rw[←this];exact HOO.out⟩
   case round=>
    clear HO HOO HG HP1
    obtain ⟨m,vv1,g,oa,oc,hm,rfl,rfl,rfl,HP,HG,HO,HOO⟩:=hrel
    by_cases hmt:m<word.length
    case neg=>
     obtain rfl:m=word.length:=by omega
     go_wp2
     go_ret
     rw[←HNB.out]
     exact ⟨_,vv1,rfl,HP.out,Lists.of_sl (HO.out.slS (by rw[yR];omega) HOO.out)⟩
    obtain ⟨r,hr⟩:∃r,r=nthL word m:=⟨_,rfl⟩
    have HRR:=zhd hr
    have qw:=(qv (HW.out.ad.1.agree (HP.out.ag.mono HLOW.out)) m hmt)
    obtain ⟨hw0,hw7⟩:=(HW.out.agree (HP.out.ag.mono HLOW.out)).nums hmt (by decide)
    rw[←hr]at hw0 hw7
    have c1:=hw7 1 (by decide)
    have c2:=hw7 2 (by decide)
    have c3:=hw7 3 (by decide)
    have c4:=hw7 4 (by decide)
    have c5:=hw7 5 (by decide)
    have c6:=hw7 6 (by decide)
    have HBR:Hid (∀q,q<5→0≤nth r (q+1)∧nth r (q+1)<32):=zhd (by rw[hr];exact HBIT.out _ (yl hmt))
    have hNw:NB≤wr.heap.size:=by have:=HG.out.2.2.1;have:=HG.out.2.1;omega
    have HRB0:Hid (Row (wr.alloc (.cells #[.int .i64 (nth r 0),.int .i64 (nth r 1),.int .i64 (nth r 2),.int .i64 (nth r 3),.int .i64 (nth r 4),.int .i64 (nth r 5),.int .i64 (nth r 6)] 67)) wr.heap.size 67 [.int .i64 (nth r 0),.int .i64 (nth r 1),.int .i64 (nth r 2),.int .i64 (nth r 3),.int .i64 (nth r 4),.int .i64 (nth r 5),.int .i64 (nth r 6)]):=zhd (ze _ [_,_,_,_,_,_,_] _)
    have b0:=(HP.out.st.row.alloc (.cells #[.int .i64 (nth r 0),.int .i64 (nth r 1),.int .i64 (nth r 2),.int .i64 (nth r 3),.int .i64 (nth r 4),.int .i64 (nth r 5),.int .i64 (nth r 6)] 67)).zc 0 rfl
    have hBl:=HP.out.st.row.lt
    clear hw7 hr
    go_wp2_with (at_make;refine wpList_make_full _ rfl _ _ 30 rfl (wr.heap.size+1) 3 i0 (.int .i64 0) 1 Tryz.underlying30 hi hz0 hz1 .i64 .i64 _ _ k rfl rfl rfl rfl (by rw[hz2];omega) (by unfold maxLen;omega) (by simp) ?_;intro w5 hown5 hgrow5;clear b0 qw c1 c2 c3 c4 c5 c6 hw0)
    have hb5:Below wr.heap.size wr w5:=((Below.refl _ wr).alloc (Nat.le_refl _) _).grown hgrow5 (by simp) (fun j hj=>by cases hj)
    have hb5':Below (wr.heap.size+1) (wr.alloc (.cells #[.int .i64 (nth r 0),.int .i64 (nth r 1),.int .i64 (nth r 2),.int .i64 (nth r 3),.int .i64 (nth r 4),.int .i64 (nth r 5),.int .i64 (nth r 6)] 67)) w5:=(Below.refl _ _).grown hgrow5 (by simp) (fun j hj=>by cases hj)
    obtain ⟨prev,hprev⟩:∃prev,prev=nthL (playV k inn word tab m).2 m:=⟨_,rfl⟩
    obtain ⟨tm,htm⟩:∃tm,tm=(playV k inn word tab m).1:=⟨_,rfl⟩
    obtain ⟨outl,hol⟩:∃outl,outl=(playV k inn word tab m).2:=⟨_,rfl⟩
    have HEND:Hid ((playV k inn word tab (m+1)).1=(layV (fun q=>seenV r k (m+1) q prev) tm k).1∧(playV k inn word tab (m+1)).2=outl++[(layV (fun q=>seenV r k (m+1) q prev) tm k).2]∧nthL (playV k inn word tab (m+1)).2 (m+1)=(layV (fun q=>seenV r k (m+1) q prev) tm k).2):=zhd (by
     have e2:(playV k inn word tab (m+1)).2=outl++[(layV (fun q=>seenV r k (m+1) q prev) tm k).2]:=by rw[hol,htm,hprev,HRR.out];rfl
     refine ⟨by rw[htm,hprev,HRR.out];rfl,e2,?_⟩
     rw[e2]
     have hol2:outl.length=m+1:=by rw[hol,yR]
     unfold nthL
     rw[←hol2,List.getD_eq_getElem?_getD,List.getElem?_append_right (Nat.le_refl _),Nat.sub_self];rfl)
    have HOL:Hid (outl.length=m+1∧tm.length≤90000+k * (m+1)∧prev.length=k∧∀x∈prev,WF x):=zhd (by
     have hb:=qd k inn word (Nat.le_refl tab.length) m prev (by rw[hprev];exact yl (by rw[yR];omega))
     have hsz:=yA k inn word tab m
     have hkm:k * (m+1)≤5 * 7:=Nat.mul_le_mul (by omega) (by omega)
     have e3:(k:Int) * ((m:Int)+1)=((k * (m+1):Nat):Int):=by simp
     refine ⟨by rw[hol,yR],by rw[htm];omega,hb.1,fun x hx=>?_⟩
     have:=hb.2 x hx
     exact WF.small (by omega))
    rw[←htm]at HP
    rw[←hprev]at HG
    rw[←hol]at HO
    have hmc:(madeCells #[Value.int .i64 0] (k * 1)).toList=layR (fun q=>seenV r k (m+1) q prev) tm k 0:=(by rw[Nat.mul_one,XE,List.map_replicate];exact (toList_madeCells_one _ _))
    have RX:=(Row.of_own hown5).1.get hmc
    rw[World.size_alloc]at RX
    obtain ⟨RB,hRB⟩:∃RB,RB=wr.heap.size:=⟨_,rfl⟩
    have hs5:RB+1<w5.heap.size:=by rw[hRB];exact RX.lt
    have HST5:Hid (PE B BB MB (k:Int) (RB+1) w5 vv1 w5 vv1 (layV (fun q=>seenV r k (m+1) q prev) tm 0).1):=zhd (PE.start (HP.out.st.ext hb5))
    have HPX:Hid (PR NB BB MB w5 vv1 (RB+1)):=zhd ⟨by omega,hs5,HP.out.st.fresh (by omega)⟩
    have hgl:=HG.out.2.2.1
    have HK5:Hid (∀w',Agree (fun b=>keepsB BB MB vv1 b∧b≠RB+1) w5 w'→Row w' g 3 (prev.map (Value.int .i64))∧Row w' RB 67 [.int .i64 (nth r 0),.int .i64 (nth r 1),.int .i64 (nth r 2),.int .i64 (nth r 3),.int .i64 (nth r 4),.int .i64 (nth r 5),.int .i64 (nth r 6)]):=zhd fun w' hA=>⟨(HG.out.1.ext hb5).agree hA ⟨HG.out.2.2.2,by omega⟩,(by rw[hRB];exact ((HRB0.out.agree (S:=fun b=>b=wr.heap.size) (.of_below hb5' fun b hb _=>by omega) rfl).agree hA ⟨HP.out.st.fresh (Nat.le_refl _),by omega⟩))⟩
    have HO5:Hid (OwnK kInts 30 NB (PR NB BB MB wr vv1) w5 (.slice oa (m+1) oc) outl):=zhd (HO.out.ext hb5)
    have HP5:Hid (PE B BB MB (k:Int) NB W vv w5 vv1 tm):=zhd (HP.out.ext hB hb5)
    have HN5:Hid (∀w' vv',w5.heap.size≤w'.heap.size→(∀q,vv'.ownBlock=some q→vv1.ownBlock=some q∨w5.heap.size≤q)→∀b,PR NB BB MB wr vv1 b→PR NB BB MB w' vv' b):=zhd fun w' vv' h1 h2 b hb=>(hb.same hb5.size).next h1 h2
    have hB5:B≤w5.heap.size:=Nat.le_trans hB HP5.out.size
    have hNB5:NB≤RB:=by omega
    have HOB:Hid (∀q,(Value.slice oa (m+1) oc).ownBlock=some q→PR NB BB MB wr vv1 q∧q≠RB+1):=zhd fun q hq=>⟨HOO.out q hq,by have:=(HOO.out q hq).2.1;omega⟩
    have HPRX:Hid (∀b,PR NB BB MB wr vv1 b→keepsB BB MB vv1 b∧b≠RB+1):=zhd fun b hb=>⟨hb.2.2,by have:=hb.2.1;omega⟩
    have hBN:B≤NB:=by rw[HNB.out];exact hB
    rw[←hRB]
    rw[←hRB]at RX
    clear hmc hown5 hgrow5 hb5 hb5' hprev htm hol HP HG HO HOO HRB0 hNw hBl hgl hRB
    go_wp2
    go_loopw [13,14,15,16,56,66] (fun _ _ _ _ i _ wr=>∃(j2:Nat) (vv':Value),j2≤k∧i=.int .i64 j2∧Hid (PE B BB MB (k:Int) (RB+1) w5 vv1 wr vv' (layV (fun q=>seenV r k (m+1) q prev) tm j2).1)∧Hid (Row wr (RB+1) 3 (layR (fun q=>seenV r k (m+1) q prev) tm k j2))∧Hid (PR NB BB MB wr vv' (RB+1))) (fun _ _ _ _ i _ _=>k - (intOf i).toNat)
    case atStart=>exact ⟨0,vv1,Nat.zero_le _,rfl,HST5,zhd RX,HPX⟩
    case round=>
     clear HST5 RX HPX hs5
     obtain ⟨j2,vv2,hj,rfl,HP3,HR3,HQ3⟩:=hrel
     obtain ⟨w6,rfl⟩:∃w6:World,w6=wr:=⟨_,rfl⟩
     by_cases hjk:j2<k
     case neg=>
      obtain rfl:j2=k:=by omega
      have hR6:=HR3.out
      rw[QJ]at hR6
      have hLl:=zT (fun q=>seenV r j2 (m+1) q prev) tm j2
      have hLw:∀x∈(layV (fun q=>seenV r j2 (m+1) q prev) tm j2).2,WF x:=fun x hx=>by
       have:=yx (fun q=>seenV r j2 (m+1) q prev) HOL.out.2.1 j2 x hx
       have hkm:j2 * (m+1)≤5 * 7:=Nat.mul_le_mul (by omega) (by omega)
       exact WF.small (by omega)
      have H1:=HN5.out w6 vv2 HP3.out.size HP3.out.og
      have HOw:Hid (OwnK kInts 30 NB (PR NB BB MB w6 vv2) w6 (.slice oa (m+1) oc) outl):=zhd (HO5.out.slot HP3.out.ag (fun q hq=>⟨(HOB.out q hq).1.2.2,(HOB.out q hq).2⟩) HPRX.out H1)
      have HRD:Hid (kInts.rd (fun b=>PR NB BB MB w6 vv2 b∧(Value.slice oa (m+1) oc).ownBlock≠some b) w6 [.slice (some ⟨RB+1,0,none⟩) j2 j2] (layV (fun q=>seenV r j2 (m+1) q prev) tm j2).2):=zhd (za5 hR6 hLl (by omega) hLw ⟨HQ3.out,fun e=>(HOB.out _ e).2 rfl⟩)
      have hol2:=HOL.out.1
      have hb6:NB≤w6.heap.size:=by have:=HQ3.out.2.1;omega
      have FIN:Hid (∀g7 c7 w7,OwnK kInts 30 NB (PR NB BB MB w6 vv2) w7 (.slice (some ⟨g7,0,none⟩) (m+1+1) c7) (outl++[(layV (fun q=>seenV r j2 (m+1) q prev) tm j2).2])→Below NB w6 w7→(∀S:Nat→Prop,(∀q,(Value.slice oa (m+1) oc).ownBlock=some q→¬S q)→Agree S w6 w7)→((Value.slice oa (m+1) oc).ownBlock=some g7∨w6.heap.size≤g7)→
        PE B BB MB (j2:Int) NB W vv w7 vv2 (playV j2 inn word tab (m+1)).1∧(Row w7 (RB+1) 3 ((nthL (playV j2 inn word tab (m+1)).2 (m+1)).map (Value.int .i64))∧PR NB BB MB w7 vv2 (RB+1))∧OwnK kInts 30 NB (PR NB BB MB w7 vv2) w7 (.slice (some ⟨g7,0,none⟩) (m+1+1) c7) (playV j2 inn word tab (m+1)).2∧∀q,(Value.slice (some ⟨g7,0,none⟩) (m+1+1) c7).ownBlock=some q→PR NB BB MB w7 vv2 q):=zhd fun g7 c7 w7 h1 h2 h3 h4=>by
       rw[HEND.out.2.2,HEND.out.1,HEND.out.2.1]
       have hOw:∀q,(Value.slice oa (m+1) oc).ownBlock=some q→PR NB BB MB w6 vv2 q:=fun q hq=>H1 q (HOB.out q hq).1
       have hA:=h3 (fun b=>(Value.slice oa (m+1) oc).ownBlock≠some b) fun q hq h=>h hq
       have hT:∀b,keepsB BB MB vv2 b∨True→True:=fun _ _=>trivial
       have hP6:=HP5.out.trans HP3.out (by rw[←HNB.out];omega)
       refine ⟨hP6.move hA (h2.mono hBN) (fun e=>(hOw _ e).2.2.1 rfl) (fun e=>(hOw _ e).2.2.2.1 rfl) (fun q hq e=>(hOw _ e).2.2.2.2 hq) (fun b hb _ e=>by have:=(hOw _ e).1;rw[HNB.out]at this;omega),⟨hR6.agree hA fun e=>(HOB.out _ e).2 rfl,HQ3.out.same hA.size⟩,h1.mono fun b hb=>hb.same hA.size,fun q hq=>?_⟩
       have:g7=q:=by simpa[Value.ownBlock] using hq
       subst this
       rcases h4 with e | e
       ·exact (hOw _ e).same hA.size
       ·refine ⟨by omega,?_,hP6.st.fresh e⟩
        rcases h1 with ⟨xs,ho,_⟩
        rcases ho.2 with ⟨e0,_⟩ | ⟨g',_,_,e0,_,hg,_⟩
        ·cases e0
        ·injection e0 with e1;injection e1 with e1;injection e1 with e1;rw[e1];exact (Array.getElem?_eq_some_iff.1 hg).1
      have hby:(outl.length+1) * 24≤140737488355328:=by omega
      have hbn:outl.length<9223372036854775807:=by omega
      clear hR6 hLl hLw H1 HR3 HP3 HQ3 HEND HOL
      go_wp2_with (at_builtin;refine yF (K:=kInts) (w:=w6) (S:=PR NB BB MB w6 vv2) (base:=NB) (v:=.slice oa (m+1) oc) (l:=outl) rfl (.tmp 92) (.tmp 94) 47 rfl 30 _ 24 Tryz.underlying47 zF rfl (by decide) rfl HOw.out (cs:=[.slice (some ⟨RB+1,0,none⟩) j2 j2]) rfl HRD.out hby hbn hb6 ?_;intro g7 c7 w7 ho hb7 hag hg7;rw[hol2]at ho ⊢;have FF:=zhd (FIN.out g7 c7 w7 ho hb7 hag hg7);clear ho hb7 hag hg7 FIN HOw HRD hby hbn hol2)
      go_roundw
      case rel=>
       obtain ⟨r1,r2,r3,r4⟩:=FF.out
       exact ⟨m+1,vv2,RB+1,some ⟨g7,0,none⟩,c7,by omega,by go_num,rfl,rfl,zhd r1,zhd r2,zhd r3,zhd r4⟩
      case measure=>simp[intOf];omega
     obtain ⟨a,ha⟩:∃a:Nat,nth r (j2+1)=a:=⟨(nth r (j2+1)).toNat,by have:=HBR.out j2 (by omega);omega⟩
     have ha32:a<32:=by have:=HBR.out j2 (by omega);omega
     have hwm:IntKind.i64.wrap ((m:Int)+1)=((m+1:Nat):Int):=by rw[IntKind.wrap_i64];omega
     go_wp2_with fail
     refine (xp _).mono ?_
     rintro _ w8 ⟨_,rfl,hb8,rfl⟩
     have RV:=ze w8 [.int .i64 j2,.int .i64 ((m:Int)+1),.int .i64 0,.int .i64 (-1),.int .i64 (-1),.int .i64 (-1),.int .i64 (-1),.int .i64 (-1)] 134
     have hb8a:=zg hb8 (.cells #[.int .i64 j2,.int .i64 ((m:Int)+1),.int .i64 0,.int .i64 (-1),.int .i64 (-1),.int .i64 (-1),.int .i64 (-1),.int .i64 (-1)] 134)
     have hs8:=hb8.size
     go_wp2
     obtain ⟨VB,hVB⟩:∃VB,VB=w8.heap.size:=⟨_,rfl⟩
     obtain ⟨w9,hw9⟩:∃w9,w9=w8.alloc (.cells #[.int .i64 j2,.int .i64 ((m:Int)+1),.int .i64 0,.int .i64 (-1),.int .i64 (-1),.int .i64 (-1),.int .i64 (-1),.int .i64 (-1)] 134):=⟨_,rfl⟩
     rw[←hVB]at RV ⊢ hs8
     rw[←hw9]at RV hb8a ⊢
     have HRV:Hid (Row w9 VB 134 ((seenV r 0 (m+1) j2 prev).map (Value.int .i64))):=zhd (by rw[zbG];exact RV)
     clear hw9 hVB hb8 RV
     go_loopw [15,16,66] (fun _ _ i wr=>∃j:Nat,j≤k∧i=.int .i64 j∧Below w6.heap.size w6 wr∧Hid (Row wr VB 134 ((seenV r j (m+1) j2 prev).map (Value.int .i64)))) (fun _ _ i _=>k - (intOf i).toNat)
     case atStart=>exact ⟨0,Nat.zero_le _,rfl,hb8a,HRV⟩
     case round=>
      clear hb8a HRV
      obtain ⟨j,hjk2,rfl,hb,HRV⟩:=hrel
      by_cases hjl:j<k
      case neg=>
       obtain rfl:j=k:=by omega
       obtain ⟨v,hv⟩:∃v,v=seenV r j (m+1) j2 prev:=⟨_,rfl⟩
       have hvk:ViewOK v:=by rw[hv];exact zaK HOL.out.2.2.2 (by omega) (by omega)
       have hRV:=HRV.out
       rw[←hv,cells8 hvk.1]at hRV
       have hVl:=hRV.lt
       have t0:=hRV.zc 0 rfl
       have t1:=hRV.zc 1 rfl
       have t2:=hRV.zc 2 rfl
       have t3:=hRV.zc 3 rfl
       have t4:=hRV.zc 4 rfl
       have t5:=hRV.zc 5 rfl
       have t6:=hRV.zc 6 rfl
       have t7:=hRV.zc 7 rfl
       have q2:=XM (RB+1) j j hjk
       have KA:Hid (∀w',Below w6.heap.size w6 w'→Calls Tryz.prog 64 #[.pointer (some ⟨BB,0,none⟩),.agg #[.int .i64 (nth v 0),.int .i64 (nth v 1),.int .i64 (nth v 2),.int .i64 (nth v 3),.int .i64 (nth v 4),.int .i64 (nth v 5),.int .i64 (nth v 6),.int .i64 (nth v 7)]] w' (fun e W'=>e=.returned (.int .i64 (idxV (layV (fun q=>seenV r j (m+1) q prev) tm j2).1 v:Nat))∧BEnd B BB MB (j:Int) w' vv2 (addV (layV (fun q=>seenV r j (m+1) q prev) tm j2).1 v) W')):=zhd fun w' hw=>Xv (HP3.out.st.ext hw) hvk (Nat.le_trans hB5 (HP3.out.ext hB5 hw).size) (by
        have:=yC (fun q=>seenV r j (m+1) q prev) tm j2
        have:=HOL.out.2.1
        have hkm:j * (m+1)≤5 * 7:=Nat.mul_le_mul (by omega) (by omega)
        omega)
       have FIN:=zhd fun (w2 w3:World) (hw:Below w6.heap.size w6 w2) (he:BEnd B BB MB (j:Int) w2 vv2 (addV (layV (fun q=>seenV r j (m+1) q prev) tm j2).1 v) w3)=>zaY hB5 (show B≤RB+1 by omega) HP3.out HR3.out HQ3.out hjk hw (show v=(fun q=>seenV r j (m+1) q prev) j2 from hv) he
       obtain ⟨ix,hix⟩:∃ix,ix=idxV (layV (fun q=>seenV r j (m+1) q prev) tm j2).1 v:=⟨_,rfl⟩
       rw[←hix]at KA FIN
       clear hix hRV hv hvk HRV HP3 HR3 HQ3
       go_wp2_with fail
       refine (KA.out _ hb).mono ?_
       rintro _ w10 ⟨rfl,he⟩
       obtain ⟨vv3,G0,G3,G4,G5,G1,G6,G7⟩:=FIN.out _ _ hb he
       have G1:=zhd G1
       have G6:=zhd G6
       have G7:=zhd G7
       clear FIN KA he G0 t0 t1 t2 t3 t4 t5 t6 t7 hVl
       go_wp2
       go_roundw
       case rel=>exact ⟨j2+1,vv3,by omega,by go_num,G1,G6,G7⟩
       case measure=>simp[intOf];omega
      obtain ⟨hGw,hRw⟩:=HK5.out wr (HP3.out.ext hB5 hb).ag
      have hpl:=HOL.out.2.2.1
      obtain ⟨y,hy⟩:∃y,y=nth prev j:=⟨_,rfl⟩
      have t1:=hGw.cell (j:=j) (u:=.int .i64 y) (by rw[List.getElem?_map,get?_nth (by omega),hy];rfl)
      have t2:=hRw.cell (j:=1+j2) (u:=.int .i64 a) (by rw[←ha];have h5:=five (show j2<5 by omega);rcases h5 with rfl | rfl | rfl | rfl | rfl<;>rfl)
      have q1:=XM g k k hjl
      have q2:=qg RB (show j2<5 by omega)
      have q3:=Zr VB 3 (show j<5 by omega)
      have hl1:=hGw.lt
      have hl2:=hRw.lt
      have hl3:=HRV.out.lt
      have f3:=HRV.out.free (3+j)
      have hst:=zbd (g:=r) (j:=j) (k:=m+1) (p:=j2) (prev:=prev) (by omega)
      rw[ha,Int.toNat_natCast]at hst
      have BI:=zaH a j
      by_cases hbt:a.testBit j=true
      ·rw[hbt]at BI
       rw[if_pos hbt,←hy]at hst
       have d3:∃u,wr.cell? ⟨VB,3+j,none⟩=some u:=by
        obtain ⟨u,hu⟩:∃u,((seenV r j (m+1) j2 prev).map (Value.int .i64))[3+j]? =some u:=⟨_,List.getElem?_eq_getElem (by unfold seenV;simp;omega)⟩
        exact ⟨u,HRV.out.cell hu⟩
       obtain ⟨u3,d3⟩:=d3
       have NX:Hid (Below w6.heap.size w6 (wr.setCell ⟨VB,3+j,none⟩ (.int .i64 y))∧Row (wr.setCell ⟨VB,3+j,none⟩ (.int .i64 y)) VB 134 ((seenV r (j+1) (m+1) j2 prev).map (Value.int .i64))):=zhd ⟨hb.setCell (by simpa using hs8) _,by rw[←hst,List.map_set];exact HRV.out.set _ _⟩
       clear hst hbt hy ha hGw hRw HRV hb
       go_wp2
       go_roundw
       case rel=>exact ⟨j+1,by omega,by go_num,NX.out.1,zhd NX.out.2⟩
       case measure=>simp[intOf];omega
      ·have hbf:a.testBit j=false:=by simpa using hbt
       rw[hbf]at BI
       rw[if_neg hbt]at hst
       have NX:Hid (Row wr VB 134 ((seenV r (j+1) (m+1) j2 prev).map (Value.int .i64))):=zhd (by rw[←hst];exact HRV.out)
       clear hst hbt hbf hy ha hGw hRw HRV
       go_wp2
       go_roundw
       case rel=>exact ⟨j+1,by omega,by go_num,hb,NX⟩
       case measure=>simp[intOf];omega
  have q1:=zz (P:=Tryz.prog) (S:=S) (w:=wr) Tryz.underlying30 hi hz1 (a:=ia) (n:=inn.length) (cap:=ic) (HIA.out.agree (HPE.out.ag.mono HLOW.out)) k (by have:=HLEN.out;omega)
  have q2:=XM NB N N hlt
  obtain ⟨x,hx⟩:∃x,x=nth inn k:=⟨_,rfl⟩
  have hkl:k<inn.length:=by have:=HLEN.out;omega
  have hxw:WF x:=by rw[hx];exact HWF.out _ (Zv hkl)
  have CX:Hid (∀w',Agree (fun b=>keepsB BB MB vv b∧b≠NB) W w'→w'.cell? (adr ia k)=some (.int .i64 x)):=zhd fun w' hw=>by
   have:=zY (HI.out.agree (hw.mono HLOW.out)) (.refl _ _) k hkl
   rw[this,List.getD_eq_getElem?_getD,List.getElem?_map,get?_nth hkl,hx];rfl
  have hBNB:B≤NB:=by rw[HNB.out];exact hB
  have hvx:firstV k x=(fun q=>firstV q (nth inn q)) k:=by rw[hx]
  have KEEP:Hid (∀w',Below wr.heap.size wr w'→w'.cell? (adr ia k)=some (.int .i64 x)):=zhd fun w' hw=>CX.out w' (HPE.out.ext hB hw).ag
  have KA:Hid (∀w',Below wr.heap.size wr w'→Calls Tryz.prog 64 #[.pointer (some ⟨BB,0,none⟩),.agg #[.int .i64 k,.int .i64 0,.int .i64 x,.int .i64 (-1),.int .i64 (-1),.int .i64 (-1),.int .i64 (-1),.int .i64 (-1)]] w' (fun e W'=>e=.returned (.int .i64 (idxV (layV (fun q=>firstV q (nth inn q)) tab k).1 (firstV k x):Nat))∧BEnd B BB MB (N:Int) w' vv1 (addV (layV (fun q=>firstV q (nth inn q)) tab k).1 (firstV k x)) W')):=zhd fun w' hw=>Xv (HPE.out.st.ext hw) (XC hxw (by omega)) (Nat.le_trans hB (HPE.out.ext hB hw).size) (by have:=yC (fun q=>firstV q (nth inn q)) tab k;omega)
  have FIN:Hid (∀w2 w3,Below wr.heap.size wr w2→BEnd B BB MB (N:Int) w2 vv1 (addV (layV (fun q=>firstV q (nth inn q)) tab k).1 (firstV k x)) w3→∃vv3,w3.cell? (adr ia k)=some (.int .i64 x)∧w3.cell? ⟨NB,k,none⟩=some (.int .i64 0)∧w3.frozen? ⟨NB,k,none⟩=false∧NB<w3.heap.size∧
   PE B BB MB (N:Int) NB W vv (w3.setCell ⟨NB,k,none⟩ (.int .i64 (idxV (layV (fun q=>firstV q (nth inn q)) tab k).1 (firstV k x):Nat))) vv3 (layV (fun q=>firstV q (nth inn q)) tab (k+1)).1∧Row (w3.setCell ⟨NB,k,none⟩ (.int .i64 (idxV (layV (fun q=>firstV q (nth inn q)) tab k).1 (firstV k x):Nat))) NB 3 (layR (fun q=>firstV q (nth inn q)) tab N (k+1))∧PR NB BB MB (w3.setCell ⟨NB,k,none⟩ (.int .i64 (idxV (layV (fun q=>firstV q (nth inn q)) tab k).1 (firstV k x):Nat))) vv3 NB):=zhd fun w2 w3 hw he=>by
   obtain ⟨vv3,r1,r⟩:=zaY hB hBNB HPE.out HRN.out HPR.out hlt hw hvx he
   exact ⟨vv3,CX.out w3 r1,r⟩
  have hil:=HLEN.out
  rw[hil]at q1
  clear hil hx hvx hkl hxw CX HPE HRN HPR
  obtain ⟨ix,hix⟩:∃ix,ix=idxV (layV (fun q=>firstV q (nth inn q)) tab k).1 (firstV k x):=⟨_,rfl⟩
  rw[←hix]at KA FIN
  clear hix
  go_wp2
  refine zH (fun w':World=>w'.cell? (adr ia k)=some (.int .i64 x)) (fun i=>i==12) (by kernel_rfl) ?_ (fun hHeld=>?_)
  ·exact KEEP.out _ (zh _ _ 1)
  refine anyE_take 0 (v:=?_) rfl (by kernel_rfl) (fun _ _ _ h=>h) (by rfl) ?hy0 hHeld ?r0
  case hy0=>(intro w hSw;(try dsimp only at hSw);go_simp;try with_reducible rfl)
  try simp only[Act.put,zsa,zsz,zss]
  refine anyE_take 1 (v:=?_) rfl (by kernel_rfl) (fun _ _ _ h=>h) (by rfl) ?hy1 hHeld ?r1
  case hy1=>(intro w hSw;(try dsimp only at hSw);go_simp;try with_reducible rfl)
  try simp only[Act.put,zsa,zsz,zss]
  refine anyE_take 2 (v:=?_) rfl (by kernel_rfl) (fun _ _ _ h=>h) (by rfl) ?hy2 hHeld ?r2
  case hy2=>(intro w hSw;(try dsimp only at hSw);go_simp;try with_reducible rfl)
  try simp only[Act.put,zsa,zsz,zss]
  refine anyE_take 3 (v:=?_) rfl (by kernel_rfl) (fun _ _ _ h=>h) (by rfl) ?hy3 hHeld ?r3
  case hy3=>(intro w hSw;(try dsimp only at hSw);go_simp;try with_reducible rfl)
  try simp only[Act.put,zsa,zsz,zss]
  refine anyE_take 4 (v:=?_) rfl (by kernel_rfl) (fun _ _ _ h=>h) (by rfl) ?hy4 hHeld ?r4
  case hy4=>(intro w hSw;(try dsimp only at hSw);go_simp;try with_reducible rfl)
  try simp only[Act.put,zsa,zsz,zss]
  refine anyE_take 5 (v:=?_) rfl (by kernel_rfl) (fun _ _ _ h=>h) (by rfl) ?hy5 hHeld ?r5
  case hy5=>(intro w hSw;(try dsimp only at hSw);go_simp;try with_reducible rfl)
  try simp only[Act.put,zsa,zsz,zss]
  refine anyE_take 6 (v:=?_) rfl (by kernel_rfl) (fun _ _ _ h=>h) (by rfl) ?hy6 hHeld ?r6
  case hy6=>(intro w hSw;(try dsimp only at hSw);go_simp;try with_reducible rfl)
  try simp only[Act.put,zsa,zsz,zss]
  refine anyE_take 7 (v:=?_) rfl (by kernel_rfl) (fun _ _ _ h=>h) (by rfl) ?hy7 hHeld ?r7
  case hy7=>(intro w hSw;(try dsimp only at hSw);go_simp;try with_reducible rfl)
  try simp only[Act.put,zsa,zsz,zss]
  refine anyE_one 8 rfl (by kernel_rfl) (fun K hK=>?_)
  go_simp;go_at_call 65;refine (xp _).mono ?_;rintro _ w2 ⟨_,rfl,hb2,rfl⟩;have y2:=za (zh _ _ 1) hb2;clear hb2
  refine hK.out _ _ (fun _=>KEEP.out _ y2) (fun hHeld=>?_);replace hHeld:=hHeld rfl
  clear hK K
  try simp only[Act.put,zsa,zsz,zss]
  refine anyE_take 9 (v:=?_) rfl (by kernel_rfl) (fun _ _ _ h=>h) (by rfl) ?hy9 hHeld ?r9
  case hy9=>(intro w hSw;(try dsimp only at hSw);go_simp;try with_reducible rfl)
  try simp only[Act.put,zsa,zsz,zss]
  refine anyE_one 10 rfl (by kernel_rfl) (fun K hK=>?_)
  go_simp;go_at_call 64;refine (KA.out w2 y2).mono ?_;rintro _ w3 ⟨rfl,he⟩;obtain ⟨vv3,G2,G3,G4,G5,G1,G6,G7⟩:=FIN.out w2 w3 y2 he;have G1:=zhd G1;have G6:=zhd G6;have G7:=zhd G7;clear he
  refine hK.out _ _ (fun _=>G2) (fun hHeld=>?_);replace hHeld:=hHeld rfl
  clear hK K
  try simp only[Act.put,zsa,zsz,zss]
  refine anyE_take 11 (v:=?_) rfl (by kernel_rfl) (fun _ _ _ h=>h) (by rfl) ?hy11 hHeld ?r11
  case hy11=>(intro w hSw;(try dsimp only at hSw);go_simp;try with_reducible rfl)
  try simp only[Act.put,zsa,zsz,zss]
  refine anyE_one 12 rfl (by kernel_rfl) (fun K hK=>?_)
  go_simp
  refine hK.out _ _ (fun h=>by simp at h) (fun hHeld=>?_)
  clear hK K
  try simp only[Act.put,zsa,zsz,zss]
  refine zy (by kernel_rfl) ?_ _
  clear hHeld KEEP KA FIN
  go_wp2
  go_roundw
  case rel=>exact ⟨k+1,vv3,by omega,by go_num,G1,G6,G7⟩
  case measure=>simp[intOf];omega
end Go.Proofs.YtjpakklplhabdaaGreat
