/- Part of the proof that the laws answer true for every input. -/
import Derived.Test.YtaijafjfafbcfaaGreatPXb02
import Derived.RangeFuncFrom
import Derived.RangeFuncLeaves
set_option linter.unusedSimpArgs false
set_option linter.unnecessarySimpa false
set_option linter.unusedVariables false
set_option maxRecDepth 100000
set_option maxHeartbeats 40000000
namespace Go.Proofs.YtaijafjfafbcfaaGreat
open Go.RowKit Go.Shelf
theorem Row.putObj {w:World} {g:Nat} {e:TypeId} {xs:List Value} (h:Row w g e xs) {r:Nat} {o:Obj} (o':Obj) (hr:w.heap[r]? =some o) (ho:o.isCells=false):Row (w.putObj r o') g e xs:=by
 refine h.grown (grownBy_putObj' w r o') fun e=>?_
 cases e
 unfold Row at h
 rw[hr]at h
 cases h
 cases ho
theorem putObj_alloc {w:World} {r:Nat} (o o':Obj) (h:r<w.heap.size):(w.alloc o).putObj r o'=(w.putObj r o').alloc o:=by
 unfold World.putObj World.alloc
 simp only[World.mk.injEq,and_true]
 apply Array.ext_getElem?
 intro i
 rw[Array.getElem?_setIfInBounds,Array.getElem?_push,Array.getElem?_push,Array.getElem?_setIfInBounds,Array.size_push,Array.size_setIfInBounds]
 by_cases e:r=i
 ·subst e
  rw[if_pos rfl,if_pos (by omega),if_neg (by omega),if_pos rfl,if_pos h]
 ·rw[if_neg e]
  by_cases e2:i=w.heap.size
  ·rw[if_pos e2,if_pos e2]
  ·rw[if_neg e2,if_neg e2,if_neg e]
theorem rangeFunc_sa {F:Fence} {n:Nat} {P:Program} {α:Type} {g:Operand} {ps:Array Tmp} {assign body:Code} {Q:Exit→Act→World→Prop} {a:Act} {w:World}
  (hro:F.round=none) (h1:1≤n) {gf:Nat} {lb:Array Value} (hg:a.eval g=.func (.func gf) #[] lb) (hFg:F.fn gf) (eg:∀args w,(callFunc gf args).run P w=.ok (.enter gf args) w)
  {encs:α→Array Value} {Kp:World→World→Prop} {S Sp:List α→Prop} {N:Nat} (hseq:SeqStopsK F (n - 1) P gf lb encs Kp S Sp N w)
  (hKt:∀{A B C:World},Kp A B→Kp B C→Kp A C) (hKb:∀(W:World) (l:Nat) (o o':Obj),w.heap.size≤l→W.heap[l]? =some o→o.isCells=false→o.isWalk=false→Kp W (W.putObj l o')) (hKa:∀(W:World) (o:Obj),w.heap.size≤W.heap.size→Kp W (W.alloc o)) (hps:∀x,(encs x).size=ps.size)
  (I:List α→World→Prop) (Ix:Code→List α→World→Prop) (hI:OwnFrom w.heap.size I) (hIx:∀c,OwnFrom w.heap.size (Ix c)) (h0:I [] w) (ob:α→Obj) (a₁:Nat→α→Act)
  (hassign:∀(l:Nat) (x:α) (W:World) (g:Nat) (K:Act→World→Prop),g=W.heap.size→K (a₁ g x) (W.alloc (ob x))→
   assign.wpIn (F.inRound l) (n - 1 - 1) P (Exit.then K (fun _ _ _=>False)) {tmps:=(ps.zip (encs x)).foldl (fun t (p,v)=>t.setIfInBounds p v) a.tmps,defers:=[]} W)
  (hbody:∀(l:Nat) (pre:List α) (x:α) (W:World),I pre W→w.heap.size≤W.heap.size→pre.length<N→body.wpIn (F.inRound l) (n - 1 - 1) P (ownPostK Kp I Ix (pre++[x]) (W.alloc (ob x))) (a₁ W.heap.size x) (W.alloc (ob x)))
  (hdone:∀(D:Nat) (xs:List α) (W:World),w.heap.size≤D→S xs→I xs W→W.heap[D]? =some (.deferred (some []))→Q .normal {a with defers:={target:=.collected D,args:=#[]}::a.defers} W)
  (hstop:∀(D:Nat) (c:Code) (pre:List α) (W:World),w.heap.size≤D→Sp pre→Ix c pre W→W.heap[D]? =some (.deferred (some []))→c.wpIn F n P Q {a with defers:={target:=.collected D,args:=#[]}::a.defers} W):
  (Code.rangeFunc g ps assign body).wpIn F n P Q a w:=by
 refine wpIn_rangeFunc fun fn hfn=>?_
 rw[hro]
 obtain ⟨D,hD⟩:∃D,D=w.heap.size:=⟨_,rfl⟩
 obtain ⟨mk,hmk⟩:∃mk:LoopState→Option Code→Loop,mk=fun st pe=>{state:=st,pending:=pe,fn:=fn,tmps:=a.tmps,params:=ps,assign:=assign,body:=body,defers:=D}:=⟨_,rfl⟩
 obtain ⟨U,hU⟩:∃U,U=(w.alloc (.deferred (some []))).alloc (.loop (mk .ready none)):=⟨_,rfl⟩
 have bU:Below w.heap.size w U:=by rw[hU];exact ((Below.refl _ w).alloc (Nat.le_refl _) _).alloc (by simp) _
 have lU:U.heap[D+1]? =some (.loop (mk .ready none)):=by
  rw[hU,hD]
  have:=World.alloc_heap_new (w.alloc (.deferred (some []))) (.loop (mk .ready none))
  rwa [World.size_alloc]at this
 have dU:U.heap[D]? =some (.deferred (some [])):=by
  rw[hU,hD]
  exact (Below.heap_alloc _ _ _ (by simp)).trans (World.alloc_heap_new w _)
 have sU:D+1<U.heap.size:=(Array.getElem?_eq_some_iff.1 lU).1
 have iU:I [] U:=by rw[hU];exact hI.alloc _ (hI.alloc _ h0)
 have hen:=run_enterLoop_outer (P:=P) (w:=w) fn a.tmps ps assign body
 rw[←hD,show ({state:=.ready,pending:=none,fn,tmps:=a.tmps,params:=ps,assign,body,defers:=D}:Loop)=mk .ready none from by rw[hmk],←hU]at hen
 refine ⟨D+1,_,U,{target:=.fn (.func gf) lb,args:=#[.func (.yield (D+1)) #[] #[]]},U,gf,#[.func (.yield (D+1)) #[] #[]]++lb,U,hen,?_,?_,?_,fun _=>h1,?_⟩
 ·simp only[resolve,hg]
  simp[go_sem]
 ·intro f hf
  simp[Target.leads]at hf
  exact hf▸hFg
 ·simp[invoke,go_sem,eg]
 have keepW:∀{A B:World} {row:Option Nat} {o:Obj} {k:Nat},A.heap[k]? =some o→o.isWalk=false→A.grownBy B row→(∀r,row=some r→U.heap.size≤r∧∃o:Obj,A.heap[r]? =some o∧o.isWalk=true)→B.heap[k]? =some o:=by
  intro A B row o k hk hw hg' hr
  refine (hg'.block k (Array.getElem?_eq_some_iff.1 hk).1 fun e=>?_).trans hk
  obtain ⟨_,o2,h2,h3⟩:=hr k e.symm
  rw[hk]at h2
  cases h2
  rw[hw]at h3
  cases h3
 have walkRow:∀{A:World} {row:Option Nat},(∀r,row=some r→U.heap.size≤r∧∃o:Obj,A.heap[r]? =some o∧o.isWalk=true)→(∀r,row=some r→w.heap.size≤r∧∃o:Obj,A.heap[r]? =some o∧o.isCells=false):=fun hr r e=>by
  obtain ⟨hB,o,ho,hw⟩:=hr r e
  exact ⟨by have:=bU.size;omega,o,ho,Obj.not_cells_of_walk hw⟩
 refine (hseq (D+1) (fun pre W=>I pre W∧W.heap[D+1]? =some (.loop (mk .ready none))∧W.heap[D]? =some (.deferred (some [])))
  (fun pre W=>∃c,Ix c pre W∧W.heap[D+1]? =some (.loop (mk .done (some c)))∧W.heap[D]? =some (.deferred (some []))) U bU
  (fun s A B row hs hg' hr=>⟨hI s A B row hs.1 hg' (walkRow hr),keepW hs.2.1 rfl hg' hr,keepW hs.2.2 rfl hg' hr⟩)
  (fun s A B row hs hg' hr=>by
   obtain ⟨c,hc,hl,hk⟩:=hs
   exact ⟨c,hIx c s A B row hc hg' (walkRow hr),keepW hl rfl hg' hr,keepW hk rfl hg' hr⟩) ?_ ⟨iU,lU,dU⟩).mono ?_
 ·rintro pre x W ⟨hi,hl,hd⟩ hlen
  have hlt:=(Array.getElem?_eq_some_iff.1 hl).1
  have hy:=run_yield (P:=P) (args:=encs x) hl (by rw[hmk];exact hps x)
  have hla:(W.alloc (ob x)).heap[D+1]? =some (.loop (mk .ready none)):=(heap_alloc_old W _ hlt).trans hl
  have hbeg:=run_beginRound (P:=P) hla (by rw[hmk])
  refine ⟨fn,(ps.zip (encs x)).foldl (fun t (p,v)=>t.setIfInBounds p v) a.tmps,assign,body,by rw[hmk]at hy;rw[hy],roundIn_of_wpIn hfn (hassign _ x W _ _ rfl ⟨_,hbeg,?_⟩)⟩
  obtain ⟨bz,hbz⟩:∃bz,bz=Obj.loop {mk .ready none with state:=.busy}:=⟨_,rfl⟩
  rw[←hbz,putObj_alloc _ _ hlt]
  have l2:(W.putObj (D+1) bz).heap[D+1]? =some bz:=World.putObj_heap_same hlt
  have d2:(W.putObj (D+1) bz).heap[D]? =some (.deferred (some [])):=(World.putObj_heap_other (by omega)).trans hd
  have k2:Kp W (W.putObj (D+1) bz):=hKb _ _ _ _ (by omega) hl rfl rfl
  have sz:(W.putObj (D+1) bz).heap.size=W.heap.size:=World.putObj_size ..
  have l2a:((W.putObj (D+1) bz).alloc (ob x)).heap[D+1]? =some bz:=(heap_alloc_old _ _ (by rw[sz];exact hlt)).trans l2
  have d2a:((W.putObj (D+1) bz).alloc (ob x)).heap[D]? =some (.deferred (some [])):=(heap_alloc_old _ _ (by rw[sz];omega)).trans d2
  have k2a:=hKt k2 (hKa (W.putObj (D+1) bz) (ob x) (by rw[sz];omega))
  have hb:=hbody (D+1) pre x _ (hI.putObj bz hi (by omega) hl rfl) (by rw[sz];omega) hlen
  rw[sz]at hb
  refine wpIn_mono hb ?_
  have fin:∀(jump:Option Code) (W3:World),KeepsOthers ((W.putObj (D+1) bz).alloc (ob x)) W3→
    (Instr.endRound (D+1) jump).run P W3=.ok (.bool jump.isNone) (W3.putObj (D+1) (.loop (mk (if jump.isNone then .ready else .done) jump)))∧W3.heap[D+1]? =some bz∧
    (W3.putObj (D+1) (.loop (mk (if jump.isNone then .ready else .done) jump))).heap[D+1]? =some (.loop (mk (if jump.isNone then .ready else .done) jump))∧
    (W3.putObj (D+1) (.loop (mk (if jump.isNone then .ready else .done) jump))).heap[D]? =some (.deferred (some [])):=fun jump W3 hk3=>by
   have l3:=hk3.same _ _ l2a (by rw[hbz];rfl)
   have d3:=hk3.same _ _ d2a rfl
   have l3':=l3
   rw[hbz]at l3'
   have hr:=run_endRound (P:=P) jump l3'
   rw[hmk]at hr ⊢
   exact ⟨hr,l3,World.putObj_heap_same (Array.getElem?_eq_some_iff.1 l3).1,(World.putObj_heap_other (by omega)).trans d3⟩
  have hbc:bz.isCells=false:=by rw[hbz];rfl
  have hbw:bz.isWalk=false:=by rw[hbz];rfl
  rintro e a3 W3 hp
  cases e with
  | normal=>
   obtain ⟨hk3,hkp,hi3⟩:=hp
   obtain ⟨hr,l3,l4,d4⟩:=fin none W3 hk3
   exact ⟨_,_,hr,.inl ⟨rfl,⟨hI.putObj _ hi3 (by omega) l3 hbc,l4,d4⟩,hKt (hKt k2a hkp) (hKb _ _ _ _ (by omega) l3 hbc hbw)⟩⟩
  | ret=>
   obtain ⟨hk3,hi3⟩:=hp
   obtain ⟨hr,l3,l4,d4⟩:=fin (some .ret) W3 hk3
   exact ⟨_,_,hr,.inr ⟨rfl,.ret,(hIx _).putObj _ hi3 (by omega) l3 hbc,l4,d4⟩⟩
  | exit id=>
   obtain ⟨hk3,hi3⟩:=hp
   obtain ⟨hr,l3,l4,d4⟩:=fin (some (.exit id)) W3 hk3
   exact ⟨_,_,hr,.inr ⟨rfl,.exit id,(hIx _).putObj _ hi3 (by omega) l3 hbc,l4,d4⟩⟩
  | goto t=>
   obtain ⟨hk3,hi3⟩:=hp
   obtain ⟨hr,l3,l4,d4⟩:=fin (some (.goto t)) W3 hk3
   exact ⟨_,_,hr,.inr ⟨rfl,.goto t,(hIx _).putObj _ hi3 (by omega) l3 hbc,l4,d4⟩⟩
  | panic ch=>exact hp.elim
  | outgrown=>exact hp.elim
 ·rintro e W2 ⟨⟨v,rfl⟩,(⟨xs,hS,hi,hl,hd⟩ | ⟨pre,hSp,c,hi,hl,hd⟩)⟩
  ·have hr:=run_endLoop (P:=P) hl (by rw[hmk];simp)
   refine ⟨none,_,by rw[hr,hmk],?_⟩
   have:=hdone D xs (W2.putObj (D+1) (.loop {mk .ready none with state:=.exhausted})) (by omega) hS (hI.putObj _ hi (by omega) hl rfl) ((World.putObj_heap_other (by omega)).trans hd)
   rw[hmk]at this
   exact this
  ·have hr:=run_endLoop (P:=P) hl (by rw[hmk];simp)
   refine ⟨some c,_,by rw[hr,hmk],?_⟩
   have:=hstop D c pre (W2.putObj (D+1) (.loop {mk .done (some c) with state:=.exhausted})) (by omega) hSp ((hIx c).putObj _ hi (by omega) hl rfl) ((World.putObj_heap_other (by omega)).trans hd)
   rw[hmk]at this
   exact this
theorem agreeK_a {T:Nat→Prop} {w:World} (W:World) (o:Obj) (_:w.heap.size≤W.heap.size):Agree T W (W.alloc o):=(Agree.refl T W).alloc o
end Go.Proofs.YtaijafjfafbcfaaGreat
