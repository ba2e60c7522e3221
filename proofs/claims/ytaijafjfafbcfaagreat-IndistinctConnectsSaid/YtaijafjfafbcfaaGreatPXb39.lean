/- Part of the proof that the laws answer true for every input. -/
import Derived.Test.YtaijafjfafbcfaaGreatPXb38
import Derived.Test.YtaijafjfafbcfaaGreatPXb36
import Derived.Test.YtaijafjfafbcfaaGreatPXb37
import Derived.Test.YtaijafjfafbcfaaGreatPXb34
set_option linter.unusedSimpArgs false
set_option linter.unnecessarySimpa false
set_option linter.unusedVariables false
set_option maxRecDepth 100000
set_option maxHeartbeats 40000000
namespace Go.Proofs.YtaijafjfafbcfaaGreat
theorem numS_labs {K:Type} [DecidableEq K] (l:List K):numS (labs l)=(firsts l).length:=by
 have key:∀(n:Nat) (l:List K),l.length=n→numS (labs l)=(firsts l).length:=by
  intro n
  induction n with
  | zero=>intro l hl;have:=List.eq_nil_of_length_eq_zero hl;subst this;rfl
  | succ n ih=>
   intro l hl
   obtain ⟨m,x,rfl⟩:∃m x,l=m++[x]:=⟨l.dropLast,l.getLast (by intro h;subst h;simp at hl),(List.dropLast_concat_getLast _).symm⟩
   have hm:=ih m (by simpa using hl)
   rw[labs_snoc,numS_snoc,hm]
   by_cases h:x∈m
   ·rw[lab_snoc h,firsts_old h]
    have:=lab_lt h
    omega
   ·rw[lab_new h,firsts_new h]
    simp;omega
 exact key _ l rfl
theorem take_labs {K:Type} [DecidableEq K] (l:List K):∀k,(labs l).take k=labs (l.take k):=by
 have key:∀(n:Nat) (l:List K),l.length=n→∀k,(labs l).take k=labs (l.take k):=by
  intro n
  induction n with
  | zero=>intro l hl k;have:=List.eq_nil_of_length_eq_zero hl;subst this;simp[labs]
  | succ n ih=>
   intro l hl k
   obtain ⟨m,x,rfl⟩:∃m x,l=m++[x]:=⟨l.dropLast,l.getLast (by intro h;subst h;simp at hl),(List.dropLast_concat_getLast _).symm⟩
   have hmn:m.length=n:=by simpa using hl
   by_cases hk:k≤n
   ·rw[labs_snoc,List.take_append_of_le_length (by simp;omega),List.take_append_of_le_length (by omega)]
    exact ih m hmn k
   ·rw[List.take_of_length_le (by simp;omega),List.take_of_length_le (by simp;omega)]
 exact key _ l rfl
theorem good_labs {K:Type} [DecidableEq K] {l:List K} (h:l.length≤65536):Good (labs l):=by
 refine ⟨by simpa using h,fun i hi=>?_⟩
 simp at hi
 have e1:(labs l).take (i+1)=(labs l).take i++[nth (labs l) i]:=take_nth (by simpa using hi)
 rw[take_labs,take_labs,List.take_succ_eq_append_getElem hi,labs_snoc]at e1
 have e2:=List.append_cancel_left e1
 simp only[List.cons.injEq,and_true]at e2
 rw[take_labs,numS_labs,←e2]
 by_cases hm:l[i]∈l.take i
 ·rw[lab_snoc hm]
  have:=lab_lt hm
  omega
 ·rw[lab_new hm];omega
structure Pair (a b:List Int):Prop where
 left:Good a
 right:Good b
 len:b.length=a.length
theorem Pair.both {a b:List Int} (h:Pair a b):bothS a b=0:=by
 simp[bothS,checkS_good.2 h.left,checkS_good.2 h.right,h.len]
theorem Pair.symm {a b:List Int} (h:Pair a b):Pair b a:=⟨h.right,h.left,h.len.symm⟩
theorem Pair.refl {a:List Int} (h:Good a):Pair a a:=⟨h,h,rfl⟩
theorem meetS_keys {a b:List Int} (hl:b.length=a.length):meetS a b=labs (keys (fun i=>(nth a i,nth b i)) a.length):=by
 unfold meetS
 congr 1
 apply List.ext_getElem
 ·simp;omega
 ·intro i h1 h2
  simp at h1 h2
  simp[keys,nth_eq h2,nth_eq (show i<b.length by omega)]
@[simp] theorem length_joinS (a b:List Int):(joinS a b).length=a.length:=by simp[joinS]
theorem length_meetS {a b:List Int} (hl:b.length=a.length):(meetS a b).length=a.length:=by rw[meetS_keys hl];simp
theorem Pair.join {a b:List Int} (h:Pair a b):Pair a (joinS a b):=⟨h.left,good_labs (by simp;exact h.left.1),by simp⟩
end Go.Proofs.YtaijafjfafbcfaaGreat
namespace Go.Proofs.YtaijafjfafbcfaaGreat
open Go.RowKit
attribute [local go_sem ↓] Go.wp_at_zero Go.wp_at_succ
theorem clsL_good {s:SysF} (q:Nat) (h:s.ex.length≤65536):Good (clsL s q):=good_labs (by simp[keys];exact h)
theorem cmpL_good {s:SysF} (h:s.ex.length≤65536):∀p,Good (cmpL s p)
 | 0=>clsL_good 0 h
 | p+1=>(Pair.join ⟨cmpL_good h p,clsL_good (p+1) h,by rw[clsL_len,cmpL_len]⟩).right
theorem cmpL_succ (s:SysF) (p:Nat):cmpL s (p+1)=joinS (cmpL s p) (clsL s (p+1)):=rfl
end Go.Proofs.YtaijafjfafbcfaaGreat
namespace Go.Proofs.YtaijafjfafbcfaaGreat
open Go.RowKit
attribute [local go_sem ↓] Go.wp_at_zero Go.wp_at_succ
def dstL (s:SysF) (f:Nat):List Int:=(List.range s.ex.length).map (dstV s f)
theorem dstL_len (s:SysF) (f:Nat):(dstL s f).length=s.ex.length:=by simp[dstL]
theorem dstL_at (s:SysF) (f:Nat) {e:Nat} (h:e<s.ex.length):nth (dstL s f) e=dstV s f e:=by simp[dstL,nth,h]
theorem Far.eq {s:SysF} {f:Nat} {l:List Int} (h:Far s f l):l=dstL s f:=list_ext' (by rw[dstL_len];exact h.1) fun i hi=>by
 rw[h.1]at hi
 rw[dstL_at _ _ hi];exact h.2 i hi
theorem dstL_wf {s:SysF} (f:Nat) (h:s.ex.length≤4096):∀x∈dstL s f,WF x:=fun x hx=>by
 obtain ⟨e,he,rfl⟩:=List.mem_map.1 hx
 have:=dst_bound f (List.mem_range.1 he)
 exact WF.small (by omega)
def Fs (s:SysF) (f d e g:Nat) (l:List Int):Prop:=
 (l=levL s f d e∧∀i,i<g→¬(levV s f d e i=d∧byN s e i≠0))∨
 (l=(levL s f d e).set e (d+1)∧levV s f d e e<0∧∃i,i<s.ex.length∧levV s f d e i=d∧byN s e i≠0)
theorem Fs.start (s:SysF) (f d e:Nat):Fs s f d e 0 (levL s f d e):=.inl ⟨rfl,fun i hi=>absurd hi (by omega)⟩
theorem Fs.len {s:SysF} {f d e g:Nat} {l:List Int} (h:Fs s f d e g l):l.length=s.ex.length:=by
 rcases h with ⟨rfl,_⟩ | ⟨rfl,_⟩
 ·exact levL_len _ _ _ _
 ·rw[List.length_set];exact levL_len _ _ _ _
theorem Fs.stop {s:SysF} {f d e g:Nat} {l:List Int} (h:Fs s f d e g l) (he:e<s.ex.length) (hx:s.ex.length≤g∨¬nth l e<0):l=levL s f d (e+1):=by
 rcases h with ⟨rfl,hn⟩ | ⟨rfl,h0,i,hi,h1⟩
 ·rcases lev_step (f:=f) (d:=d) he with ⟨h1,h2⟩ | ⟨h1,h2,h3⟩ | ⟨h1,⟨i,hi,h2⟩,h3⟩
  ·exact h2.symm
  ·exact h3.symm
  ·rw[levL_at _ _ _ _ he]at hx
   rcases hx with hx | hx
   ·exact absurd h2 (hn i (by omega))
   ·exact absurd h1 hx
 ·rcases lev_step (f:=f) (d:=d) he with ⟨h2,_⟩ | ⟨_,h2,_⟩ | ⟨_,_,h3⟩
  ·omega
  ·exact absurd h1 (h2 i hi)
  ·exact h3.symm
theorem Fs.in {s:SysF} {f d e g:Nat} {l:List Int} (h:Fs s f d e g l) (he:e<s.ex.length) (hx:nth l e<0):l=levL s f d e∧∀i,i<g→¬(levV s f d e i=d∧byN s e i≠0):=by
 rcases h with h | ⟨rfl,h0,_⟩
 ·exact h
 ·rw[nth_set' (by rw[levL_len];exact he),if_pos rfl]at hx;omega
theorem Fs.next {s:SysF} {f d e g:Nat} {l:List Int} (h:Fs s f d e g l) (he:e<s.ex.length) (hg:g<s.ex.length) (hx:nth l e<0) (hn:¬(nth l g=d∧byN s e g≠0)):Fs s f d e (g+1) l:=by
 obtain ⟨rfl,h1⟩:=h.in he hx
 rw[levL_at _ _ _ _ hg]at hn
 refine .inl ⟨rfl,fun i hi=>?_⟩
 by_cases e1:i=g
 ·subst e1;exact hn
 ·exact h1 i (by omega)
theorem Fs.hit {s:SysF} {f d e g:Nat} {l:List Int} (h:Fs s f d e g l) (he:e<s.ex.length) (hg:g<s.ex.length) (hx:nth l e<0) (h1:nth l g=d) (h2:byN s e g≠0):Fs s f d e (g+1) (l.set e (d+1)):=by
 obtain ⟨rfl,_⟩:=h.in he hx
 rw[levL_at _ _ _ _ hg]at h1
 rw[levL_at _ _ _ _ he]at hx
 exact .inr ⟨rfl,hx,g,hg,h1,h2⟩
theorem Row.intAt {w:World} {g:Nat} {t:TypeId} {l:List Int} (R:Row w g t (l.map (Value.int .i64))) {k:Nat} (h:k<l.length):w.cell? ⟨g,k,none⟩=some (.int .i64 (nth l k)):=R.cell (j:=k) (by rw[List.getElem?_map,get?_nth h];rfl)
theorem Row.intSet {w:World} {g:Nat} {t:TypeId} {l:List Int} (R:Row w g t (l.map (Value.int .i64))) (k:Nat) (x:Int):Row (w.setCell ⟨g,k,none⟩ (.int .i64 x)) g t ((l.set k x).map (Value.int .i64)):=by
 rw[List.map_set];exact R.set k _
def fillL (n k:Nat):List Int:=List.replicate k (-1)++List.replicate (n - k) 0
theorem fillL_len {n k:Nat} (h:k≤n):(fillL n k).length=n:=by simp[fillL];omega
theorem fillL_zero (n:Nat):(fillL n 0).map (Value.int .i64)=List.replicate n (.int .i64 0):=by simp[fillL]
theorem fillL_full (n:Nat):fillL n n=List.replicate n (-1):=by simp[fillL]
theorem fillL_set {n k:Nat} (h:k<n):(fillL n k).set k (-1)=fillL n (k+1):=by
 unfold fillL
 rw[List.set_append_right _ _ (by simp)]
 have e:n - k=(n - (k+1))+1:=by omega
 rw[e,List.replicate_succ,List.replicate_succ']
 simp
end Go.Proofs.YtaijafjfafbcfaaGreat
namespace Go.Proofs.YtaijafjfafbcfaaGreat
open Go.RowKit
attribute [local go_sem ↓] Go.wp_at_zero Go.wp_at_succ
end Go.Proofs.YtaijafjfafbcfaaGreat
namespace Go.Proofs.YtaijafjfafbcfaaGreat
open Go.RowKit
attribute [local go_sem ↓] Go.wp_at_zero Go.wp_at_succ
theorem info_link:(Tryz.prog.info? 70).map (fun i=>(i.zero,i.size,i.bytes))=some (some (.agg #[.int .i64 0,.int .i64 0]),2,16):=by kernel_rfl
def lenV:Value→Nat
 | .slice _ n _=>n
 | _=>0
theorem wlkL_of {s:SysF} {f e d:Nat} (h:dstV s f e=d):wlkL s f e=wlkTo s f e d:=by unfold wlkL;rw[h,if_neg (by omega),Int.toNat_natCast]
theorem sub1_in {x:Int} (h: -100000≤x∧x≤100000):IntKind.i64.wrap (x - 1)=x - 1:=by rw[IntWalk.i64_left,IntWalk.wrap64_in _ (by omega)]
end Go.Proofs.YtaijafjfafbcfaaGreat
namespace Go.Proofs.YtaijafjfafbcfaaGreat
open Go.RowKit
attribute [local go_sem ↓] Go.wp_at_zero Go.wp_at_succ
theorem info_linkZ:(Tryz.prog.info? 70).map (fun i=>i.size)=some 2:=by kernel_rfl
theorem idx_link {S:Nat→Prop} {w:World} {a:Option Addr} {n cap:Nat} (h:Ad S w a n cap):∀k:Nat,k<n→∀W:World,(Instr.indexAt 53 (.slice a n cap) (.int .i64 k)).run Tryz.prog W=.ok (.pointer (some (adr a (k * 2)))) W:=by
 obtain ⟨i,hi,hs⟩:=Option.map_eq_some_iff.1 info_linkZ
 exact idx_wide Tryz.underlying53 hi hs h
theorem linkE_in {s:SysF} {w:List (List Int)} {i:Nat} (h:linkE s w i=0):∃x:Nat,nth (nthL w i) 0=x∧x<s.ex.length:=by
 unfold linkE at h
 by_cases h1:nth (nthL w i) 0<0∨(s.ex.length:Int)≤nth (nthL w i) 0
 ·rw[if_pos h1]at h;cases h
 ·exact ⟨(nth (nthL w i) 0).toNat,by omega,by omega⟩
end Go.Proofs.YtaijafjfafbcfaaGreat
namespace Go.Proofs.YtaijafjfafbcfaaGreat
open Go.RowKit
attribute [local go_sem ↓] Go.wp_at_zero Go.wp_at_succ
theorem equal_link (d:Nat) (a b:List Int) (W:World):(Op.equalIn (d+2) 70 (.agg #[.int .i64 (nth a 0),.int .i64 (nth a 1)]) (.agg #[.int .i64 (nth b 0),.int .i64 (nth b 1)])).run Tryz.prog W=.ok (eqN 2 a b) W:=by
 have hF : (Tryz.prog.fieldsOf 70).toList.map (fun f => (f.name, f.type, f.offset)) = [("Execution", 3, 0), ("Proc", 3, 1)] := by kernel_rfl
 rw[run_equalIn_struct W (d+1) 70 _ _ (by kernel_rfl) (by kernel_rfl)]
 obtain ⟨x0,x1,hab⟩:∃x0 x1,(Tryz.prog.fieldsOf 70).toList=[x0,x1]:=by
  have:=congrArg List.length hF
  simp only[List.length_map,List.length_cons,List.length_nil]at this
  match h:(Tryz.prog.fieldsOf 70).toList,this with
  | [x0,x1],_=>exact ⟨x0,x1,rfl⟩
 rw[hab]at hF ⊢
 simp only[List.map_cons,List.map_nil,List.cons.injEq,Prod.mk.injEq,and_true]at hF
 obtain ⟨⟨n0,t0,o0⟩,n1,t1,o1⟩:=hF
 have q0:∀(W:World) (a:List Int),(Go.part 3 #[.int .i64 (nth a 0),.int .i64 (nth a 1)] 0).run Tryz.prog W=.ok (.int .i64 (nth a 0)) W:=fun W a=>part_one W [.int .i64 (nth a 0),.int .i64 (nth a 1)] 0 _ rfl
 have q1:∀(W:World) (a:List Int),(Go.part 3 #[.int .i64 (nth a 0),.int .i64 (nth a 1)] 1).run Tryz.prog W=.ok (.int .i64 (nth a 1)) W:=fun W a=>part_one W [.int .i64 (nth a 0),.int .i64 (nth a 1)] 1 _ rfl
 have he:∀(W:World) (a b:Int),(Op.equalIn (d+1) 3 (.int .i64 a) (.int .i64 b)).run Tryz.prog W=.ok (a==b) W:=fun W a b=>run_equalIn_int W d _ _ _ a b Tryz.underlying3
 simp only[Op.eqFields,n0,t0,o0,q0,n1,t1,o1,q1,Sem.run_ite,Sem.run_bind,he,Result.andThen_ok,Sem.run_pure,ne_eq,String.reduceEq,not_false_eq_true,if_true]
 simp only[eqN,allN,Bool.true_and]
 cases nth a 0==nth b 0<;>cases nth a 1==nth b 1<;>rfl
theorem equalW_quiet {S S':Nat→Prop} {w:World} {v1 v2:Value} {l:List (List Int)} (h1:Sl (kFlat 2) S w v1 l) (h2:Sl (kFlat 2) S' w v2 l):
  Calls Tryz.prog 32 #[v1,v2] w (QuietP w (.bool true)):=by
 obtain ⟨a1,cap1,rfl,ha1,_,hm1,hf1⟩:=h1.form2
 obtain ⟨a2,cap2,rfl,ha2,_,_,_⟩:=h2.form2
 have H1:=Lib.hid h1
 have H2:=Lib.hid h2
 have hix1:=idx_link ha1
 have hix2:=idx_link ha2
 clear h1 h2 hm1
 have hne:((l.length:Int) !=l.length)=false:=by simp
 go_enter Tryz.func32,Tryz.ntmps32
 go_wp2
 go_loopw [5,13] (fun _ i wr=>∃k:Nat,k≤l.length∧i=.int .i64 k∧(∃m,wr=w.drewN m)) (fun _ i _=>l.length - (intOf i).toNat)
 case atStart=>exact ⟨0,by omega,rfl,⟨0,rfl⟩⟩
 case round=>
  obtain ⟨k,hk,rfl,⟨m,rfl⟩⟩:=hrel
  by_cases hlt:k<l.length
  ·have q1:=hix1 k hlt
   have q2:=hix2 k hlt
   have z1:=H1.out.nums hlt (by decide)
   have z2:=H2.out.nums hlt (by decide)
   have g1:=(H1.out.num hlt).1
   obtain ⟨x,hx⟩:∃x,x=nthL l k:=⟨_,rfl⟩
   rw[←hx]at z1 z2 g1
   have p0:=z1.1
   have r0:=z2.1
   have p1:=z1.2 1 (by decide)
   have r1:=z2.2 1 (by decide)
   have EQ:∀W:World,(Op.equalIn 10000 70 (.agg #[.int .i64 (nth x 0),.int .i64 (nth x 1)]) (.agg #[.int .i64 (nth x 0),.int .i64 (nth x 1)])).run Tryz.prog W=.ok true W:=fun W=>by
    have:=equal_link 9998 x x W
    rw[eqN_eq g1 g1,decide_eq_true rfl]at this;exact this
   clear hix1 hix2 z1 z2 g1 hx
   go_wp2
   go_quiet (fail)
   go_wp2
   go_roundw
   case rel=>exact ⟨k+1,by omega,by go_num,⟨_,rfl⟩⟩
   case measure=>simp[intOf];omega
  ·go_wp2
   go_ret
   exact .of rfl _
end Go.Proofs.YtaijafjfafbcfaaGreat
namespace Go.Proofs.YtaijafjfafbcfaaGreat
open Go.RowKit
attribute [local go_sem ↓] Go.wp_at_zero Go.wp_at_succ
def lnkA (s:SysF) (e f:Int):Int:=if thE s e f=0 then (byN s e.toNat f.toNat:Int) else 0
def LnkR (s:SysF) (e f:Int) (r:Value):Prop:=r=.tuple #[.int .i64 (lnkA s e f),.int .i64 (thE s e f)]
def clE (s:SysF) (q:Int):Int:=if verE s=0 then (if q<0∨(s.N:Int)≤q then 2 else 0) else verE s
def ClsR (B:Nat) (s:SysF) (q:Int) (w':World) (r:Value):Prop:=
 (clE s q=0∧∃u,r=.tuple #[u,.int .i64 0]∧Ints (fun b=>B≤b) w' u (clsL s q.toNat))∨(clE s q≠0∧r=.tuple #[.slice none 0 0,.int .i64 (clE s q)])
def CmpR (B:Nat) (s:SysF) (w':World) (r:Value):Prop:=
 (verE s=0∧∃u,r=.tuple #[u,.int .i64 0]∧Ints (fun b=>B≤b) w' u (cmpL s (s.N - 1)))∨(verE s≠0∧r=.tuple #[.slice none 0 0,.int .i64 (verE s)])
def WlkR (B:Nat) (s:SysF) (e f:Int) (w':World) (r:Value):Prop:=
 (thE s e f=0∧∃u,r=.tuple #[u,.bool (decide (0≤dstV s f.toNat e.toNat)),.int .i64 0]∧Sl (kFlat 2) (fun b=>B≤b) w' u (wlkL s f.toNat e.toNat))∨(thE s e f≠0∧r=.tuple #[.slice none 0 0,.bool false,.int .i64 (thE s e f)])
def dstA (s:SysF) (e f:Int):Int:=if thE s e f=0∧0≤dstV s f.toNat e.toNat then dstV s f.toNat e.toNat else 0
def dstB (s:SysF) (e f:Int):Bool:=decide (thE s e f=0∧0≤dstV s f.toNat e.toNat)
def DstR (s:SysF) (e f:Int) (r:Value):Prop:=r=.tuple #[.int .i64 (dstA s e f),.bool (dstB s e f),.int .i64 (thE s e f)]
theorem lnk_ok {s:SysF} {x y:Nat} (h:thE s x y=0):LnkR s x y (.tuple #[.int .i64 (byN s x y),.int .i64 0]):=by
 unfold LnkR lnkA;rw[if_pos h,h,Int.toNat_natCast,Int.toNat_natCast]
theorem lnk_err {s:SysF} {e f:Int} (h:thE s e f≠0):LnkR s e f (.tuple #[.int .i64 0,.int .i64 (thE s e f)]):=by
 unfold LnkR lnkA;rw[if_neg h]
theorem cls_ok {B:Nat} {s:SysF} {x:Nat} {w':World} {u:Value} (h:clE s x=0) (hu:Ints (fun b=>B≤b) w' u (clsL s x)):ClsR B s x w' (.tuple #[u,.int .i64 0]):=.inl ⟨h,u,rfl,by rw[Int.toNat_natCast];exact hu⟩
theorem wlk_ok {B:Nat} {s:SysF} {x y:Nat} {w':World} {u:Value} (h:thE s x y=0) (hd:0≤dstV s y x) (hu:Sl (kFlat 2) (fun b=>B≤b) w' u (wlkL s y x)):WlkR B s x y w' (.tuple #[u,.bool true,.int .i64 0]):=
 .inl ⟨h,u,by rw[Int.toNat_natCast,Int.toNat_natCast,decide_eq_true hd],by rw[Int.toNat_natCast,Int.toNat_natCast];exact hu⟩
theorem wlk_no {B:Nat} {s:SysF} {x y:Nat} {w':World} (h:thE s x y=0) (hd:dstV s y x<0):WlkR B s x y w' (.tuple #[.slice none 0 0,.bool false,.int .i64 0]):=
 .inl ⟨h,_,by rw[Int.toNat_natCast,Int.toNat_natCast,decide_eq_false (by omega)],by
  rw[Int.toNat_natCast,Int.toNat_natCast,show wlkL s y x=[] by unfold wlkL;rw[if_pos hd]];exact Sl.nil _ _ _⟩
theorem dst_ok {s:SysF} {x y:Nat} (h:thE s x y=0) (hd:0≤dstV s y x):DstR s x y (.tuple #[.int .i64 (dstV s y x),.bool true,.int .i64 0]):=by
 unfold DstR dstA dstB
 rw[Int.toNat_natCast,Int.toNat_natCast,if_pos ⟨h,hd⟩,decide_eq_true ⟨h,hd⟩,h]
theorem dst_no {s:SysF} {x y:Nat} (h:thE s x y=0) (hd:dstV s y x<0):DstR s x y (.tuple #[.int .i64 0,.bool false,.int .i64 0]):=by
 unfold DstR dstA dstB
 rw[Int.toNat_natCast,Int.toNat_natCast,if_neg (by omega),decide_eq_false (by omega),h]
theorem dst_err {s:SysF} {e f:Int} (h:thE s e f≠0):DstR s e f (.tuple #[.int .i64 0,.bool false,.int .i64 (thE s e f)]):=by
 unfold DstR dstA dstB
 rw[if_neg (fun h2=>h h2.1),decide_eq_false (fun h2=>h h2.1)]
end Go.Proofs.YtaijafjfafbcfaaGreat
