/- Part of the proof that the laws answer true for every input. -/
import Derived.Test.YtaijafjfafbcfaaGreatPXa36
import Derived.Test.YtaijafjfafbcfaaGreatPXa31
set_option linter.unusedSimpArgs false
set_option linter.unnecessarySimpa false
set_option linter.unusedVariables false
set_option maxRecDepth 100000
set_option maxHeartbeats 40000000
namespace Go.Proofs.YtaijafjfafbcfaaGreat
open Go.RowKit
attribute [local go_sem ↓] Go.wp_at_zero Go.wp_at_succ
def dstL (s:SysF) (f:Nat):List Int:=(List.range s.ex.length).map (dstV s f)
theorem dstL_len (s:SysF) (f:Nat):(dstL s f).length=s.ex.length:=by simp[dstL]
theorem dstL_at (s:SysF) (f:Nat) {e:Nat} (h:e<s.ex.length):nth (dstL s f) e=dstV s f e:=by simp[dstL,nth,h]
theorem Far.eq {s:SysF} {f:Nat} {l:List Int} (h:Far s f l):l=dstL s f:=list_ext' (by rw[dstL_len];exact h.1) fun i hi=>by
 rw[h.1]at hi
 rw[dstL_at _ _ hi];exact h.2 i hi
theorem dstL_wf {s:SysF} (f:Nat) (h:s.ex.length≤4096):∀x∈dstL s f,WF x:=fun x hx=>by
 obtain ⟨e,he,rfl⟩:=List.mem_map.1 hx
 have:=dst_bound f (List.mem_range.1 he)
 exact WF.small (by omega)
def Fs (s:SysF) (f d e g:Nat) (l:List Int):Prop:=
 (l=levL s f d e∧∀i,i<g→¬(levV s f d e i=d∧byN s e i≠0))∨
 (l=(levL s f d e).set e (d+1)∧levV s f d e e<0∧∃i,i<s.ex.length∧levV s f d e i=d∧byN s e i≠0)
theorem Fs.start (s:SysF) (f d e:Nat):Fs s f d e 0 (levL s f d e):=.inl ⟨rfl,fun i hi=>absurd hi (by omega)⟩
theorem Fs.len {s:SysF} {f d e g:Nat} {l:List Int} (h:Fs s f d e g l):l.length=s.ex.length:=by
 rcases h with ⟨rfl,_⟩ | ⟨rfl,_⟩
 ·exact levL_len _ _ _ _
 ·rw[List.length_set];exact levL_len _ _ _ _
theorem Fs.stop {s:SysF} {f d e g:Nat} {l:List Int} (h:Fs s f d e g l) (he:e<s.ex.length) (hx:s.ex.length≤g∨¬nth l e<0):l=levL s f d (e+1):=by
 rcases h with ⟨rfl,hn⟩ | ⟨rfl,h0,i,hi,h1⟩
 ·rcases lev_step (f:=f) (d:=d) he with ⟨h1,h2⟩ | ⟨h1,h2,h3⟩ | ⟨h1,⟨i,hi,h2⟩,h3⟩
  ·exact h2.symm
  ·exact h3.symm
  ·rw[levL_at _ _ _ _ he]at hx
   rcases hx with hx | hx
   ·exact absurd h2 (hn i (by omega))
   ·exact absurd h1 hx
 ·rcases lev_step (f:=f) (d:=d) he with ⟨h2,_⟩ | ⟨_,h2,_⟩ | ⟨_,_,h3⟩
  ·omega
  ·exact absurd h1 (h2 i hi)
  ·exact h3.symm
theorem Fs.in {s:SysF} {f d e g:Nat} {l:List Int} (h:Fs s f d e g l) (he:e<s.ex.length) (hx:nth l e<0):l=levL s f d e∧∀i,i<g→¬(levV s f d e i=d∧byN s e i≠0):=by
 rcases h with h | ⟨rfl,h0,_⟩
 ·exact h
 ·rw[nth_set' (by rw[levL_len];exact he),if_pos rfl]at hx;omega
theorem Fs.next {s:SysF} {f d e g:Nat} {l:List Int} (h:Fs s f d e g l) (he:e<s.ex.length) (hg:g<s.ex.length) (hx:nth l e<0) (hn:¬(nth l g=d∧byN s e g≠0)):Fs s f d e (g+1) l:=by
 obtain ⟨rfl,h1⟩:=h.in he hx
 rw[levL_at _ _ _ _ hg]at hn
 refine .inl ⟨rfl,fun i hi=>?_⟩
 by_cases e1:i=g
 ·subst e1;exact hn
 ·exact h1 i (by omega)
theorem Fs.hit {s:SysF} {f d e g:Nat} {l:List Int} (h:Fs s f d e g l) (he:e<s.ex.length) (hg:g<s.ex.length) (hx:nth l e<0) (h1:nth l g=d) (h2:byN s e g≠0):Fs s f d e (g+1) (l.set e (d+1)):=by
 obtain ⟨rfl,_⟩:=h.in he hx
 rw[levL_at _ _ _ _ hg]at h1
 rw[levL_at _ _ _ _ he]at hx
 exact .inr ⟨rfl,hx,g,hg,h1,h2⟩
theorem Row.intAt {w:World} {g:Nat} {t:TypeId} {l:List Int} (R:Row w g t (l.map (Value.int .i64))) {k:Nat} (h:k<l.length):w.cell? ⟨g,k,none⟩=some (.int .i64 (nth l k)):=R.cell (j:=k) (by rw[List.getElem?_map,get?_nth h];rfl)
theorem Row.intSet {w:World} {g:Nat} {t:TypeId} {l:List Int} (R:Row w g t (l.map (Value.int .i64))) (k:Nat) (x:Int):Row (w.setCell ⟨g,k,none⟩ (.int .i64 x)) g t ((l.set k x).map (Value.int .i64)):=by
 rw[List.map_set];exact R.set k _
def fillL (n k:Nat):List Int:=List.replicate k (-1)++List.replicate (n - k) 0
theorem fillL_len {n k:Nat} (h:k≤n):(fillL n k).length=n:=by simp[fillL];omega
theorem fillL_zero (n:Nat):(fillL n 0).map (Value.int .i64)=List.replicate n (.int .i64 0):=by simp[fillL]
theorem fillL_full (n:Nat):fillL n n=List.replicate n (-1):=by simp[fillL]
theorem fillL_set {n k:Nat} (h:k<n):(fillL n k).set k (-1)=fillL n (k+1):=by
 unfold fillL
 rw[List.set_append_right _ _ (by simp)]
 have e:n - k=(n - (k+1))+1:=by omega
 rw[e,List.replicate_succ,List.replicate_succ']
 simp
theorem rfar_calls {S:Nat→Prop} {w:World} {v:Value} {s:SysF} {f:Nat} (h:SysV S w v s) (hg:GoodS s s.N s.K) (hl:s.ex.length≤4096) (hf:f<s.ex.length):
  Calls Tryz.prog 45 #[v,.int .i64 f] w (Post w fun w' r=>Ints (fun b=>w.heap.size≤b) w' r (dstL s f)):=by
 have KB:Hid (∀e,e<s.ex.length→∀g,g<s.ex.length→∀W,Below w.heap.size w W→Calls Tryz.prog 36 #[v,.int .i64 e,.int .i64 g] W (Post W fun _ r=>r=.int .i64 (byN s e g))):=Lib.hid fun e he g hg' W hW=>rby_calls (h.ext hW) hg he hg'
 have HL0:=Lib.hid (lev_start hf)
 have HLN:=Lib.hid (lev_next s f)
 have HLE:=Lib.hid (lev_done s f).eq
 have HWF:=Lib.hid (dstL_wf f hl)
 have HDL:=Lib.hid (dstL_len s f)
 have htn:s.tn=(s.N:Int):=hg.tn
 obtain ⟨vc,vs,vt,vx,rfl,hc,hs,ht,hx⟩:=h
 obtain ⟨ca,cc,rfl,_⟩:=hc.form
 obtain ⟨sa,sc,rfl,_⟩:=hs.form
 obtain ⟨ta,tc,rfl,_⟩:=ht.form
 obtain ⟨xa,xc,rfl,xad,_⟩:=hx.form2
 rw[htn]at KB ⊢
 have ex:=ext_alloc w (.cells #[.int .i64 s.p.n,.int .i64 s.p.ins,.int .i64 s.p.outs,.slice ca s.p.cs.length cc,.int .i64 s.p.an,.slice sa s.p.st.length sc,.int .i64 s.p.rounds,.int .i64 s.N,.slice ta s.tab.length tc,.slice xa s.ex.length xc] 35)
 have R0:=row_new w [.int .i64 s.p.n,.int .i64 s.p.ins,.int .i64 s.p.outs,.slice ca s.p.cs.length cc,.int .i64 s.p.an,.slice sa s.p.st.length sc,.int .i64 s.p.rounds,.int .i64 s.N,.slice ta s.tab.length tc,.slice xa s.ex.length xc] 35
 have R1:=Row.made (w.alloc (.cells #[.int .i64 s.p.n,.int .i64 s.p.ins,.int .i64 s.p.outs,.slice ca s.p.cs.length cc,.int .i64 s.p.an,.slice sa s.p.st.length sc,.int .i64 s.p.rounds,.int .i64 s.N,.slice ta s.tab.length tc,.slice xa s.ex.length xc] 35)) (.int .i64 0) s.ex.length 3
 replace R0:=R0.alloc (.cells (madeCells #[.int .i64 0] s.ex.length) 3)
 have ex2:=ext_alloc' ex (.cells (madeCells #[.int .i64 0] s.ex.length) 3)
 rw[World.size_alloc,←fillL_zero]at R1
 have R00:=row_new w [.int .i64 s.p.n,.int .i64 s.p.ins,.int .i64 s.p.outs,.slice ca s.p.cs.length cc,.int .i64 s.p.an,.slice sa s.p.st.length sc,.int .i64 s.p.rounds,.int .i64 s.N,.slice ta s.tab.length tc,.slice xa s.ex.length xc] 35
 have t9:=R00.cell (j:=9) rfl
 have l0:=R00.lt
 have hmk:=run_make_row' 44 3 (.int .i64 0) 8 Tryz.underlying44 info3 rfl .i64 .i64 s.ex.length (by omega) (by omega)
 clear hc hs ht hx xad hg htn ex R00
 go_enter Tryz.func45,Tryz.ntmps45
 go_wp2
 clear t9 l0 hmk
 go_loopw [6] (fun i wr=>∃k:Nat,k≤s.ex.length∧i=.int .i64 k∧Below w.heap.size w wr∧Row wr w.heap.size 35 [.int .i64 s.p.n,.int .i64 s.p.ins,.int .i64 s.p.outs,.slice ca s.p.cs.length cc,.int .i64 s.p.an,.slice sa s.p.st.length sc,.int .i64 s.p.rounds,.int .i64 s.N,.slice ta s.tab.length tc,.slice xa s.ex.length xc]∧Row wr (w.heap.size+1) 3 ((fillL s.ex.length k).map (Value.int .i64))) (fun i _=>s.ex.length - (intOf i).toNat)
 case atStart=>exact ⟨0,Nat.zero_le _,rfl,ex2,R0,R1⟩
 case round=>
  clear ex2 R0 R1
  obtain ⟨k,hk,rfl,ex,R0,R1⟩:=hrel
  by_cases hlt:k<s.ex.length
  case pos=>
   have c1:=R1.intAt (k:=k) (by rw[fillL_len hk];exact hlt)
   have f1:=R1.free k
   have l1:=R1.lt
   have R0':=R0.grown (grownBy_setCell wr (w.heap.size+1) k (.int .i64 (-1))) (fun e=>by injection e with e;omega)
   have R1':=R1.intSet k (-1)
   rw[fillL_set hlt]at R1'
   have ex':=ex.setCell (p:=⟨w.heap.size+1,k,none⟩) (by dsimp only;omega) (.int .i64 (-1))
   clear R0 R1 ex
   go_wp2
   go_roundw
   case rel=>exact ⟨k+1,by omega,by go_num,ex',R0',R1'⟩
   case measure=>simp[intOf];omega
  obtain rfl:k=s.ex.length:=by omega
  rw[fillL_full]at R1
  have c1:=R1.intAt (k:=f) (by simp;exact hf)
  have f1:=R1.free f
  have l1:=R1.lt
  have R0':=R0.grown (grownBy_setCell wr (w.heap.size+1) f (.int .i64 0)) (fun e=>by injection e with e;omega)
  have R1':=R1.intSet f 0
  rw[←HL0.out]at R1'
  have ex':=ex.setCell (p:=⟨w.heap.size+1,f,none⟩) (by dsimp only;omega) (.int .i64 0)
  clear R0 R1 ex
  go_wp2
  clear c1 f1 l1
  go_loopw [7,8,9] (fun i _ _ wr=>∃d:Nat,d≤s.ex.length∧i=.int .i64 d∧Below w.heap.size w wr∧Row wr w.heap.size 35 [.int .i64 s.p.n,.int .i64 s.p.ins,.int .i64 s.p.outs,.slice ca s.p.cs.length cc,.int .i64 s.p.an,.slice sa s.p.st.length sc,.int .i64 s.p.rounds,.int .i64 s.N,.slice ta s.tab.length tc,.slice xa s.ex.length xc]∧Row wr (w.heap.size+1) 3 ((levL s f d 0).map (Value.int .i64))) (fun i _ _ _=>s.ex.length - (intOf i).toNat)
  case atStart=>exact ⟨0,Nat.zero_le _,rfl,ex',R0',R1'⟩
  case round=>
   clear ex' R0' R1'
   obtain ⟨d,hd,rfl,ex,R0,R1⟩:=hrel
   by_cases hdn:d<s.ex.length
   case neg=>
    obtain rfl:d=s.ex.length:=by omega
    rw[HLE.out]at R1
    have HI:=Lib.hid ((R1.ints (by rw[HDL.out];unfold maxLen;omega) HWF.out).mono (S':=fun b=>w.heap.size≤b) fun b hb=>by omega)
    rw[HDL.out]at HI
    go_wp2
    go_ret
    exact .mk ex HI.out
   go_wp2
   go_loopw [8,9] (fun i _ wr=>∃e:Nat,e≤s.ex.length∧i=.int .i64 e∧Below w.heap.size w wr∧Row wr w.heap.size 35 [.int .i64 s.p.n,.int .i64 s.p.ins,.int .i64 s.p.outs,.slice ca s.p.cs.length cc,.int .i64 s.p.an,.slice sa s.p.st.length sc,.int .i64 s.p.rounds,.int .i64 s.N,.slice ta s.tab.length tc,.slice xa s.ex.length xc]∧Row wr (w.heap.size+1) 3 ((levL s f d e).map (Value.int .i64))) (fun i _ _=>s.ex.length - (intOf i).toNat)
   case atStart=>exact ⟨0,Nat.zero_le _,rfl,ex,R0,R1⟩
   case round=>
    clear ex R0 R1
    obtain ⟨e,he,rfl,ex,R0,R1⟩:=hrel
    by_cases hen:e<s.ex.length
    case neg=>
     obtain rfl:e=s.ex.length:=by omega
     rw[HLN.out]at R1
     go_wp2
     go_roundw
     case rel=>exact ⟨d+1,by omega,by go_num,ex,R0,R1⟩
     case measure=>simp[intOf];omega
    have HS0:=Lib.hid (Fs.start s f d e)
    go_wp2
    go_loopw [9] (fun i wr=>∃(g:Nat) (l:List Int),g≤s.ex.length∧i=.int .i64 g∧Below w.heap.size w wr∧Row wr w.heap.size 35 [.int .i64 s.p.n,.int .i64 s.p.ins,.int .i64 s.p.outs,.slice ca s.p.cs.length cc,.int .i64 s.p.an,.slice sa s.p.st.length sc,.int .i64 s.p.rounds,.int .i64 s.N,.slice ta s.tab.length tc,.slice xa s.ex.length xc]∧Row wr (w.heap.size+1) 3 ((l).map (Value.int .i64))∧Hid (Fs s f d e g l)) (fun i _=>s.ex.length - (intOf i).toNat)
    case atStart=>exact ⟨0,_,Nat.zero_le _,rfl,ex,R0,R1,HS0⟩
    case round=>
     clear ex R0 R1 HS0
     obtain ⟨g,l,hgl,rfl,ex,R0,R1,HS⟩:=hrel
     have hll:=Lib.hid HS.out.len
     by_cases hgn:g<s.ex.length
     case neg=>
      obtain rfl:g=s.ex.length:=by omega
      rw[HS.out.stop hen (.inl (Nat.le_refl _))]at R1
      clear HS hll
      go_wp2
      go_roundw
      case rel=>exact ⟨e+1,by omega,by go_num,ex,R0,R1⟩
      case measure=>simp[intOf];omega
     have ce:=R1.intAt (k:=e) (by rw[hll.out];exact hen)
     have lr:=R1.lt
     by_cases hx:nth l e<0
     case neg=>
      rw[HS.out.stop hen (.inr hx)]at R1
      have dx:decide (nth l e<0)=false:=decide_eq_false hx
      obtain ⟨x,hxx⟩:∃x,x=nth l e:=⟨_,rfl⟩
      rw[←hxx]at ce dx
      clear HS hll hx hxx
      go_wp2
      go_roundw
      case rel=>exact ⟨e+1,by omega,by go_num,ex,R0,R1⟩
      case measure=>simp[intOf];omega
     have dx:decide (nth l e<0)=true:=decide_eq_true hx
     have cg:=R1.intAt (k:=g) (by rw[hll.out];exact hgn)
     have HX:=Lib.hid hx
     have HY:Hid (nth l g=nth l g):=Lib.hid rfl
     obtain ⟨x,hxx⟩:∃x,x=nth l e:=⟨_,rfl⟩
     obtain ⟨y,hyy⟩:∃y,y=nth l g:=⟨_,rfl⟩
     rw[←hxx]at ce dx
     rw[←hyy]at cg
     have HYY:=Lib.hid hyy.symm
     clear hx hxx hyy HY
     by_cases hyd:y=(d:Int)
     case neg=>
      have dy:(y==(d:Int))=false:=by simp[hyd]
      have HN:=Lib.hid (HS.out.next hen hgn HX.out (fun h=>hyd (by rw[←HYY.out];exact h.1)))
      clear hyd
      go_wp2
      go_roundw
      case rel=>exact ⟨g+1,l,by omega,by go_num,ex,R0,R1,HN⟩
      case measure=>simp[intOf];omega
     have dy:(y==(d:Int))=true:=by simp[hyd]
     have HYD:Hid (nth l g=(d:Int)):=Lib.hid (by rw[HYY.out,hyd])
     have KB2:=Lib.hid (KB.out e hen g hgn wr ex)
     obtain ⟨b,hb⟩:∃b,b=byN s e g:=⟨_,rfl⟩
     rw[←hb]at KB2
     have HBB:=Lib.hid hb
     have t0:=R0.cell (j:=0) rfl
     have t1:=R0.cell (j:=1) rfl
     have t2:=R0.cell (j:=2) rfl
     have t3:=R0.cell (j:=3) rfl
     have t4:=R0.cell (j:=4) rfl
     have t5:=R0.cell (j:=5) rfl
     have t6:=R0.cell (j:=6) rfl
     have t7:=R0.cell (j:=7) rfl
     have t8:=R0.cell (j:=8) rfl
     have t9:=R0.cell (j:=9) rfl
     have l0:=R0.lt
     clear hyd hb
     go_wp2_with fail
     refine KB2.out.mono ?_
     rintro _ w1 ⟨_,rfl,hb,rfl⟩
     replace R0:=R0.ext hb
     replace R1:=R1.ext hb
     replace ex:=ext_trans ex hb
     clear KB2 t0 t1 t2 t3 t4 t5 t6 t7 t8 t9 l0 hb ce cg dx dy lr
     by_cases hb0:b=0
     case pos=>
      have d0:((b:Int) !=0)=false:=by simp[hb0]
      have HN:=Lib.hid (HS.out.next hen hgn HX.out (fun h=>h.2 (by rw[←HBB.out];exact hb0)))
      clear hb0
      go_wp2
      go_roundw
      case rel=>exact ⟨g+1,l,by omega,by go_num,ex,R0,R1,HN⟩
      case measure=>simp[intOf];omega
     have d0:((b:Int) !=0)=true:=by simp[hb0]
     have HN:=Lib.hid (HS.out.hit hen hgn HX.out HYD.out (by rw[←HBB.out];exact hb0))
     have ce:=R1.intAt (k:=e) (by rw[hll.out];exact hen)
     have fe:=R1.free e
     have lr:=R1.lt
     have R0':=R0.grown (grownBy_setCell w1 (w.heap.size+1) e (.int .i64 ((d:Int)+1))) (fun e=>by injection e with e;omega)
     have R1':=R1.intSet e ((d:Int)+1)
     have ex':=ex.setCell (p:=⟨w.heap.size+1,e,none⟩) (by dsimp only;omega) (.int .i64 ((d:Int)+1))
     clear hb0 R0 R1 ex HS hll
     go_wp2
     go_roundw
     case rel=>exact ⟨g+1,_,by omega,by go_num,ex',R0',R1',HN⟩
     case measure=>simp[intOf];omega
end Go.Proofs.YtaijafjfafbcfaaGreat
namespace Go.Proofs.YtaijafjfafbcfaaGreat
open Go.RowKit
attribute [local go_sem ↓] Go.wp_at_zero Go.wp_at_succ
theorem anyE_skip {P:Program} {Q:Exit→Act→World→Prop} {md:Region.Mode} {S:World→Prop} {X:Nat→Bool} {l:List Oper} (i:Nat) {oi:Oper} {fuel:Nat} {listed:Array Bool} {a:Act} {w:World} (hi:l[i]? =some oi)
  (hf:(Region.noSelect l.toArray&&(Region.free md l.toArray listed i&&((Region.ready md l.toArray listed).contains i&&waitFor md l.toArray X i)))=true)
  (hQ:∀c a w,Q (.panic c) (a.put oi.dst undef) w→Q (.panic c) a w) (hw:Region.wanted oi (yielded l.toArray a.tmps)=false) (hS:S w)
  (h:AnyE P md l.toArray Q S X fuel (listed.setIfInBounds i true) (a.put oi.dst undef) w):AnyE P md l.toArray Q S X (fuel+1) listed a w:=by
 simp only[Bool.and_eq_true]at hf
 exact anyE_take0 (by simpa using hi) hf.1 (by simp only[Bool.and_eq_true];exact hf.2) hQ (.inr ⟨hw,rfl⟩) hS h
end Go.Proofs.YtaijafjfafbcfaaGreat
