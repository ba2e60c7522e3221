/- Part of the proof that the laws answer true for every input. -/
import Derived.Test.YtaijafjfafbcfaaGreatPXa02
import Derived.Test.YtaijafjfafbcfaaGreatPXa10
import Derived.Test.YtaijafjfafbcfaaGreatPXa03
import Derived.Test.YtaijafjfafbcfaaGreatPXa01
import Derived.Test.YtaijafjfafbcfaaGreatPXa09
import Derived.Shelf.Bits.Mul64
import Derived.Ground.GgzProg
import Derived.Ground.SlgmProg
import Derived.Test.YtaijafjfafbcfaaGreatProg
import Derived.Laws.CopyOwn
import Derived.Lib.SliceRun
set_option linter.unusedSimpArgs false
set_option linter.unnecessarySimpa false
set_option linter.unusedVariables false
set_option maxRecDepth 100000
set_option maxHeartbeats 40000000
namespace Go.Proofs.YtaijafjfafbcfaaGreat
open Go.RowKit
attribute [local go_sem ↓] Go.wp_at_zero Go.wp_at_succ
def sumW (st:Moves) (k:Nat) (l:List (List Int)) (i:Nat):Nat:=((l.take i).map fun m=>cntW st k (nth m 7).toNat).sum
theorem sumW_zero (st:Moves) (k:Nat) (l:List (List Int)):sumW st k l 0=0:=rfl
theorem sumW_next {st:Moves} {k:Nat} {l:List (List Int)} {i:Nat} (h:i<l.length):sumW st k l (i+1)=sumW st k l i+cntW st k (nth (nthL l i) 7).toNat:=by
 unfold sumW;rw[take_nthL h,List.map_append,List.sum_append];simp
theorem sumW_all (st:Moves) (k s:Nat):sumW st k (nthM st s) (nthM st s).length=cntW st (k+1) s:=by unfold sumW;rw[List.take_length];rfl
def cutW (st:Moves) (k L s:Nat):Nat:=min (cntW st k s) (L+1)
def cntsL (st:Moves) (k L n:Nat):List Int:=(List.range n).map fun s=>(cutW st k L s:Int)
theorem cntsL_len (st:Moves) (k L n:Nat):(cntsL st k L n).length=n:=by simp[cntsL]
theorem nth_cntsL {st:Moves} {k L n s:Nat} (h:s<n):nth (cntsL st k L n) s=(cutW st k L s:Int):=by simp[nth,cntsL,h]
theorem cntsL_next (st:Moves) (k L n:Nat):cntsL st k L (n+1)=cntsL st k L n++[(cutW st k L n:Int)]:=by simp[cntsL,List.range_succ]
theorem cntsL_zero (st:Moves) (L n:Nat):cntsL st 0 L n=List.replicate n 1:=by
 apply List.ext_getElem (by simp[cntsL])
 intro i h1 h2
 simp[cntsL,cutW,cntW]
theorem cutW_le (st:Moves) (k L s:Nat):cutW st k L s≤L+1:=Nat.min_le_right _ _
theorem cntsL_wf {st:Moves} {k L n:Nat} (hL:L≤1048576):∀x∈cntsL st k L n,WF x:=by
 intro x hx
 obtain ⟨s,_,rfl⟩:=List.mem_map.1 hx
 have:=cutW_le st k L s
 exact WF.small (by omega)
theorem cut_add (a b L:Nat):min (min a (L+1)+min b (L+1)) (L+1)=min (a+b) (L+1):=by omega
def Cnts (base:Nat) (W:World) (v:Value) (l:List Int):Prop:=W.ownsRow base 3 1 v l.length (l.map (Value.int .i64))
theorem Cnts.read {base:Nat} {W:World} {v:Value} {l:List Int} (h:Cnts base W v l) (hw:∀x∈l,WF x):Ints (fun b=>base≤b) W v l:=.of_own h hw
theorem Cnts.ext {base:Nat} {W W':World} {v:Value} {l:List Int} (h:Cnts base W v l) (hb:Below W.heap.size W W'):Cnts base W' v l:=owns_ext h hb
theorem Cnts.snoc {base:Nat} {W:World} {v:Value} {l:List Int} {x:Int} (h:W.ownsRow base 3 1 v (l.length+1) (l.map (Value.int .i64)++[.int .i64 x])):Cnts base W v (l++[x]):=by
 unfold Cnts;simpa using h
theorem Cnts.lt {base:Nat} {W:World} {v:Value} {l:List Int} (h:Cnts base W v l):∀k,v.ownBlock=some k→base≤k∧k<W.heap.size:=World.ownsRow.lt h
theorem Cnts.idx {base:Nat} {W:World} {a:Option Addr} {n c:Nat} {l:List Int} (h:Cnts base W (.slice a n c) l) (hn:n=l.length):∀k:Nat,k<l.length→∀W':World,(Instr.indexAt 44 (.slice a n c) (.int .i64 k)).run Tryz.prog W'=.ok (.pointer (some (adr a k))) W':=by
 obtain ⟨i,hi,_,h1,_⟩:=info_parts info_int
 intro k hk W'
 have had:Ad (fun _=>True) W a n c:=by
  rcases World.ownsRow.lt h with _
  rcases (h:W.ownsRow base 3 1 _ _ _).2 with ⟨e,h0⟩ | ⟨g,cap,cur,e,hb,hg,_⟩
  ·omega
  ·injection e with e1 e2 e3
   subst e1
   exact .inr ⟨g,0,rfl,(Array.getElem?_eq_some_iff.1 hg).1,trivial⟩
 exact idx_one Tryz.underlying44 hi h1 had k (by omega) W'
theorem row_keep {w W W':World} {xs:List Value} {e:TypeId} (R:Row W w.heap.size e xs) (h:Below (w.heap.size+1) W W'):Row W' w.heap.size e xs:=R.agree (S:=fun b=>b=w.heap.size) (.of_below h fun b hb _=>by omega) rfl
theorem rnum_calls {S:Nat→Prop} {w:World} {vs:Value} {st:Moves} (n:Int) (hs:Sl (kSl (kFlat 8)) S w vs st) (hok:MovesOK n st) (h1:1≤st.length) (hl:st.length≤1000) (K L:Nat) (hK:K≤6) (hL:L≤1048576):
  Calls Tryz.prog 82 #[.agg #[.int .i64 n,vs],.int .i64 K,.int .i64 L] w (Post w fun _ r=>r=.int .i64 (cutW st K L 0:Nat)):=by
 obtain ⟨sa,sc,rfl,hm⟩:=hs.addr
 have Q:=hs.idxS
 have HS:=Lib.hid hs
 have HOK:=Lib.hid hok
 have HRF:=Lib.hid hs.rows_few
 clear hs hok
 have ex:=ext_alloc w (.cells #[.int .i64 n,.slice sa st.length sc] 27)
 have R:Row (w.alloc (.cells #[.int .i64 n,.slice sa st.length sc] 27)) w.heap.size 27 [.int .i64 n,.slice sa st.length sc]:=row_new w [_,_] _
 have HO0:=Lib.hid (World.ownsRow_nil (w.alloc (.cells #[.int .i64 n,.slice sa st.length sc] 27)) (w.heap.size+1) 3 1)
 go_enter Tryz.func82,Tryz.ntmps82
 go_wp2
 go_loopw [7,8] (fun v i wr=>∃s:Nat,s≤st.length∧i=.int .i64 s∧Below w.heap.size w wr∧Row wr w.heap.size 27 [.int .i64 n,.slice sa st.length sc]∧∃a c,v=.slice a s c∧Hid (wr.ownsRow (w.heap.size+1) 3 1 (.slice a s c) s (List.replicate s (.int .i64 1)))) (fun _ i _=>st.length - (intOf i).toNat)
 case atStart=>exact ⟨0,Nat.zero_le _,rfl,ex,R,none,0,rfl,HO0⟩
 case round=>
  clear ex R HO0
  obtain ⟨s,hs,rfl,hb,R,va,vc,rfl,HO⟩:=hrel
  have t1:=R.cell (j:=1) rfl
  have hbs:=R.lt
  by_cases hlt:s<st.length
  ·go_wp2_with (at_builtin;refine wpList_push rfl (.tmp 21) (.tmp 22) 44 rfl 3 _ 8 Tryz.underlying44 info_int rfl (w.heap.size+1) _ s (List.replicate s (.int .i64 1)) rfl HO.out (.int .i64 1) rfl rfl (by omega) (by omega) (by omega) ?_;intro g' c' w' ho hb' hag _)
   have HO2:Hid (w'.ownsRow (w.heap.size+1) 3 1 (.slice (some ⟨g',0,none⟩) (s+1) c') (s+1) (List.replicate (s+1) (.int .i64 1))):=Lib.hid (by rw[List.replicate_succ'];exact ho)
   have R':=row_keep R hb'
   have hb2:=hb.trans (hb'.mono (Nat.le_succ _))
   clear ho hb' hag R hb
   go_wp2
   go_roundw
   case rel=>exact ⟨s+1,by omega,by go_num,hb2,R',_,_,rfl,HO2⟩
   case measure=>simp[intOf];omega
  obtain rfl:s=st.length:=by omega
  have HC:Hid (Cnts (w.heap.size+1) wr (.slice va st.length vc) (cntsL st 0 L st.length)):=Lib.hid (by unfold Cnts;rw[cntsL_len,cntsL_zero,List.map_replicate];exact HO.out)
  clear HO
  obtain ⟨wo,rfl⟩:∃wo:World,wo=wr:=⟨_,rfl⟩
  go_wp2
  clear t1 hbs
  go_loopw [7,9,10,11,12,13] (fun v i _ _ _ _ wr=>∃k:Nat,k≤K∧i=.int .i64 k∧Below w.heap.size w wr∧Row wr w.heap.size 27 [.int .i64 n,.slice sa st.length sc]∧∃a c,v=.slice a st.length c∧Hid (Cnts (w.heap.size+1) wr (.slice a st.length c) (cntsL st k L st.length))) (fun _ i _ _ _ _ _=>K - (intOf i).toNat)
  case atStart=>exact ⟨0,Nat.zero_le _,rfl,hb,R,va,vc,rfl,HC⟩
  case round=>
   clear hb R HC
   obtain ⟨k,hk,rfl,hb,R,va,vc,rfl,HC⟩:=hrel
   by_cases hkt:k<K
   case neg=>
    obtain rfl:k=K:=by omega
    have hci:∀W':World,(Instr.indexAt 44 (.slice va st.length vc) (.int .i64 0)).run Tryz.prog W'=.ok (.pointer (some (adr va 0))) W':=HC.out.idx (cntsL_len _ _ _ _).symm 0 (by rw[cntsL_len];omega)
    have hcc:=ints_cells (HC.out.read (cntsL_wf hL)) (.refl _ _) 0 (by rw[cntsL_len];omega)
    have hcv:((cntsL st k L st.length).map (Value.int .i64)).getD 0 undef=.int .i64 (cutW st k L 0:Nat):=by
     rw[←nth_cntsL (show 0<st.length by omega)]
     rw[List.getD_eq_getElem?_getD,List.getElem?_map,get?_nth (by rw[cntsL_len];omega)];rfl
    rw[hcv]at hcc
    have hbk:=World.block_lt_of_cell? _ _ hcc
    clear hcv
    go_wp2
    go_ret
    exact .mk hb rfl
   obtain ⟨wo,rfl⟩:∃wo:World,wo=wr:=⟨_,rfl⟩
   have HC0:=Lib.hid (World.ownsRow_nil wo (w.heap.size+1) 3 1)
   have HC1:Hid (Cnts (w.heap.size+1) wo (.slice none 0 0) (cntsL st (k+1) L 0)):=Lib.hid HC0.out
   clear HC0
   go_wp2
   go_loopw [10,11,12,13] (fun v i _ _ wr=>∃s:Nat,s≤st.length∧i=.int .i64 s∧Below w.heap.size w wr∧Row wr w.heap.size 27 [.int .i64 n,.slice sa st.length sc]∧Hid (Cnts (w.heap.size+1) wr (.slice va st.length vc) (cntsL st k L st.length))∧∃a c,v=.slice a s c∧Hid (Cnts (w.heap.size+1) wr (.slice a s c) (cntsL st (k+1) L s))∧(∀g,(Value.slice a s c).ownBlock=some g→(Value.slice va st.length vc).ownBlock≠some g)) (fun _ i _ _ _=>st.length - (intOf i).toNat)
   case atStart=>exact ⟨0,Nat.zero_le _,rfl,hb,R,HC,none,0,rfl,HC1,fun g e=>by cases e⟩
   case round=>
    clear hb R HC HC1
    obtain ⟨s,hs,rfl,hb,R,HC,na,nc,rfl,HN,hne⟩:=hrel
    have t1:=R.cell (j:=1) rfl
    by_cases hst:s<st.length
    case neg=>
     obtain rfl:s=st.length:=by omega
     go_wp2
     go_roundw
     case rel=>exact ⟨k+1,by omega,by go_num,hb,R,na,nc,rfl,HN⟩
     case measure=>simp[intOf];omega
    have q:=Q.out s hst
    obtain ⟨b,c,cu,hrow⟩:=HS.out.mrow hb hst
    have hlm:=HRF.out s hst
    have HSM:=Lib.hid fun i (h:i<(nthM st s).length)=>sumW_next (st:=st) (k:=k) h
    have HSA:=Lib.hid (sumW_all st k s)
    have HTO:=Lib.hid (HOK.out s hst).2
    have HROW:Hid (∀W,Below w.heap.size w W→∃b c,W.cell? (adr sa s)=some (.slice b (nthM st s).length c)∧Sl (kFlat 8) S W (.slice b (nthM st s).length c) (nthM st s)):=Lib.hid fun W hW=>HS.out.mrow hW hst
    obtain ⟨row,hrw⟩:∃row,row=nthM st s:=⟨_,rfl⟩
    rw[←hrw]at cu hlm HSM HSA HTO HROW
    have HZ:Hid (min (sumW st k row 0) (L+1)=0):=Lib.hid (by rw[sumW_zero];simp)
    clear hrw hrow q cu
    obtain ⟨wo,rfl⟩:∃wo:World,wo=wr:=⟨_,rfl⟩
    go_wp2
    clear t1
    go_loopw [12,13] (fun m i W=>∃j:Nat,j≤row.length∧i=.int .i64 j∧W=wo∧∃x:Nat,m=.int .i64 x∧Hid (x=min (sumW st k row j) (L+1))) (fun _ i _=>row.length - (intOf i).toNat)
    case atStart=>exact ⟨0,Nat.zero_le _,rfl,rfl,0,rfl,Lib.hid HZ.out.symm⟩
    case round=>
     obtain ⟨j,hj,rfl,rfl,x,rfl,HX⟩:=hrel
     have t1:=R.cell (j:=1) rfl
     have q:=Q.out s hst
     obtain ⟨b,c,cu,hrow⟩:=HROW.out wr hb
     by_cases hjt:j<row.length
     case neg=>
      obtain rfl:j=row.length:=by omega
      have HV:Hid (x=cutW st (k+1) L s):=Lib.hid (by rw[HX.out,HSA.out];rfl)
      have hbs:=R.lt
      have hbl:=HC.out.lt
      have hsl:(cntsL st (k+1) L s).length=s:=cntsL_len _ _ _ _
      have HNN:Hid (wr.ownsRow (w.heap.size+1) 3 1 (.slice na s nc) s ((cntsL st (k+1) L s).map (Value.int .i64))):=Lib.hid (by have:=HN.out;unfold Cnts at this;rwa [hsl]at this)
      have HSL:=Lib.hid hsl
      clear hsl hrow
      go_wp2_with (at_builtin;refine wpList_push rfl (.tmp 63) (.tmp 65) 44 rfl 3 _ 8 Tryz.underlying44 info_int rfl (w.heap.size+1) _ s ((cntsL st (k+1) L s).map (Value.int .i64)) rfl HNN.out (.int .i64 x) rfl rfl (by omega) (by omega) (by omega) ?_;intro g' c' w' ho hb' hag hg')
      have HN2:Hid (Cnts (w.heap.size+1) w' (.slice (some ⟨g',0,none⟩) (s+1) c') (cntsL st (k+1) L (s+1))):=Lib.hid (by rw[cntsL_next,←HV.out];exact Cnts.snoc (by rw[HSL.out];exact ho))
      have R':=row_keep R hb'
      have hb2:=hb.trans (hb'.mono (Nat.le_succ _))
      have HC2:Hid (Cnts (w.heap.size+1) w' (.slice va st.length vc) (cntsL st k L st.length)):=Lib.hid (owns_agree (S:=fun b=>(Value.slice na s nc).ownBlock≠some b) HC.out (hag _ fun g hg h=>h hg) fun g hg h=>hne g h hg)
      have hne2:∀g,(Value.slice (some ⟨g',0,none⟩) (s+1) c').ownBlock=some g→(Value.slice va st.length vc).ownBlock≠some g:=fun g e1 e2=>by
       have e3:g'=g:=by simpa[Value.ownBlock] using e1
       subst e3
       rcases hg' with h | h
       ·exact hne _ h e2
       ·have:=(hbl _ e2).2;omega
      clear ho hb' hag R hb HC HN HNN hg' hne t1
      go_wp2
      go_roundw
      case rel=>exact ⟨s+1,by omega,by go_num,hb2,R',HC2,_,_,rfl,HN2,hne2⟩
      case measure=>simp[intOf];omega
     have qm:=hrow.idxM.out j hjt
     have hz:=hrow.nums hjt (by decide)
     have z7:=hz.2 7 (by decide)
     have hbk:=adr_blk hrow.ad.1 (by omega) (j * 8)
     obtain ⟨_,_,hto1,hto2⟩:=HTO.out j hjt
     obtain ⟨to,hto⟩:∃t:Nat,nth (nthL row j) 7=t:=⟨(nth (nthL row j) 7).toNat,by omega⟩
     rw[hto]at z7 hto1 hto2
     have htl:to<st.length:=by omega
     have hci:=HC.out.idx (cntsL_len _ _ _ _).symm to (by rw[cntsL_len];omega)
     have hcc:=ints_cells (HC.out.read (cntsL_wf hL)) (.refl _ _) to (by rw[cntsL_len];omega)
     have hcv:((cntsL st k L st.length).map (Value.int .i64)).getD to undef=.int .i64 (cutW st k L to:Nat):=by
      rw[←nth_cntsL (show to<st.length by omega)]
      rw[List.getD_eq_getElem?_getD,List.getElem?_map,get?_nth (by rw[cntsL_len];omega)];rfl
     rw[hcv]at hcc
     have hbk2:=World.block_lt_of_cell? _ _ hcc
     obtain ⟨y,hy⟩:∃y,y=cutW st k L to:=⟨_,rfl⟩
     have hxl:x≤L+1:=by rw[HX.out];exact Nat.min_le_right _ _
     have hyl:y≤L+1:=by rw[hy];exact cutW_le _ _ _ _
     have HN3:Hid (min (x+y) (L+1)=min (sumW st k row (j+1)) (L+1)):=Lib.hid (by rw[HX.out,hy,HSM.out j hjt,hto,Int.toNat_natCast];exact cut_add _ _ _)
     rw[←hy]at hcc
     have hw1:IntKind.i64.wrap ((x:Int)+(y:Int))=((x+y:Nat):Int):=by rw[IntKind.wrap_i64];omega
     have hw2:IntKind.i64.wrap ((L:Int)+1)=((L+1:Nat):Int):=by rw[IntKind.wrap_i64];omega
     clear hy hcv hz hto hto1 hto2
     go_wp2
     go_roundw
     case rel=>exact ⟨j+1,by omega,by go_num,trivial,min (x+y) (L+1),int_eq (by split<;>omega),HN3⟩
     case measure=>simp[intOf];omega
end Go.Proofs.YtaijafjfafbcfaaGreat
namespace Go.Proofs
open Go.Shelf
open Go.RowKit Go.Lib in
def Tryz.laysMulB_ren:Go.Shelf.Ren:=⟨fun | 212=>147 | 263=>156 | 264=>157 | n=>n,fun | 46=>203 | 51=>211 | 146=>212 | 53=>214 | 148=>215 | n=>n,fun | n=>n⟩
theorem Tryz.laysMulB:Go.Proofs.Lays.n212 Tryz.prog Tryz.laysMulB_ren:={
 mixed:=by kernel_rfl
 f212:=Tryz.func147.trans (congrArg some (by kernel_rfl))
 f263:=Tryz.func156.trans (congrArg some (by kernel_rfl))
 f264:=Tryz.func157.trans (congrArg some (by kernel_rfl))
 t46:=Tryz.underlying203
 a46:=Tryz.isAgg203
 z46:=Tryz.sizeOf203
 v46:=Tryz.zeroValue203
 t51:=Tryz.underlying211
 a51:=Tryz.isAgg211
 z51:=Tryz.sizeOf211
 v51:=Tryz.zeroValue211
 t53:=Tryz.underlying214
 a53:=Tryz.isAgg214
 z53:=Tryz.sizeOf214
 v53:=Tryz.zeroValue214
 t146:=Tryz.underlying212
 a146:=Tryz.isAgg212
 z146:=Tryz.sizeOf212
 v146:=Tryz.zeroValue212
 t148:=Tryz.underlying215
 a148:=Tryz.isAgg215
 z148:=Tryz.sizeOf215
 v148:=Tryz.zeroValue215}
open Go.RowKit Go.Lib in
theorem Tryz.bits_Mul (x y:Nat) (hx:x<18446744073709551616) (hy:y<18446744073709551616) (w:World):
  Calls Tryz.prog 147 #[.int .u64 x,.int .u64 y] w fun e w'=>e=.returned (.tuple #[.int .u64 ((x * y / 18446744073709551616:Nat):Int),.int .u64 ((x * y % 18446744073709551616:Nat):Int)])∧w'=w:=Any.bits_Mul Tryz.laysMulB x y hx hy w
end Go.Proofs
namespace Go.Proofs.YtaijafjfafbcfaaGreat
open Go.RowKit
attribute [local go_sem ↓] Go.wp_at_zero Go.wp_at_succ
def OwnInts (base:Nat) (l:List Int) (w':World) (r:Value):Prop:=w'.ownsRow base 3 1 r l.length (l.map (Value.int .i64))
theorem cloneI_calls {S:Nat→Prop} {w:World} {v:Value} {l:List Int} (h:Ints S w v l) (hn:l.length≤1000000):
  Calls Tryz.prog 96 #[v] w (Post w (OwnInts w.heap.size l)):=by
 obtain ⟨a,cap,rfl,ad,l1,l2⟩:=h.form
 cases a with
 | none=>
  have h0:l.length=0∧cap=0:=by
   rcases ad with h | ⟨b,off,e,_⟩
   ·exact h
   ·cases e
  obtain ⟨h0,rfl⟩:=h0
  obtain rfl:l=[]:=List.length_eq_zero_iff.1 h0
  clear h ad l1 l2 h0
  have hn1:=@Lib.run_eql_slice_nil Tryz.prog w 44 3 none 0 0 0 0 Tryz.underlying44
  go_enter Tryz.func96,Tryz.ntmps96
  go_wp2
  go_ret
  exact .mk (.refl _ _) (World.ownsRow_nil _ _ _ _)
 | some x=>
  have ex:=ext_alloc w (.cells #[] 3)
  have hown0:=(row_new w [] 3).owns (base:=w.heap.size) (Nat.le_refl _) (by simp[maxLen])
  have OW:=Lib.hid hown0
  have I:=Lib.hid (h.ext ex)
  have B1:Hid ((0+l.length) * 8≤140737488355328):=Lib.hid (by omega)
  clear hown0 h ad
  have hn1:=@Lib.run_eql_slice_nil Tryz.prog w 44 3 (some x) l.length cap 0 0 Tryz.underlying44
  go_enter Tryz.func96,Tryz.ntmps96
  go_wp2_with (at_builtin;refine wpList_appendAll rfl (.tmp 5) (.tmp 6) 44 rfl 3 _ 8 Tryz.underlying44 info_int rfl w.heap.size (.slice (some ⟨w.heap.size,0,none⟩) 0 0) 0 [] rfl OW.out S (some x) l.length cap (l.map (Value.int .i64)) rfl (ints_ad I.out) (by simp) (ints_cells I.out (.refl _ _)) (oneCell_ints l) B1.out (by omega) (by simp) ?_;intro v3 w3 hown3 hb3 hag3 hv3)
  rw[Nat.zero_add,List.nil_append]at hown3
  have hbb:Below w.heap.size w w3:=ex.trans hb3
  have HO:=Lib.hid hown3
  clear hown3 hag3 hv3 hb3
  go_wp2
  go_ret
  exact .mk hbb HO.out
theorem mul_quiet (w:World) (n:Nat) (hn:n≤100000):Calls Tryz.prog 147 #[.int .u64 1,.int .u64 n] w (QuietP w (.tuple #[.int .u64 0,.int .u64 n])):=by
 refine (Tryz.bits_Mul 1 n (by omega) (by omega) w).mono ?_
 rintro _ _ ⟨rfl,rfl⟩
 rw[show 1 * n / 18446744073709551616=0 by omega,show 1 * n % 18446744073709551616=n by omega]
 exact .same
theorem info_int1:(Tryz.prog.info? 3).map (·.size)=some 1:=by kernel_rfl
theorem splice_rep {y z:Value} {k n m:Nat} (h:k+m≤n):splice (List.replicate k y++List.replicate (n - k) z) k (List.replicate m y)=List.replicate (k+m) y++List.replicate (n - (k+m)) z:=by
 unfold splice
 have e1:(List.replicate k y++List.replicate (n - k) z).take k=List.replicate k y:=by
  rw[List.take_append_of_le_length (by simp)];exact List.take_of_length_le (by simp)
 have e2:(List.replicate k y++List.replicate (n - k) z).drop (k+m)=List.replicate (n - (k+m)) z:=by
  rw[List.drop_append]
  simp only[List.length_replicate]
  rw[List.drop_eq_nil_of_le (by simp),List.nil_append,List.drop_replicate]
  congr 1
  omega
 rw[List.length_replicate,e1,e2,←List.append_assoc,List.replicate_append_replicate]
theorem repeat_calls {S:Nat→Prop} {w:World} {v:Value} {y:Int} (h:Ints S w v [y]) (n:Nat) (hn:n≤100000):
  Calls Tryz.prog 135 #[v,.int .i64 n] w (Post w (OwnInts w.heap.size (List.replicate n y))):=by
 obtain ⟨a,cap,rfl,ad,l1,l2⟩:=h.form
 simp only[List.length_cons,List.length_nil,Nat.zero_add]at h ad l1 ⊢
 obtain ⟨pb,po,rfl⟩:∃b o,a=some ⟨b,o,none⟩:=by
  rcases ad with ⟨h0,_⟩ | ⟨b,off,rfl,_⟩
  ·cases h0
  ·exact ⟨b,off,rfl⟩
 have hcy:=ints_head h (.refl _ _)
 rw[adr_add,Nat.add_zero]at hcy
 obtain ⟨i0,hi,hz0,hz1,hz2⟩:=info_parts info_int
 have HCY:=Lib.hid hcy
 have KM:=Lib.hid ((mul_quiet w n hn).mono fun _ _ h=>h.take)
 have hi0:IntKind.u64.wrap (n:Int)=n:=by rw[IntKind.wrap_u64];omega
 have hi1:IntKind.i64.wrap (n:Int)=n:=IntWalk.i64_in _ (by omega)
 clear h ad l1 l2 hcy
 go_enter Tryz.func135,Tryz.ntmps135
 go_wp2_with fail
 refine KM.out.mono ?_
 rintro _ w1 ⟨_,rfl,hq1,rfl⟩
 have hx1:=hq1.ext
 have hcy:=Lib.hid (cell_ext HCY.out hx1)
 clear KM hq1 HCY
 have hs1:=hx1.size
 obtain ⟨g,hg⟩:∃g,g=w1.heap.size:=⟨_,rfl⟩
 have HG:=Lib.hid hg
 have hmc:Hid ((madeCells #[Value.int .i64 0] (n * 1)).toList=List.replicate n (.int .i64 0)):=Lib.hid (by rw[Nat.mul_one];exact (toList_madeCells_one _ _))
 have hm0:min 1 n≤n:=Nat.min_le_right _ _
 obtain ⟨c0,hc0⟩:∃c0,c0=List.replicate (min 1 n) (Value.int .i64 y):=⟨_,rfl⟩
 have HC0:=Lib.hid hc0
 have hcl0:c0.length=min 1 n:=by rw[hc0];simp
 have HCS:Hid (∀j v,c0[j]? =some v→v=.int .i64 y∧j=0):=Lib.hid (fun j v hj=>by
  rw[hc0,List.getElem?_replicate]at hj
  split at hj
  ·injection hj with hj;exact ⟨hj.symm,by omega⟩
  ·cases hj)
 have HC1:Hid (∀v∈c0,v.oneCell'=true):=Lib.hid (fun v hv=>by rw[hc0]at hv;rw[List.eq_of_mem_replicate hv];rfl)
 have hn0:c0.length=Nat.min 1 n:=hcl0
 have hgs:w.heap.size≤g:=by omega
 obtain ⟨r0,hr0⟩:∃r0,r0=List.replicate n (Value.int .i64 0):=⟨_,rfl⟩
 have HR0:=Lib.hid hr0
 have hrl0:r0.length=n:=by rw[hr0];simp
 rw[←hr0]at hmc
 clear hc0 hr0 hg
 go_wp2_with (first
  | (at_make;refine wpList_make_full _ rfl _ _ 44 rfl w.heap.size 3 i0 (.int .i64 0) 1 Tryz.underlying44 hi hz0 hz1 .i64 .i64 _ _ n rfl rfl rfl rfl (by rw[hz2];omega) (by unfold maxLen;omega) hx1.size ?_;intro w2 hown2 hgrow2;have HR2:=Lib.hid ((Row.of_own hown2).1.get hmc.out);rw[←HG.out]at HR2;have hx2:=hx1.grown hgrow2 hs1 (fun j hj=>by cases hj);have hcy2:=Lib.hid (cell_ext hcy.out ((Below.refl _ w1).grown hgrow2 (Nat.le_refl _) (fun j hj=>by cases hj)));clear hown2 hgrow2)
  | (refine wpList_copy_splice rfl (.tmp 31) (.tmp 32) 44 44 rfl 3 Tryz.underlying44 info_int1 _ _ n n 1 cap rfl rfl g 0 r0 3 HR2.out c0 hn0 (fun _=>⟨by rw[HG.out],_,rfl,fun j v hj=>by obtain ⟨rfl,rfl⟩:=HCS.out j v hj;exact hcy2.out⟩) (by omega) HC1.out w.heap.size w hx2 hgs ?_;intro w3 hR3 hb3))
 have hR3':=Lib.hid (show Row w3 g 3 (List.replicate (min 1 n) (.int .i64 y)++List.replicate (n - min 1 n) (.int .i64 0)) from by
  have h:=hR3.out
  rw[HC0.out,HR0.out]at h
  have e:=splice_rep (y:=Value.int .i64 y) (z:=Value.int .i64 0) (k:=0) (n:=n) (m:=min 1 n) (by omega)
  simp only[List.replicate_zero,List.nil_append,Nat.sub_zero,Nat.zero_add]at e
  rw[e]at h
  exact h)
 rw[←HG.out]
 obtain ⟨k0,hk0⟩:∃k0,k0=min 1 n:=⟨_,rfl⟩
 rw[←hk0]at hR3' hm0 ⊢
 have hkz:k0=0→n=0:=by omega
 clear hR3 hk0 hcl0 hn0 HCS HC1 HC0 HR0 hrl0 hmc hx1 hs1
 go_loopw [8] (fun i wr=>∃k:Nat,k≤n∧i=.int .i64 k∧(k=0→n=0)∧Below w.heap.size w wr∧Row wr g 3 (List.replicate k (.int .i64 y)++List.replicate (n - k) (.int .i64 0))) (fun i _=>n - (intOf i).toNat)
 case atStart=>exact ⟨k0,hm0,rfl,hkz,hb3,hR3'.out⟩
 case round=>
  obtain ⟨k,hk,rfl,hkz,hbd,hRd⟩:=hrel
  by_cases hlt:k<n
  ·have hk1:0<k:=by omega
   have hE:Tryz.prog.elem 44=3:=by simp[Program.elem,Tryz.underlying44]
   have hs1:∀W:World,(Instr.slice 44 (.slice (some ⟨g,0,none⟩) n n) (some (.int .i64 k)) none none).run Tryz.prog W=.ok (.slice (some ⟨g,k,none⟩) (n - k) (n - k)) W:=fun W=>by
    rw[run_slice_l (w:=W) _ _ _ _ (by rw[hE];exact Tryz.underlying44) .i64 k (by omega) (by omega),hE]
    simp[sizeOf,typeInfo,hi,hz1,Result.andThen,sliced,show n≠k by omega,Addr.add]
    try omega
   have hs2:∀W:World,(Instr.slice 44 (.slice (some ⟨g,0,none⟩) n n) none (some (.int .i64 k)) none).run Tryz.prog W=.ok (.slice (some ⟨g,0,none⟩) k n) W:=fun W=>by
    rw[run_slice_h (w:=W) _ _ _ _ (by rw[hE];exact Tryz.underlying44) .i64 k (by omega) (by omega),hE]
    simp[sizeOf,typeInfo,hi,hz1,Result.andThen,sliced,show n≠0 by omega,Addr.add]
    try omega
   obtain ⟨m,hm⟩:∃m,m=min k (n - k):=⟨_,rfl⟩
   obtain ⟨cs,hcs⟩:∃cs,cs=List.replicate m (Value.int .i64 y):=⟨_,rfl⟩
   have hcl:cs.length=m:=by rw[hcs];simp
   have HCN:Hid (cs.length=Nat.min k (n - k)):=Lib.hid (hcl.trans hm)
   obtain ⟨rr,hrr⟩:∃rr,rr=List.replicate k (Value.int .i64 y)++List.replicate (n - k) (Value.int .i64 0):=⟨_,rfl⟩
   have HCS:Hid (∀W,Row W g 3 rr→∀j v,cs[j]? =some v→W.cell? ((⟨g,0,none⟩:Addr).add j)=some v):=Lib.hid (fun W hW j v hj=>by
    have hjm:j<m:=by rw[←hcl];exact (List.getElem?_eq_some_iff.1 hj).1
    rw[Addr.add_lit,Nat.zero_add]
    refine hW.cell ?_
    rw[hrr,List.getElem?_append_left (show j<(List.replicate k (Value.int .i64 y)).length by rw[List.length_replicate];omega),List.getElem?_replicate,if_pos (by omega)]
    rw[hcs,List.getElem?_replicate,if_pos hjm]at hj
    exact hj)
   have HFT:Hid (k+cs.length≤rr.length):=Lib.hid (by rw[hcl,hrr];simp;omega)
   have HC1:Hid (∀v∈cs,v.oneCell'=true):=Lib.hid (fun v hv=>by rw[hcs]at hv;rw[List.eq_of_mem_replicate hv];rfl)
   have HSP:Hid (splice rr k cs=List.replicate (k+m) (Value.int .i64 y)++List.replicate (n - (k+m)) (Value.int .i64 0)):=Lib.hid (by rw[hrr,hcs];exact splice_rep (by omega))
   have HCL:=Lib.hid hcl
   have hmk:k+m≤n:=by omega
   have hm1:0<m:=by omega
   rw[←hrr]at hRd
   have hRr:=Lib.hid hRd
   have hwr:IntKind.i64.wrap ((k:Int)+(m:Int))=(k:Int)+m:=IntWalk.i64_in _ (by omega)
   clear hm hcs hrr hRd hcl
   go_wp2
   rw[←HCL.out]at hwr
   refine region_E (fun _:World=>True) (fun i=>false) (by kernel_rfl) ?_ (fun hHeld=>?_)
   ·trivial
   refine anyE_take 0 (v:=?_) rfl (by kernel_rfl) (fun _ _ _ h=>h) (by rfl) ?hy0 hHeld ?rest0
   case hy0=>(intro w hSw;(try dsimp only at hSw);go_simp;try with_reducible rfl)
   try simp only[Act.put,zsa,zsz,zss]
   refine anyE_take 1 (v:=?_) rfl (by kernel_rfl) (fun _ _ _ h=>h) (by rfl) ?hy1 hHeld ?rest1
   case hy1=>(intro w hSw;(try dsimp only at hSw);go_simp;try with_reducible rfl)
   try simp only[Act.put,zsa,zsz,zss]
   refine anyE_take 2 (v:=?_) rfl (by kernel_rfl) (fun _ _ _ h=>h) (by rfl) ?hy2 hHeld ?rest2
   case hy2=>(intro w hSw;(try dsimp only at hSw);go_simp;try with_reducible rfl)
   try simp only[Act.put,zsa,zsz,zss]
   refine anyE_take 3 (v:=?_) rfl (by kernel_rfl) (fun _ _ _ h=>h) (by rfl) ?hy3 hHeld ?rest3
   case hy3=>(intro w hSw;(try dsimp only at hSw);go_simp;try with_reducible rfl)
   try simp only[Act.put,zsa,zsz,zss]
   refine anyE_take 4 (v:=?_) rfl (by kernel_rfl) (fun _ _ _ h=>h) (by rfl) ?hy4 hHeld ?rest4
   case hy4=>(intro w hSw;(try dsimp only at hSw);go_simp;try with_reducible rfl)
   try simp only[Act.put,zsa,zsz,zss]
   refine anyE_take 5 (v:=?_) rfl (by kernel_rfl) (fun _ _ _ h=>h) (by rfl) ?hy5 hHeld ?rest5
   case hy5=>(intro w hSw;(try dsimp only at hSw);go_simp;try with_reducible rfl)
   try simp only[Act.put,zsa,zsz,zss]
   refine anyE_take 6 (v:=?_) rfl (by kernel_rfl) (fun _ _ _ h=>h) (by rfl) ?hy6 hHeld ?rest6
   case hy6=>(intro w hSw;(try dsimp only at hSw);go_simp;try with_reducible rfl)
   try simp only[Act.put,zsa,zsz,zss]
   refine anyE_one 7 rfl (by kernel_rfl) (fun K hK=>?_)
   (refine step_copy_splice rfl (.tmp 41) (.tmp 44) 44 44 rfl 3 Tryz.underlying44 info_int1 (some ⟨g,k,none⟩) (some ⟨g,0,none⟩) (n - k) (n - k) k n (by rfl) (by rfl) g k rr 3 hRr.out cs HCN.out (fun _=>⟨rfl,_,rfl,HCS.out _ hRr.out⟩) HFT.out HC1.out w.heap.size w (ext_drewN hbd 1) hgs ?_;intro w5 hR5 hb5)
   refine hK.out _ _ (fun _=>trivial) (fun hHeld=>?_);replace hHeld:=hHeld rfl
   clear hK K
   try simp only[Act.put,zsa,zsz,zss]
   refine anyE_take 8 (v:=?_) rfl (by kernel_rfl) (fun _ _ _ h=>h) (by rfl) ?hy8 hHeld ?rest8
   case hy8=>(intro w hSw;(try dsimp only at hSw);go_simp;try with_reducible rfl)
   try simp only[Act.put,zsa,zsz,zss]
   refine anyE_take 9 (v:=?_) rfl (by kernel_rfl) (fun _ _ _ h=>h) (by rfl) ?hy9 hHeld ?rest9
   case hy9=>(intro w hSw;(try dsimp only at hSw);go_simp;try with_reducible rfl)
   try simp only[Act.put,zsa,zsz,zss]
   refine anyE_done (by kernel_rfl) ?_ _
   have hRn:=hR5.out
   rw[HSP.out]at hRn
   have HRN:=Lib.hid hRn
   clear hRn hR5
   go_wp2
   go_roundw
   case rel=>exact ⟨k+m,hmk,by simp[HCL.out],by omega,hb5,HRN.out⟩
   case measure=>
    have h1:=HCL.out
    simp only[intOf,h1,goInt]
    omega
  ·obtain rfl:k=n:=by omega
   have hR':=Lib.hid (show Row wr g 3 ((List.replicate k y).map (Value.int .i64)) from by simpa using hRd)
   have hO:=Lib.hid (hR'.out.owns (base:=w.heap.size) hgs (by simp[maxLen];omega))
   clear hRd hR'
   go_wp2
   go_ret
   refine .mk hbd ?_
   have:=hO.out
   unfold OwnInts
   simpa using this
end Go.Proofs.YtaijafjfafbcfaaGreat
namespace Go.Proofs.YtaijafjfafbcfaaGreat
def noDefer (ops:Array Oper):Bool:=ops.all fun o=>match o.op with | .defer _=>false | _=>true
theorem noDefer_spec {ops:Array Oper} (h:noDefer ops=true) {i:Nat} {o:Oper} (ho:ops[i]? =some o):∀c,o.op≠.defer c:=by
 intro c hc
 obtain ⟨hi,e⟩:=Array.getElem?_eq_some_iff.1 ho
 have:=Array.all_eq_true.1 h i hi
 rw[e,hc]at this
 cases this
theorem opwp_in {P:Program} {Q:Exit→Act→World→Prop} {l n:Nat} {o:Oper} {K:Act→World→Prop} {a:Act} {w:World} (hd:∀c,o.op≠.defer c) (h:o.wp P a w K Q):o.wpIn (Fence.wide.inRound l) n P a w K Q:=by
 refine ⟨fun f _=>trivial,?_⟩
 rw[Oper.semAt_plain _ _ _ hd]
 unfold Oper.wp at h
 generalize (execOp a.eval o).run P w=r at *
 cases r with
 | ok x w'=>
  cases x with
  | value v=>exact h
  | skip=>exact h
  | defer d=>exact h
  | enter f args=>exact ⟨fun h0=>(by cases h0),callsIn_wide.2 h⟩
  | row row args=>
   refine ⟨fun h0=>(by cases h0),fun c cs _=>?_⟩
   obtain ⟨v,w'',h1,h2⟩:=h c cs
   exact ⟨v,w'',h1,stepsIn_wide.2 h2⟩
  | _=>exact h.elim
 | halt x w'=>
  cases x<;>exact h
theorem wpOp_in {P:Program} {ops:Array Oper} {Q:Exit→Act→World→Prop} {l n i:Nat} {K K':Act→World→Prop} {a:Act} {w:World} (hd:noDefer ops=true) (hQ:¬LetsOut Q) (hK:∀a w,K a w→K' a w)
  (h:wpOp P ops Q i K a w):wpOpIn (Fence.wide.inRound l) n P ops Q i K' a w:=by
 unfold wpOp at h
 unfold wpOpIn
 split
 ·rename_i ho
  simp only[ho]at h
  exact hK _ _ h
 ·rename_i o ho
  simp only[ho]at h
  split
  ·rename_i hw
   simp only[hw,if_true]at h
   rcases h with h | h
   ·exact Oper.wpIn_mono hK (opwp_in (noDefer_spec hd ho) h)
   ·exact absurd h.2 hQ
  ·rename_i hw
   simp only[hw]at h
   exact ⟨fun f _=>trivial,hK _ _ h⟩
theorem wpAny_in {P:Program} {md:Region.Mode} {ops:Array Oper} {Q:Exit→Act→World→Prop} {l n:Nat} (hd:noDefer ops=true) (hQ:¬LetsOut Q):
  ∀(fuel:Nat) (listed:Array Bool) (a:Act) (w:World),wpAny P md ops Q fuel listed a w→wpAnyIn (Fence.wide.inRound l) n P md ops Q fuel listed a w
 | 0,_,_,_,h=>h
 | fuel+1,_,_,_,h=>⟨h.1,fun i hi=>wpOp_in hd hQ (fun a' w' h'=>wpAny_in hd hQ fuel _ a' w' h') (h.2 i hi)⟩
theorem region_EIn {P:Program} {ops:Array Oper} {Q:Exit→Act→World→Prop} (S:World→Prop) (X:Nat→Bool) {id l n:Nat} {a:Act} {w:World} (hm:P.follows .mixedOrders=true) (hd:noDefer ops=true) (hQ:¬LetsOut Q) (hS:S w.drew)
  (h:S w.drew→AnyE P .any ops Q S X ops.size (Array.replicate ops.size false) a w.drew):(Code.region id ops true).wpIn (Fence.wide.inRound l) n P Q a w:=
 wpIn_region_any hm (wpAny_in hd hQ _ _ _ _ (any_of_anyE _ _ _ _ (h hS)))
end Go.Proofs.YtaijafjfafbcfaaGreat
namespace Go.Proofs.YtaijafjfafbcfaaGreat
open Go.RowKit Go.Shelf
def markD (D:Nat):Deferred:={target:=.collected D,args:=#[]}
def Marks (B:Nat) (W:World) (ds:List Deferred):Prop:=∃Ds:List Nat,ds=Ds.map markD∧Ds.Nodup∧∀D∈Ds,B≤D∧W.heap[D]? =some (.deferred (some []))
theorem Marks.nil (B:Nat) (W:World):Marks B W []:=⟨[],rfl,List.nodup_nil,by simp⟩
theorem Marks.agree {B:Nat} {T:Nat→Prop} {W W':World} {ds:List Deferred} (h:Marks B W ds) (hw:Agree T W W') (hT:∀D,W.heap[D]? =some (.deferred (some []))→T D):Marks B W' ds:=by
 obtain ⟨Ds,h1,h2,h3⟩:=h
 exact ⟨Ds,h1,h2,fun D hD=>⟨(h3 D hD).1,(hw.block D (hT D (h3 D hD).2) (Array.getElem?_eq_some_iff.1 (h3 D hD).2).1).trans (h3 D hD).2⟩⟩
theorem Marks.ext {B:Nat} {W W':World} {ds:List Deferred} (h:Marks B W ds) (hw:Below W.heap.size W W'):Marks B W' ds:=h.agree (T:=fun _=>True) (.of_ext hw) fun _ _=>trivial
theorem Marks.set {B:Nat} {W:World} {ds:List Deferred} (h:Marks B W ds) (a:Addr) (u:Value):Marks B (W.setCell a u) ds:=by
 obtain ⟨Ds,h1,h2,h3⟩:=h
 exact ⟨Ds,h1,h2,fun D hD=>⟨(h3 D hD).1,(KeepsOthers.setCell W a u).same D _ (h3 D hD).2 rfl⟩⟩
theorem Marks.cons {B D:Nat} {W0 W:World} {ds:List Deferred} (h0:Marks B W0 ds) (h:Marks B W ds) (hD:W0.heap.size≤D) (hB:B≤D) (hK:W.heap[D]? =some (.deferred (some []))):Marks B W ({target:=.collected D,args:=#[]}::ds):=by
 obtain ⟨Ds,h1,h2,h3⟩:=h
 obtain ⟨Ds0,g1,g2,g3⟩:=h0
 have e:Ds=Ds0:=by
  have hinj:∀a b:Nat,markD a=markD b→a=b:=fun a b h=>by injection h with h _;injection h
  have:=h1.symm.trans g1
  clear h1 h2 h3 g1 g2 g3
  induction Ds generalizing Ds0 with
  | nil=>cases Ds0 with
   | nil=>rfl
   | cons x r=>simp at this
  | cons x r ih=>cases Ds0 with
   | nil=>simp at this
   | cons y r2=>
    simp only[List.map_cons,List.cons.injEq]at this
    rw[hinj _ _ this.1,ih r2 this.2]
 subst e
 refine ⟨D::Ds,by rw[h1];rfl,List.nodup_cons.2 ⟨fun hm=>?_,h2⟩,fun D' hD'=>?_⟩
 ·have:=(Array.getElem?_eq_some_iff.1 (g3 D hm).2).1
  omega
 ·rcases List.mem_cons.1 hD' with rfl | h
  ·exact ⟨hB,hK⟩
  ·exact h3 D' h
theorem leaves_marks {F:Fence} {n:Nat} {P:Program} {fn:Func} {tmps:Array Value} {R:Ending→World→Prop} {B:Nat} {W:World} {ds:List Deferred} (h:Marks B W ds) (hB:B≤W.heap.size)
  (hfin:∀W',Below B W W'→(∀g e xs,Row W g e xs→Row W' g e xs)→LeavesInM F n P fn tmps R [] .returning W'):LeavesInM F n P fn tmps R ds .returning W:=by
 obtain ⟨Ds,rfl,h2,h3⟩:=h
 induction Ds generalizing W with
 | nil=>exact hfin W (.refl _ _) fun _ _ _ h=>h
 | cons D Ds ih=>
  obtain ⟨hn,hnd⟩:=List.nodup_cons.1 h2
  obtain ⟨hBD,hK⟩:=h3 D (by simp)
  refine ⟨by simp,.inl ⟨_,_,rfl,run_takeDeferred hK,?_⟩⟩
  have hg:=grownBy_putObj' W D (.deferred none)
  have hb:Below B W (W.putObj D (.deferred none)):=(Below.refl _ _).grown hg hB (fun k hk=>by cases hk;exact hBD)
  refine ih (by rw[World.putObj_size];exact hB) (fun W' hb' hr'=>hfin W' (hb.trans hb') fun g e xs hR=>hr' _ _ _ (hR.putObj _ hK rfl)) hnd fun D' hD'=>⟨(h3 D' (by simp[hD'])).1,?_⟩
  exact (World.putObj_heap_other (by intro e;subst e;exact hn hD')).trans (h3 D' (by simp[hD'])).2
theorem bodyM_ret {F:Fence} {n:Nat} {P:Program} {fn:Func} {R:Ending→World→Prop} {a:Act} {w:World} (h:LeavesInM F n P fn a.tmps R a.defers .returning w):bodyPostM F n P fn R .ret a w:=h
end Go.Proofs.YtaijafjfafbcfaaGreat
