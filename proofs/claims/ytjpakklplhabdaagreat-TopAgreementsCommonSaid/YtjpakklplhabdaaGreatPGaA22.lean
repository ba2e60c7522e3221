/- Part of the proof that the laws answer true for every input. -/
import Derived.Test.YtjpakklplhabdaaGreatPGaA20
import Derived.Laws.EntriesVeiled
set_option linter.unusedSimpArgs false
set_option linter.unnecessarySimpa false
set_option linter.unusedVariables false
set_option maxRecDepth 100000
set_option maxHeartbeats 40000000
namespace Go.Proofs.YtjpakklplhabdaaGreat
open Go.RowKit
attribute [local go_sem ↓] Go.wp_at_zero Go.wp_at_succ
structure WBox (n:Int) (sa:Option Addr) (sc:Nat) (st:Moves) (K RB AB FB OB N:Nat) (W:World):Prop where
 rb:Row W RB 3 [.int .i64 K]
 ab:Row W AB 27 [.int .i64 n,.slice sa st.length sc]
 fb:Row W FB 124 [.func (Fn.func 57) #[] #[.pointer (some ⟨RB,0,none⟩),.pointer (some ⟨OB,0,none⟩),.pointer (some ⟨AB,0,none⟩),.pointer (some ⟨FB,0,none⟩)]]
 rn:N≤RB∧N≤AB∧N≤FB∧N≤OB
 ro:RB≠OB∧AB≠OB∧FB≠OB
theorem WBox.agree {n:Int} {sa:Option Addr} {sc:Nat} {st:Moves} {K RB AB FB OB N:Nat} {T:Nat→Prop} {W W':World} (h:WBox n sa sc st K RB AB FB OB N W) (hw:Agree T W W') (hT:T RB∧T AB∧T FB):WBox n sa sc st K RB AB FB OB N W':=
 ⟨h.rb.agree hw hT.1,h.ab.agree hw hT.2.1,h.fb.agree hw hT.2.2,h.rn,h.ro⟩
structure WOut (OB N G K:Nat) (W:World) (ov:Value) (outl:List (List (List Int))) (word:List (List Int)):Prop where
 ob:Row W OB 90 [ov]
 ok:OwnK kWord 46 N (fun b=>N≤b∧b≠OB∧b≠G) W ov outl
 wd:W.ownsRow N 67 7 (.slice (some ⟨G,0,none⟩) word.length K) word.length (flatC word)
 og:∀g,ov.ownBlock=some g→g≠OB∧g≠G
 gn:N≤G∧G≠OB
def keepsW (OB G:Nat) (ov:Value) (b:Nat):Prop:=b≠OB∧b≠G∧ov.ownBlock≠some b
def WEnd (OB N G K:Nat) (W:World) (ov:Value) (outl:List (List (List Int))) (word:List (List Int)) (more:List (List (List Int))) (e:Ending) (W':World):Prop:=
 ∃v ov',e=.returned v∧Agree (keepsW OB G ov) W W'∧Below N W W'∧WOut OB N G K W' ov' (outl++more) word∧∀g,ov'.ownBlock=some g→ov.ownBlock=some g∨W.heap.size≤g
theorem OwnK.flat {z:Nat} {e:TypeId} {base:Nat} {S S':Nat→Prop} {w:World} {v:Value} {l:List (List Int)} (h:OwnK (kFlat z) e base S w v l):OwnK (kFlat z) e base S' w v l:=by
 obtain ⟨xs,ho,hr⟩:=h
 exact ⟨xs,ho,fun j hj=>hr j hj⟩
theorem XW {W:World} {n:Int} {sa:Option Addr} {sc:Nat} {st:Moves} {K RB AB FB OB N G:Nat} {ov:Value} {outl:List (List (List Int))} {word:List (List Int)} (hN:N≤W.heap.size) (hb:WBox n sa sc st K RB AB FB OB N W) (ho:WOut OB N G K W ov outl word) (hw:∀r∈word,r.length=7∧∀x∈r,WF x) (hK:K≤6) (hl:word.length=K) (ht:outl.length+1≤100000) (s:Nat):
  Calls Tryz.prog 57 #[.int .i64 s,.slice (some ⟨G,0,none⟩) word.length K,.pointer (some ⟨RB,0,none⟩),.pointer (some ⟨OB,0,none⟩),.pointer (some ⟨AB,0,none⟩),.pointer (some ⟨FB,0,none⟩)] W (WEnd OB N G K W ov outl word [word]):=by
 obtain ⟨oa,oc,rfl,_,_⟩:=ho.ok.form
 have hOW:=zdj (S:=fun _=>False) ho.wd hw
 have hsl:=hOW.sl (by omega)
 have KC:=zhd (xV (hsl.agree (zq _ W 1)) (by omega))
 have HO:=zhd ho
 have HH:=zhd hb
 have r0:=hb.rb.zc 0 rfl
 have hrl:=hb.rb.lt
 have hGl:G<W.heap.size:=(World.ownsRow.lt ho.wd G rfl).2
 have KEEP:Hid (∀w',Agree (fun b=>b=OB) W w'→w'.cell? ⟨OB,0,none⟩=some (.slice oa outl.length oc)∧w'.frozen? ⟨OB,0,none⟩=false∧OB<w'.heap.size):=zhd fun w' h=>⟨(HO.out.ob.agree h rfl).zc 0 rfl,(HO.out.ob.agree h rfl).free 0,(HO.out.ob.agree h rfl).lt⟩
 have HBY:Hid ((outl.length+1) * 24≤140737488355328):=zhd (by omega)
 have HBN:Hid (outl.length<9223372036854775807):=zhd (by omega)
 have FIN1:Hid (∀w5 ca cc,Below (W.drewN 1).heap.size (W.drewN 1) w5→OwnK (kFlat 7) 67 (W.drewN 1).heap.size (fun b=>(False∨N≤b)∧b<(W.drewN 1).heap.size) w5 (.slice ca word.length cc) word→
   Agree (fun b=>b=OB) W w5∧
   OwnK kWord 46 N (fun b=>N≤b∧b≠OB∧b≠G) w5 (.slice oa outl.length oc) outl∧
   kWord.rd (fun b=>(N≤b∧b≠OB∧b≠G)∧(Value.slice oa outl.length oc).ownBlock≠some b) w5 [.slice ca word.length cc] word∧N≤w5.heap.size∧
   ∀g6 c6 w6,OwnK kWord 46 N (fun b=>N≤b∧b≠OB∧b≠G) w6 (.slice (some ⟨g6,0,none⟩) (outl.length+1) c6) (outl++[word])→Below N w5 w6→(∀S:Nat→Prop,(∀k,(Value.slice oa outl.length oc).ownBlock=some k→¬S k)→Agree S w5 w6)→((Value.slice oa outl.length oc).ownBlock=some g6∨w5.heap.size≤g6)→
    Agree (fun b=>b=OB) W w6∧∀W',W'=(w6.setCell ⟨OB,0,none⟩ (.slice (some ⟨g6,0,none⟩) (outl.length+1) c6))→∀v,WEnd OB N G K W (.slice oa outl.length oc) outl word [word] (.returned v) W'):=zhd fun w5 ca cc hb5 hc5=>by
  have hB5:Below W.heap.size W w5:=za (zh _ _ 1) hb5
  have hOBl:=HO.out.ob.lt
  have hown:=HO.out.ok.lt
  have h1:=HO.out.ok.ext hB5
  have hGn:=HO.out.gn
  refine ⟨.of_ext hB5,h1,⟨_,rfl,?_⟩,Nat.le_trans hN hB5.size,fun g6 c6 w6 ho6 hb6 hag6 hg6=>?_⟩
  ·have h2:=hc5.flat (S':=fun _=>False)
   refine (h2.sl (by omega)).mono fun b hb=>?_
   have hbb:W.heap.size≤b:=by
    rcases hb with h | h
    ·exact h.elim
    ·exact h
   exact ⟨⟨by omega,by omega,by omega⟩,fun e=>by have:=(hown b e).2;omega⟩
  ·have a5:∀T:Nat→Prop,(∀k,(Value.slice oa outl.length oc).ownBlock=some k→¬T k)→Agree T W w6:=fun T hT=>(Agree.of_ext hB5).trans (hag6 T hT)
   have aO:=a5 (fun b=>b=OB) fun k hk e=>(HO.out.og k hk).1 e
   refine ⟨aO,?_⟩
   rintro W' rfl v
   have hgr:=zj w6 OB 0 (.slice (some ⟨g6,0,none⟩) (outl.length+1) c6)
   have sT:∀T:Nat→Prop,¬T OB→Agree T w6 (w6.setCell ⟨OB,0,none⟩ (.slice (some ⟨g6,0,none⟩) (outl.length+1) c6)):=fun T hT=>.of_grown hgr fun b hb e=>by cases e;exact hT hb
   have hg7:g6≠OB∧g6≠G:=by
    rcases hg6 with h | h
    ·exact HO.out.og g6 h
    ·have:=hB5.size;exact ⟨by omega,by omega⟩
   refine ⟨v,_,rfl,(a5 _ fun k hk h=>h.2.2 hk).trans (sT _ fun h=>h.1 rfl),((hB5.mono hN).trans hb6).setCell (by simpa using HH.out.rn.2.2.2) _,⟨(HO.out.ob.agree aO rfl).set 0 _,?_,?_,fun g hg=>?_,hGn⟩,fun g hg=>?_⟩
   ·exact ho6.agree (sT (fun b=>b≠OB) fun h=>h rfl) (fun k hk=>by have:g6=k:=(by simpa[Value.ownBlock] using hk);rw[←this];exact hg7.1) fun b hb=>hb.2.1
   ·exact zO (zO HO.out.wd (a5 (fun b=>b=G) fun k hk e=>(HO.out.og k hk).2 e) (fun k hk=>by simpa[Value.ownBlock] using hk.symm)) (sT (fun b=>b=G) fun e=>hGn.2 e.symm) (fun k hk=>by simpa[Value.ownBlock] using hk.symm)
   ·have:g6=g:=by simpa[Value.ownBlock] using hg
    rw[←this];exact hg7
   ·have:g6=g:=by simpa[Value.ownBlock] using hg
    rw[←this]
    rcases hg6 with h | h
    ·exact .inl h
    ·exact .inr (by have:=hB5.size;omega)
 have hlk:((word.length:Int)==(K:Int))=true:=by simp[hl]
 have hlk2:decide ((word.length:Int)=(K:Int))=true:=by simp[hl]
 clear hb ho hOW hsl hw hl
 go_enter Tryz.func57,Tryz.ntmps57
 go_wp2
 refine zH (fun w':World=>w'.cell? ⟨OB,0,none⟩=some (.slice oa outl.length oc)∧w'.frozen? ⟨OB,0,none⟩=false∧OB<w'.heap.size) (fun i=>i==5) (by kernel_rfl) ?_ (fun hHeld=>?_)
 ·exact KEEP.out _ (zq _ _ 1)
 refine anyE_take 0 (v:=?_) rfl (by kernel_rfl) (fun _ _ _ h=>h) (by rfl) ?hy0 hHeld ?r0
 case hy0=>(intro w hSw;(try dsimp only at hSw);go_simp;try with_reducible rfl)
 try simp only[Act.put,zsa,zsz,zss]
 refine anyE_take 1 (v:=?_) rfl (by kernel_rfl) (fun _ _ _ h=>h) (by rfl) ?hy1 hHeld ?r1
 case hy1=>(intro w hSw;(try dsimp only at hSw);go_simp;try with_reducible rfl)
 try simp only[Act.put,zsa,zsz,zss]
 refine anyE_one 2 rfl (by kernel_rfl) (fun K hK=>?_)
 go_simp;go_at_call 32;refine KC.out.mono ?_;rintro _ w5 ⟨cv,rfl,hb5,hc5⟩;obtain ⟨ca,cc,rfl,_,_⟩:=hc5.form;have H5:=zhd (FIN1.out w5 ca cc hb5 hc5);clear hb5 hc5
 refine hK.out _ _ (fun _=>KEEP.out _ H5.out.1) (fun hHeld=>?_);replace hHeld:=hHeld rfl
 clear hK K
 try simp only[Act.put,zsa,zsz,zss]
 refine anyE_one 3 rfl (by kernel_rfl) (fun K hK=>?_)
 go_simp
 refine hK.out _ _ (fun _=>KEEP.out _ (H5.out.1.alloc _)) (fun hHeld=>?_);replace hHeld:=hHeld rfl
 clear hK K
 try simp only[Act.put,zsa,zsz,zss]
 refine anyE_one 4 rfl (by kernel_rfl) (fun K hK=>?_)
 (refine xJ (K:=kWord) (v:=.slice oa outl.length oc) (l:=outl) (S:=fun b=>N≤b∧b≠OB∧b≠G) (base:=N) rfl _ _ _ (by rfl) 46 _ 24 Tryz.underlying90 xD rfl (by decide) (by rfl) H5.out.2.1 (cs:=[.slice ca word.length cc]) (by rfl) H5.out.2.2.1 HBY.out HBN.out H5.out.2.2.2.1 ?_;intro g6 c6 w6 ho6 hb6 hag6 hg6 hgr6;have H6:=zhd (H5.out.2.2.2.2 g6 c6 w6 ho6 hb6 hag6 hg6);clear ho6 hb6 hag6 hg6 hgr6)
 refine hK.out _ _ (fun _=>KEEP.out _ H6.out.1) (fun hHeld=>?_);replace hHeld:=hHeld rfl
 clear hK K
 try simp only[Act.put,zsa,zsz,zss]
 refine anyE_one 5 rfl (by kernel_rfl) (fun K hK=>?_)
 go_simp
 refine hK.out _ _ (fun h=>by simp at h) (fun hHeld=>?_)
 clear hK K
 try simp only[Act.put,zsa,zsz,zss]
 refine zy (by kernel_rfl) ?_ _
 go_wp2
 go_end0
 exact H6.out.2 _ rfl _
theorem Xa {OB G:Nat} {ov ov1:Value} {W W1 W2:World} (h1:Agree (keepsW OB G ov) W W1) (hg:∀g,ov1.ownBlock=some g→ov.ownBlock=some g∨W.heap.size≤g) (h2:Agree (keepsW OB G ov1) W1 W2):Agree (keepsW OB G ov) W W2:=
 ⟨Nat.le_trans h1.size h2.size,fun b hb hlt=>(h2.block b ⟨hb.1,hb.2.1,fun e=>by
  rcases hg b e with h | h
  ·exact hb.2.2 h
  ·omega⟩ (Nat.lt_of_lt_of_le hlt h1.size)).trans (h1.block b hb hlt)⟩
theorem WOut.longer {OB N G K:Nat} {W W':World} {ov:Value} {outl:List (List (List Int))} {word:List (List Int)} {r:List Int} (h:WOut OB N G K W ov outl word) (hw:Agree (fun b=>b≠G) W W')
  (ho:W'.ownsRow N 67 7 (.slice (some ⟨G,0,none⟩) (word.length+1) K) (word.length+1) (flatC word++r.map (Value.int .i64))):WOut OB N G K W' ov outl (word++[r]):=
 ⟨h.ob.agree hw (fun e=>h.gn.2 e.symm),h.ok.agree hw (fun k hk=>(h.og k hk).2) (fun b hb=>hb.2.2),by rw[Yj,List.length_append];exact ho,h.og,h.gn⟩
theorem WOut.shorter {OB N G K:Nat} {W:World} {ov:Value} {outl:List (List (List Int))} {word:List (List Int)} {r:List Int} (h:WOut OB N G K W ov outl (word++[r])) (hl:∀x∈word,x.length=7):WOut OB N G K W ov outl word:=
 ⟨h.ob,h.ok,zcP (ys:=r.map (Value.int .i64)) (by have:=h.wd;rw[Yj,List.length_append]at this;exact this) (zcK hl),h.og,h.gn⟩
theorem QG:∀(d:Nat) {S:Nat→Prop} {W:World} {n:Int} {sa:Option Addr} {sc:Nat} {st:Moves} {K RB AB FB OB N G:Nat} {ov:Value} {outl:List (List (List Int))} {word:List (List Int)} (hN:N≤W.heap.size) (hb:WBox n sa sc st K RB AB FB OB N W) (ho:WOut OB N G K W ov outl word) (hkp:keepsW OB G ov RB∧keepsW OB G ov AB∧keepsW OB G ov FB) (hw:∀r∈word,r.length=7∧∀x∈r,WF x)
  (hs:Sl (kSl (kFlat 8)) S W (.slice sa st.length sc) st) (hS:∀b,S b→b<N) (hok:MovesOK n st) (hK:K≤6) (s:Nat) (hsl:s<st.length) (hl:word.length+d=K) (ht:outl.length+cntW st d s≤100000),
  Calls Tryz.prog 57 #[.int .i64 s,.slice (some ⟨G,0,none⟩) word.length K,.pointer (some ⟨RB,0,none⟩),.pointer (some ⟨OB,0,none⟩),.pointer (some ⟨AB,0,none⟩),.pointer (some ⟨FB,0,none⟩)] W (WEnd OB N G K W ov outl word ((wordsD st d s).map (word++·))):=by
 intro d
 induction d with
 | zero=>
  intro S W n sa sc st K RB AB FB OB N G ov outl word hN hb ho hkp hw hs hS hok hK s hsl hl ht
  have:=XW hN hb ho hw hK (by omega) (by simpa[cntW] using ht) s
  simpa[wordsD] using this
 | succ d ih=>
  intro S W n sa sc st K RB AB FB OB N G ov outl word hN hb ho hkp hw hs hS hok hK s hsl hl ht
  have IH:=zhd fun (W':World) (ov':Value) (outl':List (List (List Int))) (word':List (List Int)) a1 a2 a3 a4 a5 a6 (s':Nat) a7 a8 a9=>ih (W:=W') (n:=n) (sa:=sa) (sc:=sc) (st:=st) (K:=K) (RB:=RB) (AB:=AB) (FB:=FB) (OB:=OB) (N:=N) (G:=G) (S:=S) (ov:=ov') (outl:=outl') (word:=word') a1 a2 a3 a4 a5 a6 hS hok hK s' a7 a8 a9
  clear ih
  obtain ⟨oa,oc,rfl,_,_⟩:=ho.ok.form
  have HS:=zhd hs
  have Q:=hs.idxS.out s hsl
  have hrl:(nthM st s).length≤140737488355328:=hs.rows_few s hsl
  have HTO:=zhd (hok s hsl).2
  have HNX:=zhd fun i (h:i<(nthM st s).length)=>xQ (k:=d) h
  have HAL:=zhd (qX st d s)
  have HLN:=zhd fun i=>ZH (st:=st) (k:=d) (s:=s) i
  have HCP:Hid (∀i,i<(nthM st s).length→(wordsTo st d s i).length+cntW st d (nth (nthL (nthM st s) i) 7).toNat≤cntW st (d+1) s):=zhd fun i h=>by
   have:=HLN.out (i+1)
   rw[HNX.out i h,List.length_append,List.length_map,zS]at this
   exact this
  have hSk:∀b,S b→keepsW OB G (.slice oa outl.length oc) b:=fun b h=>by
   have h0:=hS b h
   have h1:=ho.gn.1
   have h2:=hb.rn.2.2.2
   have h3:=ho.ok.lt
   exact ⟨by omega,by omega,fun e=>by have:=(h3 b e).1;omega⟩
  have HSB:Hid (∀W',Agree (keepsW OB G (.slice oa outl.length oc)) W W'→Sl (kSl (kFlat 8)) S W' (.slice sa st.length sc) st):=zhd fun W' h=>hs.agree (h.mono hSk)
  have HO:=zhd ho
  have HH:=zhd hb
  have HKP:=zhd hkp
  have HW:=zhd hw
  have HSS:=zhd hS
  have r0:=hb.rb.zc 0 rfl
  have a1:=hb.ab.zc 1 rfl
  have hrl0:=hb.rb.lt
  have hal0:=hb.ab.lt
  obtain ⟨rb0,rc0,cu,hrow0⟩:=hs.mrow (.refl _ _) hsl
  have hbr:=World.block_lt_of_cell? _ _ cu
  have hlk:((word.length:Int)==(K:Int))=false:=by simp;omega
  have hlk2:decide ((word.length:Int)=(K:Int))=false:=by simp;omega
  have hlk3:¬((word.length:Int)=(K:Int)):=by omega
  have HQM:=hrow0.idxM
  have HRB:Hid (∀W',Agree (keepsW OB G (.slice oa outl.length oc)) W W'→Sl (kFlat 8) S W' (.slice rb0 (nthM st s).length rc0) (nthM st s)):=zhd fun W' h=>hrow0.agree (h.mono hSk)
  obtain ⟨row,hrow⟩:∃row,row=nthM st s:=⟨_,rfl⟩
  rw[←hrow]at HTO hrl HNX HAL HCP cu HQM HRB
  have hO1:=ho.ok.lt
  clear hb ho hkp hw hs hS hok hrow hrow0 hSk
  go_enter Tryz.func57,Tryz.ntmps57
  go_wp2
  go_loopw [9,25] (fun _ i wr=>∃(i':Nat) (ov1:Value),i'≤row.length∧i=.int .i64 i'∧Agree (keepsW OB G (.slice oa outl.length oc)) W wr∧Below N W wr∧Hid (WOut OB N G K wr ov1 (outl++(wordsTo st d s i').map (word++·)) word)∧∀g,ov1.ownBlock=some g→(Value.slice oa outl.length oc).ownBlock=some g∨W.heap.size≤g) (fun _ i _=>row.length - (intOf i).toNat)
  case atStart=>exact ⟨0,_,Nat.zero_le _,rfl,.refl _ _,.refl _ _,zhd (by rw[Qq,List.map_nil,List.append_nil];exact HO.out),fun g hg=>.inl hg⟩
  case round=>
   obtain ⟨i,ov1,hi,rfl,hag,hbl,HO1,hg1⟩:=hrel
   by_cases hit:i<row.length
   case neg=>
    obtain rfl:i=row.length:=by omega
    rw[HAL.out]at HO1
    go_wp2
    go_end0
    exact ⟨_,ov1,rfl,hag,hbl,HO1.out,hg1⟩
   obtain ⟨oa1,oc1,eov,_,_⟩:=HO1.out.ok.form
   obtain ⟨outl1,hou⟩:∃x,x=outl++(wordsTo st d s i).map (word++·):=⟨_,rfl⟩
   rw[←hou]at HO1 eov
   subst eov
   have hz:=(HRB.out wr hag).nums hit (by decide)
   have hn8:=(HRB.out wr hag).num hit
   have hbk:=zI (HRB.out wr hag).ad.1 (by omega) (i * 8)
   have qm:=HQM.out i hit
   have z0:=hz.1
   have z1:=hz.2 1 (by decide)
   have z2:=hz.2 2 (by decide)
   have z3:=hz.2 3 (by decide)
   have z4:=hz.2 4 (by decide)
   have z5:=hz.2 5 (by decide)
   have z6:=hz.2 6 (by decide)
   have z7:=hz.2 7 (by decide)
   obtain ⟨_,_,hto1,hto2⟩:=HTO.out i hit
   have hcp:=HCP.out i hit
   have hnx:=HNX.out i hit
   obtain ⟨m,hm⟩:∃m,m=nthL row i:=⟨_,rfl⟩
   rw[←hm]at z0 z1 z2 z3 z4 z5 z6 z7 hto1 hto2 hcp hnx hn8
   obtain ⟨to,hto⟩:∃t:Nat,nth m 7=t:=⟨(nth m 7).toNat,by omega⟩
   have ht7:=take7 hn8.1
   have hO2:=HO1.out.ok.lt
   have hGl:G<wr.heap.size:=(World.ownsRow.lt HO1.out.wd G rfl).2
   have hOl:=HO1.out.ob.lt
   have hol:outl1.length=outl.length+(wordsTo st d s i).length:=by rw[hou,List.length_append,List.length_map]
   have hBA:=zb wr (.cells #[.int .i64 (nth m 0),.int .i64 (nth m 1),.int .i64 (nth m 2),.int .i64 (nth m 3),.int .i64 (nth m 4),.int .i64 (nth m 5),.int .i64 (nth m 6),.int .i64 (nth m 7)] 69)
   have RM:=ze wr [.int .i64 (nth m 0),.int .i64 (nth m 1),.int .i64 (nth m 2),.int .i64 (nth m 3),.int .i64 (nth m 4),.int .i64 (nth m 5),.int .i64 (nth m 6),.int .i64 (nth m 7)] 69
   have FB1:=HH.out.fb.agree hag HKP.out.2.2
   have hFl:=FB1.lt
   have KEEP:Hid (∀w',Agree (fun b=>b=FB∨b=wr.heap.size) (wr.alloc (.cells #[.int .i64 (nth m 0),.int .i64 (nth m 1),.int .i64 (nth m 2),.int .i64 (nth m 3),.int .i64 (nth m 4),.int .i64 (nth m 5),.int .i64 (nth m 6),.int .i64 (nth m 7)] 69)) w'→w'.cell? ⟨FB,0,none⟩=some (.func (Fn.func 57) #[] #[.pointer (some ⟨RB,0,none⟩),.pointer (some ⟨OB,0,none⟩),.pointer (some ⟨AB,0,none⟩),.pointer (some ⟨FB,0,none⟩)])∧w'.cell? ⟨wr.heap.size,0,none⟩=some (.int .i64 (nth m 0))∧w'.cell? ⟨wr.heap.size,1,none⟩=some (.int .i64 (nth m 1))∧w'.cell? ⟨wr.heap.size,2,none⟩=some (.int .i64 (nth m 2))∧w'.cell? ⟨wr.heap.size,3,none⟩=some (.int .i64 (nth m 3))∧w'.cell? ⟨wr.heap.size,4,none⟩=some (.int .i64 (nth m 4))∧w'.cell? ⟨wr.heap.size,5,none⟩=some (.int .i64 (nth m 5))∧w'.cell? ⟨wr.heap.size,6,none⟩=some (.int .i64 (nth m 6))∧w'.cell? ⟨wr.heap.size,7,none⟩=some (.int .i64 (nth m 7))):=zhd fun w' h=>⟨((FB1.alloc _).agree h (.inl rfl)).zc 0 rfl,(RM.agree h (.inr rfl)).zc 0 rfl,(RM.agree h (.inr rfl)).zc 1 rfl,(RM.agree h (.inr rfl)).zc 2 rfl,(RM.agree h (.inr rfl)).zc 3 rfl,(RM.agree h (.inr rfl)).zc 4 rfl,(RM.agree h (.inr rfl)).zc 5 rfl,(RM.agree h (.inr rfl)).zc 6 rfl,(RM.agree h (.inr rfl)).zc 7 rfl⟩
   have HNB:Hid (N≤((wr.alloc (.cells #[.int .i64 (nth m 0),.int .i64 (nth m 1),.int .i64 (nth m 2),.int .i64 (nth m 3),.int .i64 (nth m 4),.int .i64 (nth m 5),.int .i64 (nth m 6),.int .i64 (nth m 7)] 69))).drew.heap.size):=zhd (Nat.le_trans hN (Nat.le_trans hag.size hBA.size))
   have HWD:Hid (((wr.alloc (.cells #[.int .i64 (nth m 0),.int .i64 (nth m 1),.int .i64 (nth m 2),.int .i64 (nth m 3),.int .i64 (nth m 4),.int .i64 (nth m 5),.int .i64 (nth m 6),.int .i64 (nth m 7)] 69))).drew.ownsRow N 67 7 (.slice (some ⟨G,0,none⟩) word.length K) word.length (flatC word)):=zhd (qn (qn HO1.out.wd hBA) (zh _ _ 1))
   have HRM:Hid (word.length+1≤K):=zhd (by omega)
   have HSZ:Hid ((wr.alloc (.cells #[.int .i64 (nth m 0),.int .i64 (nth m 1),.int .i64 (nth m 2),.int .i64 (nth m 3),.int .i64 (nth m 4),.int .i64 (nth m 5),.int .i64 (nth m 6),.int .i64 (nth m 7)] 69)).drew.heap.size=wr.heap.size+1):=zhd (World.size_alloc _ _)
   have HON:Hid (∀u∈([.int .i64 (nth m 0),.int .i64 (nth m 1),.int .i64 (nth m 2),.int .i64 (nth m 3),.int .i64 (nth m 4),.int .i64 (nth m 5),.int .i64 (nth m 6)]:List Value),u.oneCell'=true):=zhd (by intro u hu;simp at hu;rcases hu with h | h | h | h | h | h | h<;>(subst h;rfl))
   have HBY:Hid ((word.length+1) * 56≤140737488355328):=zhd (by omega)
   have HBN:Hid (word.length<9223372036854775807):=zhd (by omega)
   have FIN7:Hid (∀w7,w7.ownsRow N 67 7 (.slice (some ⟨G,0,none⟩) (word.length+1) K) (word.length+1) (flatC word++[.int .i64 (nth m 0),.int .i64 (nth m 1),.int .i64 (nth m 2),.int .i64 (nth m 3),.int .i64 (nth m 4),.int .i64 (nth m 5),.int .i64 (nth m 6)])→(((wr.alloc (.cells #[.int .i64 (nth m 0),.int .i64 (nth m 1),.int .i64 (nth m 2),.int .i64 (nth m 3),.int .i64 (nth m 4),.int .i64 (nth m 5),.int .i64 (nth m 6),.int .i64 (nth m 7)] 69))).drew.alloc (.cells [.int .i64 (nth m 0),.int .i64 (nth m 1),.int .i64 (nth m 2),.int .i64 (nth m 3),.int .i64 (nth m 4),.int .i64 (nth m 5),.int .i64 (nth m 6)].toArray 67)).grownBy w7 (some G)→
     Agree (fun b=>b=FB∨b=wr.heap.size) (wr.alloc (.cells #[.int .i64 (nth m 0),.int .i64 (nth m 1),.int .i64 (nth m 2),.int .i64 (nth m 3),.int .i64 (nth m 4),.int .i64 (nth m 5),.int .i64 (nth m 6),.int .i64 (nth m 7)] 69)) w7∧
     Calls Tryz.prog 57 #[.int .i64 (nth m 7),.slice (some ⟨G,0,none⟩) (word.length+1) K,.pointer (some ⟨RB,0,none⟩),.pointer (some ⟨OB,0,none⟩),.pointer (some ⟨AB,0,none⟩),.pointer (some ⟨FB,0,none⟩)] w7 (WEnd OB N G K w7 (.slice oa1 outl1.length oc1) outl1 (word++[m.take 7]) ((wordsD st d to).map ((word++[m.take 7])++·)))∧
     ∀e W',WEnd OB N G K w7 (.slice oa1 outl1.length oc1) outl1 (word++[m.take 7]) ((wordsD st d to).map ((word++[m.take 7])++·)) e W'→∃v,e=.returned v∧∃ov2,Agree (keepsW OB G (.slice oa outl.length oc)) W W'∧Below N W W'∧WOut OB N G K W' ov2 (outl++(wordsTo st d s (i+1)).map (word++·)) word∧(∀g,ov2.ownBlock=some g→(Value.slice oa outl.length oc).ownBlock=some g∨W.heap.size≤g)∧Agree (fun b=>b=FB∨b=wr.heap.size) (wr.alloc (.cells #[.int .i64 (nth m 0),.int .i64 (nth m 1),.int .i64 (nth m 2),.int .i64 (nth m 3),.int .i64 (nth m 4),.int .i64 (nth m 5),.int .i64 (nth m 6),.int .i64 (nth m 7)] 69)) W'):=zhd fun w7 ho7 hg7=>by
    have hA7:Agree (fun b=>b≠G) wr w7:=((Agree.of_ext hBA).trans (zq _ _ 1)).trans (((Agree.refl _ _).alloc _).trans (.of_grown hg7 fun b hb e=>by cases e;exact hb rfl))
    have hB7:Below N wr w7:=((hBA.mono (Nat.le_trans hN hag.size)).trans (zh _ _ 1)).trans (((Below.refl _ _).alloc HNB.out _).grown hg7 (by simp;have:=HNB.out;simp at this;omega) (fun k hk=>by cases hk;exact HO1.out.gn.1))
    have hAW:Agree (keepsW OB G (.slice oa outl.length oc)) W w7:=hag.trans (hA7.mono fun b hb=>hb.2.1)
    have hw7:∀r∈word++[m.take 7],r.length=7∧∀x∈r,WF x:=fun r hr=>by
     rcases List.mem_append.1 hr with h | h
     ·exact HW.out r h
     ·rw[List.mem_singleton.1 h]
      exact ⟨by rw[ht7];rfl,fun x hx=>hn8.2.1 x (List.mem_of_mem_take hx)⟩
    have hk1:∀b,keepsW OB G (.slice oa outl.length oc) b→b<W.heap.size→keepsW OB G (.slice oa1 outl1.length oc1) b:=fun b hb hlt=>⟨hb.1,hb.2.1,fun e=>by
     rcases hg1 b e with h | h
     ·exact hb.2.2 h
     ·omega⟩
    have hM7:Agree (fun b=>b=FB∨b=wr.heap.size) (wr.alloc (.cells #[.int .i64 (nth m 0),.int .i64 (nth m 1),.int .i64 (nth m 2),.int .i64 (nth m 3),.int .i64 (nth m 4),.int .i64 (nth m 5),.int .i64 (nth m 6),.int .i64 (nth m 7)] 69)) w7:=(zq _ _ 1).trans (((Agree.refl _ _).alloc _).trans (.of_grown hg7 fun b hb e=>by
     cases e
     rcases hb with h | h
     ·exact HKP.out.2.2.2.1 h.symm
     ·omega))
    refine ⟨hM7,?_,?_⟩
    ·have hI:=IH.out w7 (.slice oa1 outl1.length oc1) outl1 (word++[m.take 7]) (Nat.le_trans hN hAW.size) (HH.out.agree hAW HKP.out) (HO1.out.longer hA7 (by rw[ht7];exact ho7)) ⟨hk1 _ HKP.out.1 hrl0,hk1 _ HKP.out.2.1 hal0,hk1 _ HKP.out.2.2 HH.out.fb.lt⟩ hw7 (HSB.out w7 hAW) to (by omega) (by rw[List.length_append,List.length_singleton];omega) (by rw[hto,Int.toNat_natCast]at hcp;omega)
     rw[List.length_append]at hI
     rw[hto]
     exact hI
    ·rintro e W' ⟨v,ov2,rfl,hA8,hB8,hO8,hg8⟩
     refine ⟨v,rfl,ov2,Xa hAW hg1 hA8,hbl.trans (hB7.trans hB8),?_,fun g hg=>?_,hM7.trans (hA8.mono fun b hb=>?_)⟩
     ·have hO9:=hO8.shorter fun x hx=>(HW.out x hx).1
      have el:outl1++(wordsD st d to).map ((word++[m.take 7])++·)=outl++(wordsTo st d s (i+1)).map (word++·):=by
       rw[hnx,hto,Int.toNat_natCast,hou,List.map_append,List.map_map,List.append_assoc]
       congr 2
       apply List.map_congr_left
       intro x _
       simp
      rw[el]at hO9
      exact hO9
     ·rcases hg8 g hg with h | h
      ·exact hg1 g h
      ·exact .inr (Nat.le_trans hAW.size h)
     ·rcases hb with h | h
      ·rw[h];exact hk1 _ HKP.out.2.2 HH.out.fb.lt
      ·rw[h];exact ⟨by omega,by omega,fun e=>by have:=(hO2 _ e).2;omega⟩
   clear hm hto ht7 hnx hcp hz hn8 hol hou RM FB1 hO2 hto1 hto2 hO1
   go_wp2
   refine zH (fun w':World=>w'.cell? ⟨FB,0,none⟩=some (.func (Fn.func 57) #[] #[.pointer (some ⟨RB,0,none⟩),.pointer (some ⟨OB,0,none⟩),.pointer (some ⟨AB,0,none⟩),.pointer (some ⟨FB,0,none⟩)])∧w'.cell? ⟨wr.heap.size,0,none⟩=some (.int .i64 (nth m 0))∧w'.cell? ⟨wr.heap.size,1,none⟩=some (.int .i64 (nth m 1))∧w'.cell? ⟨wr.heap.size,2,none⟩=some (.int .i64 (nth m 2))∧w'.cell? ⟨wr.heap.size,3,none⟩=some (.int .i64 (nth m 3))∧w'.cell? ⟨wr.heap.size,4,none⟩=some (.int .i64 (nth m 4))∧w'.cell? ⟨wr.heap.size,5,none⟩=some (.int .i64 (nth m 5))∧w'.cell? ⟨wr.heap.size,6,none⟩=some (.int .i64 (nth m 6))∧w'.cell? ⟨wr.heap.size,7,none⟩=some (.int .i64 (nth m 7))) (fun i=>false) (by kernel_rfl) ?_ (fun hHeld=>?_)
   ·exact KEEP.out _ (zq _ _ 1)
   refine anyE_take 0 (v:=?_) rfl (by kernel_rfl) (fun _ _ _ h=>h) (by rfl) ?hy0 hHeld ?r0
   case hy0=>(intro w hSw;(try dsimp only at hSw);go_simp;try with_reducible rfl)
   try simp only[Act.put,zsa,zsz,zss]
   refine anyE_take 1 (v:=?_) rfl (by kernel_rfl) (fun _ _ _ h=>h) (by rfl) ?hy1 hHeld ?r1
   case hy1=>(intro w hSw;(try dsimp only at hSw);go_simp;try with_reducible rfl)
   try simp only[Act.put,zsa,zsz,zss]
   refine anyE_take 2 (v:=?_) rfl (by kernel_rfl) (fun _ _ _ h=>h) (by rfl) ?hy2 hHeld ?r2
   case hy2=>(intro w hSw;(try dsimp only at hSw);go_simp;try with_reducible rfl)
   try simp only[Act.put,zsa,zsz,zss]
   refine anyE_take 3 (v:=?_) rfl (by kernel_rfl) (fun _ _ _ h=>h) (by rfl) ?hy3 hHeld ?r3
   case hy3=>(intro w hSw;(try dsimp only at hSw);go_simp;try with_reducible rfl)
   try simp only[Act.put,zsa,zsz,zss]
   refine anyE_take 4 (v:=?_) rfl (by kernel_rfl) (fun _ _ _ h=>h) (by rfl) ?hy4 hHeld ?r4
   case hy4=>(intro w hSw;(try dsimp only at hSw);go_simp;try with_reducible rfl)
   try simp only[Act.put,zsa,zsz,zss]
   refine anyE_take 5 (v:=?_) rfl (by kernel_rfl) (fun _ _ _ h=>h) (by rfl) ?hy5 hHeld ?r5
   case hy5=>(intro w hSw;(try dsimp only at hSw);go_simp;try with_reducible rfl)
   try simp only[Act.put,zsa,zsz,zss]
   refine anyE_one 6 rfl (by kernel_rfl) (fun K hK=>?_)
   go_simp
   refine hK.out _ _ (fun _=>KEEP.out _ (((Agree.refl _ _).alloc _).trans (zq _ _ 1))) (fun hHeld=>?_);replace hHeld:=hHeld rfl
   clear hK K
   try simp only[Act.put,zsa,zsz,zss]
   refine anyE_one 7 rfl (by kernel_rfl) (fun K hK=>?_)
   (refine ZV (w:=(wr.alloc (.cells #[.int .i64 (nth m 0),.int .i64 (nth m 1),.int .i64 (nth m 2),.int .i64 (nth m 3),.int .i64 (nth m 4),.int .i64 (nth m 5),.int .i64 (nth m 6),.int .i64 (nth m 7)] 69)).drew) (base:=N) (g:=G) (n:=word.length) (xs:=flatC word) (cs:=[.int .i64 (nth m 0),.int .i64 (nth m 1),.int .i64 (nth m 2),.int .i64 (nth m 3),.int .i64 (nth m 4),.int .i64 (nth m 5),.int .i64 (nth m 6)]) rfl _ _ _ (by rfl) 67 _ 7 56 Tryz.underlying46 qE rfl (by decide) (by rfl) (by rw[HSZ.out];rfl) HWD.out HRM.out rfl HON.out HBY.out HBN.out HNB.out ?_;intro w7 ho7 hg7;have H7:=zhd (FIN7.out w7 ho7 hg7);clear ho7 hg7)
   refine hK.out _ _ (fun _=>KEEP.out _ H7.out.1) (fun hHeld=>?_);replace hHeld:=hHeld rfl
   clear hK K
   try simp only[Act.put,zsa,zsz,zss]
   refine anyE_one 8 rfl (by kernel_rfl) (fun K hK=>?_)
   go_simp;go_at_call 57;refine H7.out.2.1.mono ?_;intro e8 w8 hE;obtain ⟨v8,rfl,ov2,hA8,hB8,hO8,hg8,hM8⟩:=H7.out.2.2 _ _ hE;have HO8:=zhd hO8;clear hE hO8
   refine hK.out _ _ (fun _=>KEEP.out _ hM8) (fun hHeld=>?_);replace hHeld:=hHeld rfl
   clear hK K
   try simp only[Act.put,zsa,zsz,zss]
   refine zy (by kernel_rfl) ?_ _
   clear H7 hM8 KEEP HWD HRM HON HBY HBN HNB FIN7 hHeld
   go_wp2
   go_roundw
   case rel=>exact ⟨i+1,ov2,by omega,by go_num,hA8,hB8,HO8,hg8⟩
   case measure=>simp[intOf];omega
theorem Qa {P:Program} {ops:Array Oper} {o:Oper} {a:Act} {w:World} {K:Act→World→Prop} {Q:Exit→Act→World→Prop} {E:Prop} (hgd:o.guard=none) (l c:Operand) (t:TypeId) (hop:o.op=Op.makeSlice t l c)
  (base:Nat) (e:TypeId) (i:TypeInfo) (z:Value) (size:Nat) (ht:P.underlying t=some (.slice e)) (hi:P.info? e=some i) (hz:i.zero=some z) (hsize:i.size=size)
  (kl kc:IntKind) (n:Nat) (hl:a.eval l=.int kl 0) (hc:a.eval c=.int kc (n:Int)) (hbytes:i.bytes * n≤281474976710656) (h63:n≤maxLen) (hbase:base≤w.heap.size)
  (h:∀w',w'.ownsRow base e size (.slice (some ⟨w.heap.size,0,none⟩) 0 n) 0 []→w.grownBy w' none→K (a.put o.dst (.slice (some ⟨w.heap.size,0,none⟩) 0 n)) w'):
  if Region.wanted o (yielded ops a.tmps)=true then Oper.wp P o a w K Q else E:=by
 have hw:Region.wanted o (yielded ops a.tmps)=true:=by simp[Region.wanted,hgd]
 rw[if_pos hw]
 obtain ⟨w',hr,h2,h3⟩:=run_make_own (P:=P) w base t e i z size ht hi hz hsize kl kc n hbytes h63 hbase
 unfold Oper.wp
 simp[execOp,hop,hl,hc,hr,Result.andThen]
 exact h w' h2 h3
theorem XP {S:Nat→Prop} {w:World} {vs:Value} {st:Moves} (n:Int) (hs:Sl (kSl (kFlat 8)) S w vs st) (hz:checkA n st=0) (k:Nat) (hk:k≤6) (hc:cntW st k 0≤4096):
  Calls Tryz.prog 29 #[.agg #[.int .i64 n,vs],.int .i64 k] w (Post w fun w' r=>∃v,r=.tuple #[v,.int .i64 0]∧Sl kWord (fun b=>w.heap.size≤b) w' v (wordsD st k 0)):=by
 obtain ⟨_,_,hl1,hl2,_,hok,_⟩:=qo hz
 obtain ⟨sa,sc,rfl,hm⟩:=hs.addr
 have ex:Below w.heap.size w ((w.alloc (.cells #[.int .i64 n,.slice sa st.length sc] 27)).alloc (.cells #[.int .i64 k] 3)):=zg (zb w _) _
 have RA:Row ((w.alloc (.cells #[.int .i64 n,.slice sa st.length sc] 27)).alloc (.cells #[.int .i64 k] 3)) w.heap.size 27 [.int .i64 n,.slice sa st.length sc]:=(ze w [_,_] _).alloc _
 have RK:Row ((w.alloc (.cells #[.int .i64 n,.slice sa st.length sc] 27)).alloc (.cells #[.int .i64 k] 3)) (w.heap.size+1) 3 [.int .i64 k]:=by
  have:=ze (w.alloc (.cells #[.int .i64 n,.slice sa st.length sc] 27)) [.int .i64 k] 3
  rwa [World.size_alloc]at this
 have KC:Hid (∀W,Below w.heap.size w W→Calls Tryz.prog 56 #[.agg #[.int .i64 n,.slice sa st.length sc],.int .i64 k,.int .i64 4096] W (Post W fun _ r=>r=.tuple #[.int .i64 (cntW st k 0:Nat),.int .i64 0])):=zhd fun W hW=>by
  have:=xj n (hs.ext hW) hz k 4096 hk (by omega)
  unfold numR at this
  rw[if_neg (by omega)]at this
  exact this
 have HS:=zhd hs.block
 have HOK:=zhd hok
 obtain ⟨c,hcc⟩:∃c,c=cntW st k 0:=⟨_,rfl⟩
 rw[←hcc]at KC hc
 have HCC:=zhd hcc
 clear hs hok hz hcc
 go_enter Tryz.func29,Tryz.ntmps29
 go_wp2_with fail
 refine (KC.out _ ex).mono ?_
 rintro _ w1 ⟨_,rfl,hb1,rfl⟩
 replace RA:=RA.ext hb1
 replace RK:=RK.ext hb1
 replace ex:=za ex hb1
 have r0:=RK.zc 0 rfl
 have hlk:=RK.lt
 obtain ⟨i0,hi,hz0,hz1,hz2⟩:=info_parts xD
 obtain ⟨ir,hri,hrz0,hrz1,hrz2⟩:=info_parts qE
 clear KC hb1
 go_wp2_with (first | (at_make;refine wpList_make_own w1 rfl _ _ 90 rfl w.heap.size 46 i0 (.slice none 0 0) 1 Tryz.underlying90 hi hz0 hz1 .i64 .i64 _ c rfl rfl rfl (by rw[hz2];omega) (by unfold maxLen;omega) ex.size ?_;intro w2 hown2 hgrow2;have hb2:Below w1.heap.size w1 w2:=(Below.refl _ w1).grown hgrow2 (Nat.le_refl _) (fun j hj=>by cases hj);have r2:=(RK.ext hb2).zc 0 rfl) | fail)
 have hown4:=(hown2.alloc (.cells #[.slice (some ⟨w1.heap.size,0,none⟩) 0 c] 90)).alloc (.cells #[.func (Fn.func 57) #[] #[.pointer (some ⟨w.heap.size+1,0,none⟩),.pointer (some ⟨w2.heap.size,0,none⟩),.pointer (some ⟨w.heap.size,0,none⟩),.pointer (some ⟨w2.heap.size+1,0,none⟩)]] 124)
 have RO:=(ze w2 [.slice (some ⟨w1.heap.size,0,none⟩) 0 c] 90).alloc (.cells #[.func (Fn.func 57) #[] #[.pointer (some ⟨w.heap.size+1,0,none⟩),.pointer (some ⟨w2.heap.size,0,none⟩),.pointer (some ⟨w.heap.size,0,none⟩),.pointer (some ⟨w2.heap.size+1,0,none⟩)]] 124)
 have RF:=ze (w2.alloc (.cells #[.slice (some ⟨w1.heap.size,0,none⟩) 0 c] 90)) [.func (Fn.func 57) #[] #[.pointer (some ⟨w.heap.size+1,0,none⟩),.pointer (some ⟨w2.heap.size,0,none⟩),.pointer (some ⟨w.heap.size,0,none⟩),.pointer (some ⟨w2.heap.size+1,0,none⟩)]] 124
 rw[World.size_alloc]at RF
 have hx4:=zg (zg (za ex hb2) (.cells #[.slice (some ⟨w1.heap.size,0,none⟩) 0 c] 90)) (.cells #[.func (Fn.func 57) #[] #[.pointer (some ⟨w.heap.size+1,0,none⟩),.pointer (some ⟨w2.heap.size,0,none⟩),.pointer (some ⟨w.heap.size,0,none⟩),.pointer (some ⟨w2.heap.size+1,0,none⟩)]] 124)
 have hy4:Below w1.heap.size w1 ((w2.alloc (.cells #[.slice (some ⟨w1.heap.size,0,none⟩) 0 c] 90)).alloc (.cells #[.func (Fn.func 57) #[] #[.pointer (some ⟨w.heap.size+1,0,none⟩),.pointer (some ⟨w2.heap.size,0,none⟩),.pointer (some ⟨w.heap.size,0,none⟩),.pointer (some ⟨w2.heap.size+1,0,none⟩)]] 124)):=zg (zg hb2 _) _
 have RA4:=RA.ext hy4
 have RK4:=RK.ext hy4
 have hV:=(hown2.lt w1.heap.size rfl).2
 have hexs:=ex.size
 obtain ⟨OB,hOB⟩:∃OB,OB=w2.heap.size:=⟨_,rfl⟩
 obtain ⟨V0,hV0⟩:∃V0,V0=w1.heap.size:=⟨_,rfl⟩
 rw[←hOB,←hV0]at hown4 RO RF hx4 RA4 RK4 ⊢
 rw[←hOB,←hV0]at hV
 rw[←hV0]at hexs hlk
 obtain ⟨w4,hw4⟩:∃w4,w4=(w2.alloc (.cells #[.slice (some ⟨V0,0,none⟩) 0 c] 90)).alloc (.cells #[.func (Fn.func 57) #[] #[.pointer (some ⟨w.heap.size+1,0,none⟩),.pointer (some ⟨OB,0,none⟩),.pointer (some ⟨w.heap.size,0,none⟩),.pointer (some ⟨OB+1,0,none⟩)]] 124):=⟨_,rfl⟩
 rw[←hw4]at hown4 RO RF hx4 RA4 RK4 ⊢
 clear hy4 hw4 hOB hV0 hown2 hgrow2 hb2 r2 r0 RA RK ex hi hz0 hz1 hz2
 have FB1:=RF
 have hfl:=RF.lt
 have KEEP:Hid (∀w',Below w4.heap.size w4 w'→w'.cell? ⟨OB+1,0,none⟩=some (.func (Fn.func 57) #[] #[.pointer (some ⟨w.heap.size+1,0,none⟩),.pointer (some ⟨OB,0,none⟩),.pointer (some ⟨w.heap.size,0,none⟩),.pointer (some ⟨OB+1,0,none⟩)])∧w'.cell? ⟨w.heap.size+1,0,none⟩=some (.int .i64 k)):=zhd fun w' h=>⟨(RF.ext h).zc 0 rfl,(RK4.ext h).zc 0 rfl⟩
 have HBY:Hid (ir.bytes * k≤281474976710656):=zhd (by rw[hrz2];omega)
 have HBM:Hid (k≤maxLen):=zhd (by unfold maxLen;omega)
 have HNB:Hid (w.heap.size≤w4.drew.heap.size):=zhd hx4.size
 obtain ⟨G,hG⟩:∃G,G=w4.heap.size:=⟨_,rfl⟩
 have FIN7:Hid (∀w7,w7.ownsRow w.heap.size 67 7 (.slice (some ⟨w4.drew.heap.size,0,none⟩) 0 k) 0 []→w4.drew.grownBy w7 none→(w7.cell? ⟨OB+1,0,none⟩=some (.func (Fn.func 57) #[] #[.pointer (some ⟨w.heap.size+1,0,none⟩),.pointer (some ⟨OB,0,none⟩),.pointer (some ⟨w.heap.size,0,none⟩),.pointer (some ⟨OB+1,0,none⟩)])∧w7.cell? ⟨w.heap.size+1,0,none⟩=some (.int .i64 k))∧
   Calls Tryz.prog 57 #[.int .i64 0,.slice (some ⟨w4.drew.heap.size,0,none⟩) 0 k,.pointer (some ⟨w.heap.size+1,0,none⟩),.pointer (some ⟨OB,0,none⟩),.pointer (some ⟨w.heap.size,0,none⟩),.pointer (some ⟨OB+1,0,none⟩)] w7 (WEnd OB w.heap.size w4.heap.size k w7 (.slice (some ⟨V0,0,none⟩) 0 c) [] [] ((wordsD st k 0).map ([]++·)))∧
   ∀e W',WEnd OB w.heap.size w4.heap.size k w7 (.slice (some ⟨V0,0,none⟩) 0 c) [] [] ((wordsD st k 0).map ([]++·)) e W'→∃v ov2,e=.returned v∧(W'.cell? ⟨OB+1,0,none⟩=some (.func (Fn.func 57) #[] #[.pointer (some ⟨w.heap.size+1,0,none⟩),.pointer (some ⟨OB,0,none⟩),.pointer (some ⟨w.heap.size,0,none⟩),.pointer (some ⟨OB+1,0,none⟩)])∧W'.cell? ⟨w.heap.size+1,0,none⟩=some (.int .i64 k))∧Below w.heap.size w W'∧Row W' OB 90 [ov2]∧∃a cc,ov2=.slice a (wordsD st k 0).length cc∧Sl kWord (fun b=>w.heap.size≤b) W' ov2 (wordsD st k 0)):=zhd fun w7 ho7 hg7=>by
  have hB7:Below w4.heap.size w4 w7:=(zh _ _ 1).trans ((Below.refl _ w4.drew).grown hg7 (Nat.le_refl _) (fun j hj=>by cases hj))
  have hs7:=hB7.size
  have hkp:keepsW OB w4.heap.size (.slice (some ⟨V0,0,none⟩) 0 c) (w.heap.size+1)∧keepsW OB w4.heap.size (.slice (some ⟨V0,0,none⟩) 0 c) w.heap.size∧keepsW OB w4.heap.size (.slice (some ⟨V0,0,none⟩) 0 c) (OB+1):=
   ⟨⟨by omega,by omega,by simp[Value.ownBlock];omega⟩,⟨by omega,by omega,by simp[Value.ownBlock];omega⟩,⟨by omega,by omega,by simp[Value.ownBlock];omega⟩⟩
  refine ⟨KEEP.out _ hB7,?_,?_⟩
  ·exact QG k (S:=fun b=>S b∧b<w.heap.size) (Nat.le_trans hx4.size hs7) ⟨RK4.ext hB7,RA4.ext hB7,RF.ext hB7,⟨by omega,Nat.le_refl _,by omega,by omega⟩,by omega,by omega,by omega⟩
    ⟨RO.ext hB7,⟨[],qn hown4 hB7,fun j hj=>by simp at hj⟩,ho7,fun g hg=>by simp[Value.ownBlock]at hg;omega,by omega,by omega⟩ hkp (by simp) ((HS.out.ext hx4).ext hB7) (fun b hb=>hb.2) HOK.out hk 0 (by omega) (by simp) (by simp;rw[←HCC.out];omega)
  ·rintro e W' ⟨v,ov2,rfl,hA8,hB8,hO8,hg8⟩
   have el:([]:List (List (List Int)))++(wordsD st k 0).map ([]++·)=wordsD st k 0:=by simp
   rw[el]at hO8
   obtain ⟨a2,c2,e2,_,_⟩:=hO8.ok.form
   have hfew:(wordsD st k 0).length≤140737488355328:=by rw[zS,←HCC.out];omega
   refine ⟨v,ov2,rfl,⟨((RF.ext hB7).agree hA8 hkp.2.2).zc 0 rfl,((RK4.ext hB7).agree hA8 hkp.1).zc 0 rfl⟩,(hx4.trans (hB7.mono hx4.size)).trans hB8,hO8.ob,a2,c2,e2,(hO8.ok.sl hfew).mono fun b hb=>by rcases hb with h | h<;>omega⟩
 clear RF RO RA4 RK4 FB1 hown4 HS HOK
 go_wp2
 refine zH (fun w':World=>w'.cell? ⟨OB+1,0,none⟩=some (.func (Fn.func 57) #[] #[.pointer (some ⟨w.heap.size+1,0,none⟩),.pointer (some ⟨OB,0,none⟩),.pointer (some ⟨w.heap.size,0,none⟩),.pointer (some ⟨OB+1,0,none⟩)])∧w'.cell? ⟨w.heap.size+1,0,none⟩=some (.int .i64 k)) (fun i=>false) (by kernel_rfl) ?_ (fun hHeld=>?_)
 ·exact KEEP.out _ (zh _ _ 1)
 refine anyE_take 0 (v:=?_) rfl (by kernel_rfl) (fun _ _ _ h=>h) (by rfl) ?hy0 hHeld ?r0
 case hy0=>(intro w hSw;(try dsimp only at hSw);go_simp;try with_reducible rfl)
 try simp only[Act.put,zsa,zsz,zss]
 refine anyE_take 1 (v:=?_) rfl (by kernel_rfl) (fun _ _ _ h=>h) (by rfl) ?hy1 hHeld ?r1
 case hy1=>(intro w hSw;(try dsimp only at hSw);go_simp;try with_reducible rfl)
 try simp only[Act.put,zsa,zsz,zss]
 refine anyE_one 2 rfl (by kernel_rfl) (fun K hK=>?_)
 (refine Qa rfl _ _ 46 (by rfl) w.heap.size 67 ir _ 7 Tryz.underlying46 hri hrz0 hrz1 .i64 .i64 k (by rfl) (by rfl) HBY.out HBM.out HNB.out ?_;intro w7 ho7 hg7;have H7:=zhd (FIN7.out w7 ho7 hg7);clear ho7 hg7)
 refine hK.out _ _ (fun _=>H7.out.1) (fun hHeld=>?_);replace hHeld:=hHeld rfl
 clear hK K
 try simp only[Act.put,zsa,zsz,zss]
 refine anyE_one 3 rfl (by kernel_rfl) (fun K hK=>?_)
 go_simp;go_at_call 57;refine H7.out.2.1.mono ?_;intro e8 w8 hE;obtain ⟨v8,ov2,rfl,hA8,hB8,hO8⟩:=H7.out.2.2 _ _ hE;have HO8:=zhd hO8;clear hE hO8
 refine hK.out _ _ (fun _=>hA8) (fun hHeld=>?_);replace hHeld:=hHeld rfl
 clear hK K
 try simp only[Act.put,zsa,zsz,zss]
 refine zy (by kernel_rfl) ?_ _
 have hbl:=hB8
 obtain ⟨hob,a2,c2,rfl,hsl⟩:=HO8.out
 have o0:=hob.zc 0 rfl
 have hol:=hob.lt
 have HSL:=zhd hsl
 clear H7 hA8 KEEP HO8 FIN7 hHeld hob hsl
 go_wp2
 go_ret2
 exact .mk hbl ⟨_,rfl,HSL.out⟩
end Go.Proofs.YtjpakklplhabdaaGreat
