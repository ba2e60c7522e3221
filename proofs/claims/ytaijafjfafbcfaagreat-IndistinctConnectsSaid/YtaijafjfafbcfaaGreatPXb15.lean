/- Part of the proof that the laws answer true for every input. -/
import Derived.Test.YtaijafjfafbcfaaGreatPXb04
import Derived.Test.YtaijafjfafbcfaaGreatPXb14
import Derived.Test.YtaijafjfafbcfaaGreatPXb02
import Derived.Test.YtaijafjfafbcfaaGreatPXb12
import Derived.Laws.CopyOwn
import Derived.Lib.SliceRun
set_option linter.unusedSimpArgs false
set_option linter.unnecessarySimpa false
set_option linter.unusedVariables false
set_option maxRecDepth 100000
set_option maxHeartbeats 40000000
namespace Go.Proofs.YtaijafjfafbcfaaGreat
open Go.RowKit
attribute [local go_sem ↓] Go.wp_at_zero Go.wp_at_succ
def OwnInts (base:Nat) (l:List Int) (w':World) (r:Value):Prop:=w'.ownsRow base 3 1 r l.length (l.map (Value.int .i64))
theorem cloneI_calls {S:Nat→Prop} {w:World} {v:Value} {l:List Int} (h:Ints S w v l) (hn:l.length≤1000000):
  Calls Tryz.prog 96 #[v] w (Post w (OwnInts w.heap.size l)):=by
 obtain ⟨a,cap,rfl,ad,l1,l2⟩:=h.form
 cases a with
 | none=>
  have h0:l.length=0∧cap=0:=by
   rcases ad with h | ⟨b,off,e,_⟩
   ·exact h
   ·cases e
  obtain ⟨h0,rfl⟩:=h0
  obtain rfl:l=[]:=List.length_eq_zero_iff.1 h0
  clear h ad l1 l2 h0
  have hn1:=@Lib.run_eql_slice_nil Tryz.prog w 44 3 none 0 0 0 0 Tryz.underlying44
  go_enter Tryz.func96,Tryz.ntmps96
  go_wp2
  go_ret
  exact .mk (.refl _ _) (World.ownsRow_nil _ _ _ _)
 | some x=>
  have ex:=ext_alloc w (.cells #[] 3)
  have hown0:=(row_new w [] 3).owns (base:=w.heap.size) (Nat.le_refl _) (by simp[maxLen])
  have OW:=Lib.hid hown0
  have I:=Lib.hid (h.ext ex)
  have B1:Hid ((0+l.length) * 8≤140737488355328):=Lib.hid (by omega)
  clear hown0 h ad
  have hn1:=@Lib.run_eql_slice_nil Tryz.prog w 44 3 (some x) l.length cap 0 0 Tryz.underlying44
  go_enter Tryz.func96,Tryz.ntmps96
  go_wp2_with (at_builtin;refine wpList_appendAll rfl (.tmp 5) (.tmp 6) 44 rfl 3 _ 8 Tryz.underlying44 info_int rfl w.heap.size (.slice (some ⟨w.heap.size,0,none⟩) 0 0) 0 [] rfl OW.out S (some x) l.length cap (l.map (Value.int .i64)) rfl (ints_ad I.out) (by simp) (ints_cells I.out (.refl _ _)) (oneCell_ints l) B1.out (by omega) (by simp) ?_;intro v3 w3 hown3 hb3 hag3 hv3)
  rw[Nat.zero_add,List.nil_append]at hown3
  have hbb:Below w.heap.size w w3:=ex.trans hb3
  have HO:=Lib.hid hown3
  clear hown3 hag3 hv3 hb3
  go_wp2
  go_ret
  exact .mk hbb HO.out
theorem mul_quiet (w:World) (n:Nat) (hn:n≤100000):Calls Tryz.prog 147 #[.int .u64 1,.int .u64 n] w (QuietP w (.tuple #[.int .u64 0,.int .u64 n])):=by
 refine (Tryz.bits_Mul 1 n (by omega) (by omega) w).mono ?_
 rintro _ _ ⟨rfl,rfl⟩
 rw[show 1 * n / 18446744073709551616=0 by omega,show 1 * n % 18446744073709551616=n by omega]
 exact .same
theorem info_int1:(Tryz.prog.info? 3).map (·.size)=some 1:=by kernel_rfl
theorem splice_rep {y z:Value} {k n m:Nat} (h:k+m≤n):splice (List.replicate k y++List.replicate (n - k) z) k (List.replicate m y)=List.replicate (k+m) y++List.replicate (n - (k+m)) z:=by
 unfold splice
 have e1:(List.replicate k y++List.replicate (n - k) z).take k=List.replicate k y:=by
  rw[List.take_append_of_le_length (by simp)];exact List.take_of_length_le (by simp)
 have e2:(List.replicate k y++List.replicate (n - k) z).drop (k+m)=List.replicate (n - (k+m)) z:=by
  rw[List.drop_append]
  simp only[List.length_replicate]
  rw[List.drop_eq_nil_of_le (by simp),List.nil_append,List.drop_replicate]
  congr 1
  omega
 rw[List.length_replicate,e1,e2,←List.append_assoc,List.replicate_append_replicate]
theorem repeat_calls {S:Nat→Prop} {w:World} {v:Value} {y:Int} (h:Ints S w v [y]) (n:Nat) (hn:n≤100000):
  Calls Tryz.prog 135 #[v,.int .i64 n] w (Post w (OwnInts w.heap.size (List.replicate n y))):=by
 obtain ⟨a,cap,rfl,ad,l1,l2⟩:=h.form
 simp only[List.length_cons,List.length_nil,Nat.zero_add]at h ad l1 ⊢
 obtain ⟨pb,po,rfl⟩:∃b o,a=some ⟨b,o,none⟩:=by
  rcases ad with ⟨h0,_⟩ | ⟨b,off,rfl,_⟩
  ·cases h0
  ·exact ⟨b,off,rfl⟩
 have hcy:=ints_head h (.refl _ _)
 rw[adr_add,Nat.add_zero]at hcy
 obtain ⟨i0,hi,hz0,hz1,hz2⟩:=info_parts info_int
 have HCY:=Lib.hid hcy
 have KM:=Lib.hid ((mul_quiet w n hn).mono fun _ _ h=>h.take)
 have hi0:IntKind.u64.wrap (n:Int)=n:=by rw[IntKind.wrap_u64];omega
 have hi1:IntKind.i64.wrap (n:Int)=n:=IntWalk.i64_in _ (by omega)
 clear h ad l1 l2 hcy
 go_enter Tryz.func135,Tryz.ntmps135
 go_wp2_with fail
 refine KM.out.mono ?_
 rintro _ w1 ⟨_,rfl,hq1,rfl⟩
 have hx1:=hq1.ext
 have hcy:=Lib.hid (cell_ext HCY.out hx1)
 clear KM hq1 HCY
 have hs1:=hx1.size
 obtain ⟨g,hg⟩:∃g,g=w1.heap.size:=⟨_,rfl⟩
 have HG:=Lib.hid hg
 have hmc:Hid ((madeCells #[Value.int .i64 0] (n * 1)).toList=List.replicate n (.int .i64 0)):=Lib.hid (by rw[Nat.mul_one];exact (toList_madeCells_one _ _))
 have hm0:min 1 n≤n:=Nat.min_le_right _ _
 obtain ⟨c0,hc0⟩:∃c0,c0=List.replicate (min 1 n) (Value.int .i64 y):=⟨_,rfl⟩
 have HC0:=Lib.hid hc0
 have hcl0:c0.length=min 1 n:=by rw[hc0];simp
 have HCS:Hid (∀j v,c0[j]? =some v→v=.int .i64 y∧j=0):=Lib.hid (fun j v hj=>by
  rw[hc0,List.getElem?_replicate]at hj
  split at hj
  ·injection hj with hj;exact ⟨hj.symm,by omega⟩
  ·cases hj)
 have HC1:Hid (∀v∈c0,v.oneCell'=true):=Lib.hid (fun v hv=>by rw[hc0]at hv;rw[List.eq_of_mem_replicate hv];rfl)
 have hn0:c0.length=Nat.min 1 n:=hcl0
 have hgs:w.heap.size≤g:=by omega
 obtain ⟨r0,hr0⟩:∃r0,r0=List.replicate n (Value.int .i64 0):=⟨_,rfl⟩
 have HR0:=Lib.hid hr0
 have hrl0:r0.length=n:=by rw[hr0];simp
 rw[←hr0]at hmc
 clear hc0 hr0 hg
 go_wp2_with (first
  | (at_make;refine wpList_make_full _ rfl _ _ 44 rfl w.heap.size 3 i0 (.int .i64 0) 1 Tryz.underlying44 hi hz0 hz1 .i64 .i64 _ _ n rfl rfl rfl rfl (by rw[hz2];omega) (by unfold maxLen;omega) hx1.size ?_;intro w2 hown2 hgrow2;have HR2:=Lib.hid ((Row.of_own hown2).1.get hmc.out);rw[←HG.out]at HR2;have hx2:=hx1.grown hgrow2 hs1 (fun j hj=>by cases hj);have hcy2:=Lib.hid (cell_ext hcy.out ((Below.refl _ w1).grown hgrow2 (Nat.le_refl _) (fun j hj=>by cases hj)));clear hown2 hgrow2)
  | (refine wpList_copy_splice rfl (.tmp 31) (.tmp 32) 44 44 rfl 3 Tryz.underlying44 info_int1 _ _ n n 1 cap rfl rfl g 0 r0 3 HR2.out c0 hn0 (fun _=>⟨by rw[HG.out],_,rfl,fun j v hj=>by obtain ⟨rfl,rfl⟩:=HCS.out j v hj;exact hcy2.out⟩) (by omega) HC1.out w.heap.size w hx2 hgs ?_;intro w3 hR3 hb3))
 have hR3':=Lib.hid (show Row w3 g 3 (List.replicate (min 1 n) (.int .i64 y)++List.replicate (n - min 1 n) (.int .i64 0)) from by
  have h:=hR3.out
  rw[HC0.out,HR0.out]at h
  have e:=splice_rep (y:=Value.int .i64 y) (z:=Value.int .i64 0) (k:=0) (n:=n) (m:=min 1 n) (by omega)
  simp only[List.replicate_zero,List.nil_append,Nat.sub_zero,Nat.zero_add]at e
  rw[e]at h
  exact h)
 rw[←HG.out]
 obtain ⟨k0,hk0⟩:∃k0,k0=min 1 n:=⟨_,rfl⟩
 rw[←hk0]at hR3' hm0 ⊢
 have hkz:k0=0→n=0:=by omega
 clear hR3 hk0 hcl0 hn0 HCS HC1 HC0 HR0 hrl0 hmc hx1 hs1
 go_loopw [8] (fun i wr=>∃k:Nat,k≤n∧i=.int .i64 k∧(k=0→n=0)∧Below w.heap.size w wr∧Row wr g 3 (List.replicate k (.int .i64 y)++List.replicate (n - k) (.int .i64 0))) (fun i _=>n - (intOf i).toNat)
 case atStart=>exact ⟨k0,hm0,rfl,hkz,hb3,hR3'.out⟩
 case round=>
  obtain ⟨k,hk,rfl,hkz,hbd,hRd⟩:=hrel
  by_cases hlt:k<n
  ·have hk1:0<k:=by omega
   have hE:Tryz.prog.elem 44=3:=by simp[Program.elem,Tryz.underlying44]
   have hs1:∀W:World,(Instr.slice 44 (.slice (some ⟨g,0,none⟩) n n) (some (.int .i64 k)) none none).run Tryz.prog W=.ok (.slice (some ⟨g,k,none⟩) (n - k) (n - k)) W:=fun W=>by
    rw[run_slice_l (w:=W) _ _ _ _ (by rw[hE];exact Tryz.underlying44) .i64 k (by omega) (by omega),hE]
    simp[sizeOf,typeInfo,hi,hz1,Result.andThen,sliced,show n≠k by omega,Addr.add]
    try omega
   have hs2:∀W:World,(Instr.slice 44 (.slice (some ⟨g,0,none⟩) n n) none (some (.int .i64 k)) none).run Tryz.prog W=.ok (.slice (some ⟨g,0,none⟩) k n) W:=fun W=>by
    rw[run_slice_h (w:=W) _ _ _ _ (by rw[hE];exact Tryz.underlying44) .i64 k (by omega) (by omega),hE]
    simp[sizeOf,typeInfo,hi,hz1,Result.andThen,sliced,show n≠0 by omega,Addr.add]
    try omega
   obtain ⟨m,hm⟩:∃m,m=min k (n - k):=⟨_,rfl⟩
   obtain ⟨cs,hcs⟩:∃cs,cs=List.replicate m (Value.int .i64 y):=⟨_,rfl⟩
   have hcl:cs.length=m:=by rw[hcs];simp
   have HCN:Hid (cs.length=Nat.min k (n - k)):=Lib.hid (hcl.trans hm)
   obtain ⟨rr,hrr⟩:∃rr,rr=List.replicate k (Value.int .i64 y)++List.replicate (n - k) (Value.int .i64 0):=⟨_,rfl⟩
   have HCS:Hid (∀W,Row W g 3 rr→∀j v,cs[j]? =some v→W.cell? ((⟨g,0,none⟩:Addr).add j)=some v):=Lib.hid (fun W hW j v hj=>by
    have hjm:j<m:=by rw[←hcl];exact (List.getElem?_eq_some_iff.1 hj).1
    rw[Addr.add_lit,Nat.zero_add]
    refine hW.cell ?_
    rw[hrr,List.getElem?_append_left (show j<(List.replicate k (Value.int .i64 y)).length by rw[List.length_replicate];omega),List.getElem?_replicate,if_pos (by omega)]
    rw[hcs,List.getElem?_replicate,if_pos hjm]at hj
    exact hj)
   have HFT:Hid (k+cs.length≤rr.length):=Lib.hid (by rw[hcl,hrr];simp;omega)
   have HC1:Hid (∀v∈cs,v.oneCell'=true):=Lib.hid (fun v hv=>by rw[hcs]at hv;rw[List.eq_of_mem_replicate hv];rfl)
   have HSP:Hid (splice rr k cs=List.replicate (k+m) (Value.int .i64 y)++List.replicate (n - (k+m)) (Value.int .i64 0)):=Lib.hid (by rw[hrr,hcs];exact splice_rep (by omega))
   have HCL:=Lib.hid hcl
   have hmk:k+m≤n:=by omega
   have hm1:0<m:=by omega
   rw[←hrr]at hRd
   have hRr:=Lib.hid hRd
   have hwr:IntKind.i64.wrap ((k:Int)+(m:Int))=(k:Int)+m:=IntWalk.i64_in _ (by omega)
   clear hm hcs hrr hRd hcl
   go_wp2
   rw[←HCL.out]at hwr
   refine region_E (fun _:World=>True) (fun i=>false) (by kernel_rfl) ?_ (fun hHeld=>?_)
   ·trivial
   refine anyE_take 0 (v:=?_) rfl (by kernel_rfl) (fun _ _ _ h=>h) (by rfl) ?hy0 hHeld ?rest0
   case hy0=>(intro w hSw;(try dsimp only at hSw);go_simp;try with_reducible rfl)
   try simp only[Act.put,zsa,zsz,zss]
   refine anyE_take 1 (v:=?_) rfl (by kernel_rfl) (fun _ _ _ h=>h) (by rfl) ?hy1 hHeld ?rest1
   case hy1=>(intro w hSw;(try dsimp only at hSw);go_simp;try with_reducible rfl)
   try simp only[Act.put,zsa,zsz,zss]
   refine anyE_take 2 (v:=?_) rfl (by kernel_rfl) (fun _ _ _ h=>h) (by rfl) ?hy2 hHeld ?rest2
   case hy2=>(intro w hSw;(try dsimp only at hSw);go_simp;try with_reducible rfl)
   try simp only[Act.put,zsa,zsz,zss]
   refine anyE_take 3 (v:=?_) rfl (by kernel_rfl) (fun _ _ _ h=>h) (by rfl) ?hy3 hHeld ?rest3
   case hy3=>(intro w hSw;(try dsimp only at hSw);go_simp;try with_reducible rfl)
   try simp only[Act.put,zsa,zsz,zss]
   refine anyE_take 4 (v:=?_) rfl (by kernel_rfl) (fun _ _ _ h=>h) (by rfl) ?hy4 hHeld ?rest4
   case hy4=>(intro w hSw;(try dsimp only at hSw);go_simp;try with_reducible rfl)
   try simp only[Act.put,zsa,zsz,zss]
   refine anyE_take 5 (v:=?_) rfl (by kernel_rfl) (fun _ _ _ h=>h) (by rfl) ?hy5 hHeld ?rest5
   case hy5=>(intro w hSw;(try dsimp only at hSw);go_simp;try with_reducible rfl)
   try simp only[Act.put,zsa,zsz,zss]
   refine anyE_take 6 (v:=?_) rfl (by kernel_rfl) (fun _ _ _ h=>h) (by rfl) ?hy6 hHeld ?rest6
   case hy6=>(intro w hSw;(try dsimp only at hSw);go_simp;try with_reducible rfl)
   try simp only[Act.put,zsa,zsz,zss]
   refine anyE_one 7 rfl (by kernel_rfl) (fun K hK=>?_)
   (refine step_copy_splice rfl (.tmp 41) (.tmp 44) 44 44 rfl 3 Tryz.underlying44 info_int1 (some ⟨g,k,none⟩) (some ⟨g,0,none⟩) (n - k) (n - k) k n (by rfl) (by rfl) g k rr 3 hRr.out cs HCN.out (fun _=>⟨rfl,_,rfl,HCS.out _ hRr.out⟩) HFT.out HC1.out w.heap.size w (ext_drewN hbd 1) hgs ?_;intro w5 hR5 hb5)
   refine hK.out _ _ (fun _=>trivial) (fun hHeld=>?_);replace hHeld:=hHeld rfl
   clear hK K
   try simp only[Act.put,zsa,zsz,zss]
   refine anyE_take 8 (v:=?_) rfl (by kernel_rfl) (fun _ _ _ h=>h) (by rfl) ?hy8 hHeld ?rest8
   case hy8=>(intro w hSw;(try dsimp only at hSw);go_simp;try with_reducible rfl)
   try simp only[Act.put,zsa,zsz,zss]
   refine anyE_take 9 (v:=?_) rfl (by kernel_rfl) (fun _ _ _ h=>h) (by rfl) ?hy9 hHeld ?rest9
   case hy9=>(intro w hSw;(try dsimp only at hSw);go_simp;try with_reducible rfl)
   try simp only[Act.put,zsa,zsz,zss]
   refine anyE_done (by kernel_rfl) ?_ _
   have hRn:=hR5.out
   rw[HSP.out]at hRn
   have HRN:=Lib.hid hRn
   clear hRn hR5
   go_wp2
   go_roundw
   case rel=>exact ⟨k+m,hmk,by simp[HCL.out],by omega,hb5,HRN.out⟩
   case measure=>
    have h1:=HCL.out
    simp only[intOf,h1,goInt]
    omega
  ·obtain rfl:k=n:=by omega
   have hR':=Lib.hid (show Row wr g 3 ((List.replicate k y).map (Value.int .i64)) from by simpa using hRd)
   have hO:=Lib.hid (hR'.out.owns (base:=w.heap.size) hgs (by simp[maxLen];omega))
   clear hRd hR'
   go_wp2
   go_ret
   refine .mk hbd ?_
   have:=hO.out
   unfold OwnInts
   simpa using this
end Go.Proofs.YtaijafjfafbcfaaGreat
namespace Go.Proofs.YtaijafjfafbcfaaGreat
def noDefer (ops:Array Oper):Bool:=ops.all fun o=>match o.op with | .defer _=>false | _=>true
theorem noDefer_spec {ops:Array Oper} (h:noDefer ops=true) {i:Nat} {o:Oper} (ho:ops[i]? =some o):∀c,o.op≠.defer c:=by
 intro c hc
 obtain ⟨hi,e⟩:=Array.getElem?_eq_some_iff.1 ho
 have:=Array.all_eq_true.1 h i hi
 rw[e,hc]at this
 cases this
theorem opwp_in {P:Program} {Q:Exit→Act→World→Prop} {l n:Nat} {o:Oper} {K:Act→World→Prop} {a:Act} {w:World} (hd:∀c,o.op≠.defer c) (h:o.wp P a w K Q):o.wpIn (Fence.wide.inRound l) n P a w K Q:=by
 refine ⟨fun f _=>trivial,?_⟩
 rw[Oper.semAt_plain _ _ _ hd]
 unfold Oper.wp at h
 generalize (execOp a.eval o).run P w=r at *
 cases r with
 | ok x w'=>
  cases x with
  | value v=>exact h
  | skip=>exact h
  | defer d=>exact h
  | enter f args=>exact ⟨fun h0=>(by cases h0),callsIn_wide.2 h⟩
  | row row args=>
   refine ⟨fun h0=>(by cases h0),fun c cs _=>?_⟩
   obtain ⟨v,w'',h1,h2⟩:=h c cs
   exact ⟨v,w'',h1,stepsIn_wide.2 h2⟩
  | _=>exact h.elim
 | halt x w'=>
  cases x<;>exact h
theorem wpOp_in {P:Program} {ops:Array Oper} {Q:Exit→Act→World→Prop} {l n i:Nat} {K K':Act→World→Prop} {a:Act} {w:World} (hd:noDefer ops=true) (hQ:¬LetsOut Q) (hK:∀a w,K a w→K' a w)
  (h:wpOp P ops Q i K a w):wpOpIn (Fence.wide.inRound l) n P ops Q i K' a w:=by
 unfold wpOp at h
 unfold wpOpIn
 split
 ·rename_i ho
  simp only[ho]at h
  exact hK _ _ h
 ·rename_i o ho
  simp only[ho]at h
  split
  ·rename_i hw
   simp only[hw,if_true]at h
   rcases h with h | h
   ·exact Oper.wpIn_mono hK (opwp_in (noDefer_spec hd ho) h)
   ·exact absurd h.2 hQ
  ·rename_i hw
   simp only[hw]at h
   exact ⟨fun f _=>trivial,hK _ _ h⟩
theorem wpAny_in {P:Program} {md:Region.Mode} {ops:Array Oper} {Q:Exit→Act→World→Prop} {l n:Nat} (hd:noDefer ops=true) (hQ:¬LetsOut Q):
  ∀(fuel:Nat) (listed:Array Bool) (a:Act) (w:World),wpAny P md ops Q fuel listed a w→wpAnyIn (Fence.wide.inRound l) n P md ops Q fuel listed a w
 | 0,_,_,_,h=>h
 | fuel+1,_,_,_,h=>⟨h.1,fun i hi=>wpOp_in hd hQ (fun a' w' h'=>wpAny_in hd hQ fuel _ a' w' h') (h.2 i hi)⟩
theorem region_EIn {P:Program} {ops:Array Oper} {Q:Exit→Act→World→Prop} (S:World→Prop) (X:Nat→Bool) {id l n:Nat} {a:Act} {w:World} (hm:P.follows .mixedOrders=true) (hd:noDefer ops=true) (hQ:¬LetsOut Q) (hS:S w.drew)
  (h:S w.drew→AnyE P .any ops Q S X ops.size (Array.replicate ops.size false) a w.drew):(Code.region id ops true).wpIn (Fence.wide.inRound l) n P Q a w:=
 wpIn_region_any hm (wpAny_in hd hQ _ _ _ _ (any_of_anyE _ _ _ _ (h hS)))
end Go.Proofs.YtaijafjfafbcfaaGreat
namespace Go.Proofs.YtaijafjfafbcfaaGreat
open Go.RowKit Go.Shelf
def markD (D:Nat):Deferred:={target:=.collected D,args:=#[]}
def Marks (B:Nat) (W:World) (ds:List Deferred):Prop:=∃Ds:List Nat,ds=Ds.map markD∧Ds.Nodup∧∀D∈Ds,B≤D∧W.heap[D]? =some (.deferred (some []))
theorem Marks.nil (B:Nat) (W:World):Marks B W []:=⟨[],rfl,List.nodup_nil,by simp⟩
theorem Marks.agree {B:Nat} {T:Nat→Prop} {W W':World} {ds:List Deferred} (h:Marks B W ds) (hw:Agree T W W') (hT:∀D,W.heap[D]? =some (.deferred (some []))→T D):Marks B W' ds:=by
 obtain ⟨Ds,h1,h2,h3⟩:=h
 exact ⟨Ds,h1,h2,fun D hD=>⟨(h3 D hD).1,(hw.block D (hT D (h3 D hD).2) (Array.getElem?_eq_some_iff.1 (h3 D hD).2).1).trans (h3 D hD).2⟩⟩
theorem Marks.ext {B:Nat} {W W':World} {ds:List Deferred} (h:Marks B W ds) (hw:Below W.heap.size W W'):Marks B W' ds:=h.agree (T:=fun _=>True) (.of_ext hw) fun _ _=>trivial
theorem Marks.set {B:Nat} {W:World} {ds:List Deferred} (h:Marks B W ds) (a:Addr) (u:Value):Marks B (W.setCell a u) ds:=by
 obtain ⟨Ds,h1,h2,h3⟩:=h
 exact ⟨Ds,h1,h2,fun D hD=>⟨(h3 D hD).1,(KeepsOthers.setCell W a u).same D _ (h3 D hD).2 rfl⟩⟩
theorem Marks.cons {B D:Nat} {W0 W:World} {ds:List Deferred} (h0:Marks B W0 ds) (h:Marks B W ds) (hD:W0.heap.size≤D) (hB:B≤D) (hK:W.heap[D]? =some (.deferred (some []))):Marks B W ({target:=.collected D,args:=#[]}::ds):=by
 obtain ⟨Ds,h1,h2,h3⟩:=h
 obtain ⟨Ds0,g1,g2,g3⟩:=h0
 have e:Ds=Ds0:=by
  have hinj:∀a b:Nat,markD a=markD b→a=b:=fun a b h=>by injection h with h _;injection h
  have:=h1.symm.trans g1
  clear h1 h2 h3 g1 g2 g3
  induction Ds generalizing Ds0 with
  | nil=>cases Ds0 with
   | nil=>rfl
   | cons x r=>simp at this
  | cons x r ih=>cases Ds0 with
   | nil=>simp at this
   | cons y r2=>
    simp only[List.map_cons,List.cons.injEq]at this
    rw[hinj _ _ this.1,ih r2 this.2]
 subst e
 refine ⟨D::Ds,by rw[h1];rfl,List.nodup_cons.2 ⟨fun hm=>?_,h2⟩,fun D' hD'=>?_⟩
 ·have:=(Array.getElem?_eq_some_iff.1 (g3 D hm).2).1
  omega
 ·rcases List.mem_cons.1 hD' with rfl | h
  ·exact ⟨hB,hK⟩
  ·exact h3 D' h
theorem leaves_marks {F:Fence} {n:Nat} {P:Program} {fn:Func} {tmps:Array Value} {R:Ending→World→Prop} {B:Nat} {W:World} {ds:List Deferred} (h:Marks B W ds) (hB:B≤W.heap.size)
  (hfin:∀W',Below B W W'→(∀g e xs,Row W g e xs→Row W' g e xs)→LeavesInM F n P fn tmps R [] .returning W'):LeavesInM F n P fn tmps R ds .returning W:=by
 obtain ⟨Ds,rfl,h2,h3⟩:=h
 induction Ds generalizing W with
 | nil=>exact hfin W (.refl _ _) fun _ _ _ h=>h
 | cons D Ds ih=>
  obtain ⟨hn,hnd⟩:=List.nodup_cons.1 h2
  obtain ⟨hBD,hK⟩:=h3 D (by simp)
  refine ⟨by simp,.inl ⟨_,_,rfl,run_takeDeferred hK,?_⟩⟩
  have hg:=grownBy_putObj' W D (.deferred none)
  have hb:Below B W (W.putObj D (.deferred none)):=(Below.refl _ _).grown hg hB (fun k hk=>by cases hk;exact hBD)
  refine ih (by rw[World.putObj_size];exact hB) (fun W' hb' hr'=>hfin W' (hb.trans hb') fun g e xs hR=>hr' _ _ _ (hR.putObj _ hK rfl)) hnd fun D' hD'=>⟨(h3 D' (by simp[hD'])).1,?_⟩
  exact (World.putObj_heap_other (by intro e;subst e;exact hn hD')).trans (h3 D' (by simp[hD'])).2
theorem bodyM_ret {F:Fence} {n:Nat} {P:Program} {fn:Func} {R:Ending→World→Prop} {a:Act} {w:World} (h:LeavesInM F n P fn a.tmps R a.defers .returning w):bodyPostM F n P fn R .ret a w:=h
end Go.Proofs.YtaijafjfafbcfaaGreat
