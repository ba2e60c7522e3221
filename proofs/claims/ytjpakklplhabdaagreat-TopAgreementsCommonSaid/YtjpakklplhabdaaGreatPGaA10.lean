/- Part of the proof that the laws answer true for every input. -/
import Derived.Test.YtjpakklplhabdaaGreatPGaA07
import Derived.Test.YtjpakklplhabdaaGreatPGaA08
import Derived.Maps.RangeWalk
import Derived.DeepKeys4
import Derived.Shelf.Bits.Mul64
import Derived.Ground.GgzProg
import Derived.Ground.SlgmProg
import Derived.Laws.CopyOwn
import Derived.Lib.SliceRun
set_option linter.unusedSimpArgs false
set_option linter.unnecessarySimpa false
set_option linter.unusedVariables false
set_option maxRecDepth 100000
set_option maxHeartbeats 40000000
namespace Go.Proofs.YtjpakklplhabdaaGreat
open Go.RowKit Go.Maps
def heldR (v:Value):Option (DataW Value×List MemPlace):=some (.held v,[])
structure KeyB (P:Program) (k:TypeId) (K:Type) where
 law:Keyed P k
 kv:K→Value
 kl:K→Lit
 ok:K→Prop
 reads:∀x,ok x→keyOf P k (kv x)=some (kl x)
 inj:∀x y,kv x=kv y→x=y
theorem KeyB.lit_ne {P:Program} {k:TypeId} {K:Type} (B:KeyB P k K) {x y:K} (hx:B.ok x) (hy:B.ok y) (h:x≠y):B.kl x≠B.kl y:=fun e=>
 h (B.inj _ _ (B.law.inj (B.reads x hx) (e▸B.reads y hy)))
theorem KeyB.key {P:Program} {k:TypeId} {K:Type} (B:KeyB P k K) {x:K} (hx:B.ok x):WideAt.IsKeyLit (B.kl x):=B.law.key (B.reads x hx)
def intKey {P:Program} {k:TypeId} (hk:P.underlying k=some (.int .i64)):KeyB P k Int where
 law:=int_keyed hk
 kv:=.int .i64
 kl:=.int .i64
 ok:=WF
 reads:=fun _ h=>keyOf_int_mk hk h.lit
 inj:=fun _ _ h=>by injection h
def MapV {P:Program} {k:TypeId} {K:Type} (B:KeyB P k K) (w:World) (b:Nat) (m:K→Option Value) (n:Nat):Prop:=
 ∃D:DataW Value,w.ownsMap P k heldR b n D∧size D=n∧∀x,B.ok x→has D (B.kl x)=(m x).isSome∧∀y,m x=some y→∀z,D.atKey (B.kl x) z=.held y
theorem Yz {H:Type} {P:Program} {k:TypeId} {R:Value→Option (DataW H×List MemPlace)} {w:World} {b n:Nat} {D:DataW H} (h:w.ownsMap P k R b n D):w.ownsMap P k R b (size D) D:=by
 obtain ⟨es,clock,hb,F,_,rfl⟩:=h
 exact ⟨es,clock,hb,F,by simp[size,length_sorted],rfl⟩
section
variable {P:Program} {k:TypeId} {K:Type} {B:KeyB P k K} {w:World} {b n:Nat} {m:K→Option Value}
theorem MapV.made (B:KeyB P k K) (w:World):MapV B (w.alloc (.map #[] 0)) w.heap.size (fun _=>none) 0:=
 ⟨_,World.ownsMap_made _ _ _ _,rfl,fun _ _=>⟨rfl,fun y h=>by cases h⟩⟩
theorem MapV.lt (h:MapV B w b m n):b<w.heap.size:=by obtain ⟨D,h,_⟩:=h;exact h.lt
theorem MapV.agree {S:Nat→Prop} {w':World} (h:MapV B w b m n) (hw:Agree S w w') (hS:S b):MapV B w' b m n:=by
 have hl:=h.lt
 obtain ⟨D,⟨es,clock,hb,F,hs,hD⟩,r⟩:=h
 exact ⟨D,⟨es,clock,(hw.block b hS hl).trans hb,F,hs,hD⟩,r⟩
theorem MapV.ext {w':World} (h:MapV B w b m n) (hw:Below w.heap.size w w'):MapV B w' b m n:=h.agree (S:=fun _=>True) (.of_ext hw) trivial
theorem MapV.alloc (h:MapV B w b m n) (o:Obj):MapV B (w.alloc o) b m n:=h.agree (S:=fun _=>True) ⟨by simp,fun k _ hk=>heap_alloc_old w o hk⟩ trivial
theorem MapV.look {t e:TypeId} {z:Value} (h:MapV B w b m n) (ht:P.underlying t=some (.map k e)) (hz:(zeroValue e).run P w=.ok z w) {x:K} (hx:B.ok x) (c:Bool):
  (Instr.lookup t (.map (some b)) (B.kv x) c).run P w=.ok (if c then .tuple #[(m x).getD z,.bool (m x).isSome] else (m x).getD z) w:=by
 obtain ⟨D,h,_,hm⟩:=h
 obtain ⟨h1,h2⟩:=hm x hx
 have key:∀v ps,heldR v=some (D.atKey (B.kl x) (.held z),ps)→v=(m x).getD z:=by
  intro v ps hv
  simp only[heldR,Option.some.injEq,Prod.mk.injEq]at hv
  have hv:=hv.1
  cases hmx:m x with
  | some y=>rw[h2 y hmx]at hv;injection hv
  | none=>
   rw[hmx]at h1
   rw[atKey_of_not_has h1]at hv
   injection hv
 cases c with
 | true=>
  obtain ⟨v,ps,hr,hv⟩:=h.look_ok B.law ht hz (zd:=.held z) (zp:=[]) rfl (B.reads x hx)
  rw[hr,key v ps hv,h1];rfl
 | false=>
  obtain ⟨v,ps,hr,hv⟩:=h.lookup B.law ht hz (zd:=.held z) (zp:=[]) rfl (B.reads x hx)
  rw[hr,key v ps hv];rfl
theorem MapV.len {t e:TypeId} (h:MapV B w b m n) (ht:P.underlying t=some (.map k e)) (ty:TypeId):(Builtin.len_ #[t] ty #[.map (some b)]).run P w=.ok (.int .i64 n) w:=by
 obtain ⟨D,h,hs,_⟩:=h
 rw[h.len ht ty,hs]
theorem MapV.store [DecidableEq K] {t e:TypeId} (h:MapV B w b m n) (ht:P.underlying t=some (.map k e)) (hn:n<maxLen) {x:K} (hx:B.ok x) (y:Value):
  ∃w',(Instr.mapUpdate t (.map (some b)) (B.kv x) y).run P w=.ok () w'∧MapV B w' b (fun z=>if z=x then some y else m z) (if (m x).isSome then n else n+1)∧w.grownBy w' (some b):=by
 obtain ⟨D,h,hs,hm⟩:=h
 obtain ⟨w',hr,ho,ht⟩:=h.store (val:=y) (d:=.held y) (ps:=[]) B.law ht hn (B.reads x hx) rfl
 have hsz:size (D.put (B.kl x) (.held y))=if (m x).isSome then n else n+1:=by
  rw[size_put (h.tidy B.law),(hm x hx).1,hs]
 refine ⟨w',hr,⟨_,by rw[←hsz];exact Yz ho,hsz,?_⟩,ht.grown⟩
 intro z hz
 by_cases e:z=x
 ·subst e
  simp only[if_true,Option.isSome_some]
  refine ⟨has_put_same h.isMap (B.key hz) _,fun u hu q=>?_⟩
  cases hu
  exact atKey_put_same h.isMap (B.key hz) _ _
 ·simp only[if_neg e]
  have hne:=B.lit_ne hz hx e
  rw[has_put_other hne]
  refine ⟨(hm z hz).1,fun u hu q=>?_⟩
  rw[atKey_put_other hne]
  exact (hm z hz).2 u hu q
variable {ops:Array Oper} {rest:List Oper} {o:Oper} {a:Act} {Q:Exit→Act→World→Prop}
theorem zbi (hg:o.guard=none) (mo xo:Operand) (t:TypeId) (hop:o.op=Op.lookup t mo xo false) (e:TypeId) (ht:P.underlying t=some (.map k e)) (z:Value) (hz:(zeroValue e).run P w=.ok z w)
  (hm:a.eval mo=.map (some b)) (h:MapV B w b m n) (x:K) (hxv:a.eval xo=B.kv x) (hx:B.ok x) (y:Value) (hy:(m x).getD z=y)
  (hK:wpList P ops Q rest (a.put o.dst y) w):wpList P ops Q (o::rest) a w:=by
 refine wpList_plain hg fun K' hK'=>?_
 unfold Oper.wp
 simp[execOp,hop,hm,hxv,h.look ht hz hx false,Result.andThen,hy]
 exact hK' _ _ hK
theorem zbs [DecidableEq K] (hg:o.guard=none) (mo xo yo:Operand) (t:TypeId) (hop:o.op=Op.mapUpdate t mo xo yo) (e:TypeId) (ht:P.underlying t=some (.map k e))
  (hm:a.eval mo=.map (some b)) (h:MapV B w b m n) (hn:n<maxLen) (x:K) (hxv:a.eval xo=B.kv x) (hx:B.ok x) (y:Value) (hy:a.eval yo=y)
  (hK:∀w',MapV B w' b (fun z=>if z=x then some y else m z) (if (m x).isSome then n else n+1)→w.grownBy w' (some b)→wpList P ops Q rest (a.put o.dst undef) w'):wpList P ops Q (o::rest) a w:=by
 refine wpList_plain hg fun K' hK'=>?_
 obtain ⟨w',hr,r1,r2⟩:=h.store ht hn hx y
 unfold Oper.wp
 simp[execOp,hop,hm,hxv,hy,hr,Result.andThen]
 exact hK' _ _ (hK w' r1 r2)
end
end Go.Proofs.YtjpakklplhabdaaGreat
namespace Go.Proofs.YtjpakklplhabdaaGreat
open Go.RowKit Go.Maps
theorem zca:laidOutB Tryz.prog=true:=by kernel_rfl
theorem zdY:(134:TypeId)<Tryz.prog.types.size:=of_decide_eq_true (by kernel_rfl)
theorem zbP:(match Tryz.prog.underlying 134 with | some (.array _ _) | some (.struct _)=>true | _=>false)=true:=by kernel_rfl
theorem zdn:WideMaps.KeyLaw Tryz.prog 134:=deep_law_laid zca (m:=3) (by omega) zdY (by kernel_rfl) zbP
theorem Q5:Tryz.prog.keyType 134=true:=by kernel_rfl
theorem Ya:Tryz.prog.cellsOf 134=8:=by kernel_rfl
theorem Ys:Tryz.prog.cellsOf 63=5:=by kernel_rfl
theorem Qw:Tryz.prog.cellsOf 3=1:=by kernel_rfl
theorem zcU:∃d,Tryz.prog.types.size=d+3:=⟨Tryz.prog.types.size - 3,by kernel_rfl⟩
theorem zV (d:Nat) (x:Int) (h:WF x):Tryz.prog.keyLits (d+1) 3 [.int .i64 x]=some [.int .i64 x]:=by
 simp[Program.keyLits,Tryz.underlying3,h.lit]
theorem zcr (x:List Int) (hl:x.length=8) (hw:∀y∈x,WF y):∃ls,Tryz.prog.keyLits (Tryz.prog.types.size+1) 134 (x.map (Value.int .i64))=some ls:=by
 match x,hl with
 | [a,b,c,d,e,f,g,h],_=>
  obtain ⟨n,hn⟩:=zcU
  rw[hn]
  have ha:=zV (n+2) a (hw a (by simp))
  have hb:=zV (n+2) b (hw b (by simp))
  have hc:=zV (n+2) c (hw c (by simp))
  have hd:=zV (n+1) d (hw d (by simp))
  have he:=zV (n+1) e (hw e (by simp))
  have hf:=zV (n+1) f (hw f (by simp))
  have hg:=zV (n+1) g (hw g (by simp))
  have hh:=zV (n+1) h (hw h (by simp))
  have wa:=(hw a (by simp)).lit
  have wb:=(hw b (by simp)).lit
  have wc:=(hw c (by simp)).lit
  have wd:=(hw d (by simp)).lit
  have we:=(hw e (by simp)).lit
  have wf:=(hw f (by simp)).lit
  have wg:=(hw g (by simp)).lit
  have wh:=(hw h (by simp)).lit
  have h5:Tryz.prog.keyLits (n+3) 63 [.int .i64 d,.int .i64 e,.int .i64 f,.int .i64 g,.int .i64 h]=some [.int .i64 d,.int .i64 e,.int .i64 f,.int .i64 g,.int .i64 h]:=by
   simp[Program.keyLits,Tryz.underlying63,Tryz.underlying3,Ys,Qw,List.range_succ,wd,we,wf,wg,wh]
  refine ⟨[.int .i64 a,.int .i64 b,.int .i64 c,.int .i64 d,.int .i64 e,.int .i64 f,.int .i64 g,.int .i64 h],?_⟩
  simp[Program.keyLits,Tryz.underlying134,Tryz.underlying63,Tryz.underlying3,Ya,Qw,Ys,List.range_succ,wa,wb,wc,wd,we,wf,wg,wh]
theorem zaf (xs:List Value) (h:xs.length=8):(Value.agg xs.toArray).formed Tryz.prog 134=true:=by
 simp[Value.formed,Tryz.underlying134,Ya,h]
noncomputable def viewKey:KeyB Tryz.prog 134 (List Int) where
 law:=Keyed.of_law zdn
 kv x:=.agg (x.map (Value.int .i64)).toArray
 kl x:=(keyOf Tryz.prog 134 (.agg (x.map (Value.int .i64)).toArray)).getD (.bool true)
 ok x:=x.length=8∧∀y∈x,WF y
 reads x h:=by
  obtain ⟨ls,hls⟩:=zcr x h.1 h.2
  have:∃l,keyOf Tryz.prog 134 (.agg (x.map (Value.int .i64)).toArray)=some l:=by
   unfold keyOf
   have hf:=zaf (x.map (Value.int .i64)) (by simp[h.1])
   simp only[Tryz.underlying134,Q5,hf,Bool.and_self,if_true]
   simp only[Value.cells]
   rw[hls]
   exact ⟨_,rfl⟩
  obtain ⟨l,hl⟩:=this
  rw[hl];rfl
 inj x y h:=by
  injection h with h
  have h2:x.map (Value.int .i64)=y.map (Value.int .i64):=by
   have:=congrArg Array.toList h
   simpa using this
  exact (List.map_inj_right (fun a b e=>by injection e)).1 h2
end Go.Proofs.YtjpakklplhabdaaGreat
namespace Go.Proofs
open Go.Shelf
def Tryz.laysMulB_ren:Go.Shelf.Ren:=⟨fun | 212=>119 | 263=>136 | 264=>137 | n=>n,fun | 46=>177 | 51=>197 | 146=>198 | 53=>200 | 148=>201 | n=>n,fun | n=>n⟩
theorem Tryz.laysMulB:Go.Proofs.Lays.n212 Tryz.prog Tryz.laysMulB_ren:={
 mixed:=by kernel_rfl
 f212:=Tryz.func119.trans (congrArg some (by kernel_rfl))
 f263:=Tryz.func136.trans (congrArg some (by kernel_rfl))
 f264:=Tryz.func137.trans (congrArg some (by kernel_rfl))
 t46:=Tryz.underlying177
 a46:=Tryz.isAgg177
 z46:=Tryz.sizeOf177
 v46:=Tryz.zeroValue177
 t51:=Tryz.underlying197
 a51:=Tryz.isAgg197
 z51:=Tryz.sizeOf197
 v51:=Tryz.zeroValue197
 t53:=Tryz.underlying200
 a53:=Tryz.isAgg200
 z53:=Tryz.sizeOf200
 v53:=Tryz.zeroValue200
 t146:=Tryz.underlying198
 a146:=Tryz.isAgg198
 z146:=Tryz.sizeOf198
 v146:=Tryz.zeroValue198
 t148:=Tryz.underlying201
 a148:=Tryz.isAgg201
 z148:=Tryz.sizeOf201
 v148:=Tryz.zeroValue201}
open Go.RowKit Go.Lib in
theorem Tryz.bits_Mul (x y:Nat) (hx:x<18446744073709551616) (hy:y<18446744073709551616) (w:World):
  Calls Tryz.prog 119 #[.int .u64 x,.int .u64 y] w fun e w'=>e=.returned (.tuple #[.int .u64 ((x * y / 18446744073709551616:Nat):Int),.int .u64 ((x * y % 18446744073709551616:Nat):Int)])∧w'=w:=Any.bits_Mul Tryz.laysMulB x y hx hy w
end Go.Proofs
namespace Go.Proofs.YtjpakklplhabdaaGreat
open Go.RowKit
attribute [local go_sem ↓] Go.wp_at_zero Go.wp_at_succ
def OwnInts (base:Nat) (l:List Int) (w':World) (r:Value):Prop:=w'.ownsRow base 3 1 r l.length (l.map (Value.int .i64))
theorem xW {S:Nat→Prop} {w:World} {v:Value} {l:List Int} (h:Ints S w v l) (hn:l.length≤1000000):
  Calls Tryz.prog 59 #[v] w (Post w (OwnInts w.heap.size l)):=by
 obtain ⟨a,cap,rfl,ad,l1,l2⟩:=h.form
 cases a with
 | none=>
  have h0:l.length=0∧cap=0:=by
   rcases ad with h | ⟨b,off,e,_⟩
   ·exact h
   ·cases e
  obtain ⟨h0,rfl⟩:=h0
  obtain rfl:l=[]:=List.length_eq_zero_iff.1 h0
  clear h ad l1 l2 h0
  have hn1:=@Lib.run_eql_slice_nil Tryz.prog w 30 3 none 0 0 0 0 Tryz.underlying30
  go_enter Tryz.func59,Tryz.ntmps59
  go_wp2
  go_ret
  exact .mk (.refl _ _) (World.ownsRow_nil _ _ _ _)
 | some x=>
  have ex:=zb w (.cells #[] 3)
  have hown0:=(ze w [] 3).owns (base:=w.heap.size) (Nat.le_refl _) (by simp[maxLen])
  have OW:=zhd hown0
  have I:=zhd (h.ext ex)
  have B1:Hid ((0+l.length) * 8≤140737488355328):=zhd (by omega)
  clear hown0 h ad
  have hn1:=@Lib.run_eql_slice_nil Tryz.prog w 30 3 (some x) l.length cap 0 0 Tryz.underlying30
  go_enter Tryz.func59,Tryz.ntmps59
  go_wp2_with (at_builtin;refine qy rfl (.tmp 5) (.tmp 6) 30 rfl 3 _ 8 Tryz.underlying30 zC rfl w.heap.size (.slice (some ⟨w.heap.size,0,none⟩) 0 0) 0 [] rfl OW.out S (some x) l.length cap (l.map (Value.int .i64)) rfl (zew I.out) (by simp) (zY I.out (.refl _ _)) (Xh l) B1.out (by omega) (by simp) ?_;intro v3 w3 hown3 hb3 hag3 hv3)
  rw[Nat.zero_add,List.nil_append]at hown3
  have hbb:Below w.heap.size w w3:=ex.trans hb3
  have HO:=zhd hown3
  clear hown3 hag3 hv3 hb3
  go_wp2
  go_ret
  exact .mk hbb HO.out
theorem Xo (w:World) (n:Nat) (hn:n≤100000):Calls Tryz.prog 119 #[.int .u64 1,.int .u64 n] w (QuietP w (.tuple #[.int .u64 0,.int .u64 n])):=by
 refine (Tryz.bits_Mul 1 n (by omega) (by omega) w).mono ?_
 rintro _ _ ⟨rfl,rfl⟩
 rw[show 1 * n / 18446744073709551616=0 by omega,show 1 * n % 18446744073709551616=n by omega]
 exact .same
theorem Xz:(Tryz.prog.info? 3).map (·.size)=some 1:=by kernel_rfl
theorem qJ {y z:Value} {k n m:Nat} (h:k+m≤n):splice (List.replicate k y++List.replicate (n - k) z) k (List.replicate m y)=List.replicate (k+m) y++List.replicate (n - (k+m)) z:=by
 unfold splice
 have e1:(List.replicate k y++List.replicate (n - k) z).take k=List.replicate k y:=by
  rw[List.take_append_of_le_length (by simp)];exact List.take_of_length_le (by simp)
 have e2:(List.replicate k y++List.replicate (n - k) z).drop (k+m)=List.replicate (n - (k+m)) z:=by
  rw[List.drop_append]
  simp only[List.length_replicate]
  rw[List.drop_eq_nil_of_le (by simp),List.nil_append,List.drop_replicate]
  congr 1
  omega
 rw[List.length_replicate,e1,e2,←List.append_assoc,List.replicate_append_replicate]
theorem Xq {S:Nat→Prop} {w:World} {v:Value} {y:Int} (h:Ints S w v [y]) (n:Nat) (hn:n≤100000):
  Calls Tryz.prog 124 #[v,.int .i64 n] w (Post w (OwnInts w.heap.size (List.replicate n y))):=by
 obtain ⟨a,cap,rfl,ad,l1,l2⟩:=h.form
 simp only[List.length_cons,List.length_nil,Nat.zero_add]at h ad l1 ⊢
 obtain ⟨pb,po,rfl⟩:∃b o,a=some ⟨b,o,none⟩:=by
  rcases ad with ⟨h0,_⟩ | ⟨b,off,rfl,_⟩
  ·cases h0
  ·exact ⟨b,off,rfl⟩
 have hcy:=zcI h (.refl _ _)
 rw[zZ,Nat.add_zero]at hcy
 obtain ⟨i0,hi,hz0,hz1,hz2⟩:=info_parts zC
 have HCY:=zhd hcy
 have KM:=zhd ((Xo w n hn).mono fun _ _ h=>h.take)
 have hi0:IntKind.u64.wrap (n:Int)=n:=by rw[IntKind.wrap_u64];omega
 have hi1:IntKind.i64.wrap (n:Int)=n:=IntWalk.i64_in _ (by omega)
 clear h ad l1 l2 hcy
 go_enter Tryz.func124,Tryz.ntmps124
 go_wp2_with fail
 refine KM.out.mono ?_
 rintro _ w1 ⟨_,rfl,hq1,rfl⟩
 have hx1:=hq1.ext
 have hcy:=zhd (zm HCY.out hx1)
 clear KM hq1 HCY
 have hs1:=hx1.size
 obtain ⟨g,hg⟩:∃g,g=w1.heap.size:=⟨_,rfl⟩
 have HG:=zhd hg
 have hmc:Hid ((madeCells #[Value.int .i64 0] (n * 1)).toList=List.replicate n (.int .i64 0)):=zhd (by rw[Nat.mul_one];exact (toList_madeCells_one _ _))
 have hm0:min 1 n≤n:=Nat.min_le_right _ _
 obtain ⟨c0,hc0⟩:∃c0,c0=List.replicate (min 1 n) (Value.int .i64 y):=⟨_,rfl⟩
 have HC0:=zhd hc0
 have hcl0:c0.length=min 1 n:=by rw[hc0];simp
 have HCS:Hid (∀j v,c0[j]? =some v→v=.int .i64 y∧j=0):=zhd (fun j v hj=>by
  rw[hc0,List.getElem?_replicate]at hj
  split at hj
  ·injection hj with hj;exact ⟨hj.symm,by omega⟩
  ·cases hj)
 have HC1:Hid (∀v∈c0,v.oneCell'=true):=zhd (fun v hv=>by rw[hc0]at hv;rw[List.eq_of_mem_replicate hv];rfl)
 have hn0:c0.length=Nat.min 1 n:=hcl0
 have hgs:w.heap.size≤g:=by omega
 obtain ⟨r0,hr0⟩:∃r0,r0=List.replicate n (Value.int .i64 0):=⟨_,rfl⟩
 have HR0:=zhd hr0
 have hrl0:r0.length=n:=by rw[hr0];simp
 rw[←hr0]at hmc
 clear hc0 hr0 hg
 go_wp2_with (first
  | (at_make;refine wpList_make_full _ rfl _ _ 30 rfl w.heap.size 3 i0 (.int .i64 0) 1 Tryz.underlying30 hi hz0 hz1 .i64 .i64 _ _ n rfl rfl rfl rfl (by rw[hz2];omega) (by unfold maxLen;omega) hx1.size ?_;intro w2 hown2 hgrow2;have HR2:=zhd ((Row.of_own hown2).1.get hmc.out);rw[←HG.out]at HR2;have hx2:=hx1.grown hgrow2 hs1 (fun j hj=>by cases hj);have hcy2:=zhd (zm hcy.out ((Below.refl _ w1).grown hgrow2 (Nat.le_refl _) (fun j hj=>by cases hj)));clear hown2 hgrow2)
  | (refine wpList_copy_splice rfl (.tmp 31) (.tmp 32) 30 30 rfl 3 Tryz.underlying30 Xz _ _ n n 1 cap rfl rfl g 0 r0 3 HR2.out c0 hn0 (fun _=>⟨by rw[HG.out],_,rfl,fun j v hj=>by obtain ⟨rfl,rfl⟩:=HCS.out j v hj;exact hcy2.out⟩) (by omega) HC1.out w.heap.size w hx2 hgs ?_;intro w3 hR3 hb3))
 have hR3':=zhd (show Row w3 g 3 (List.replicate (min 1 n) (.int .i64 y)++List.replicate (n - min 1 n) (.int .i64 0)) from by
  have h:=hR3.out
  rw[HC0.out,HR0.out]at h
  have e:=qJ (y:=Value.int .i64 y) (z:=Value.int .i64 0) (k:=0) (n:=n) (m:=min 1 n) (by omega)
  simp only[List.replicate_zero,List.nil_append,Nat.sub_zero,Nat.zero_add]at e
  rw[e]at h
  exact h)
 rw[←HG.out]
 obtain ⟨k0,hk0⟩:∃k0,k0=min 1 n:=⟨_,rfl⟩
 rw[←hk0]at hR3' hm0 ⊢
 have hkz:k0=0→n=0:=by omega
 clear hR3 hk0 hcl0 hn0 HCS HC1 HC0 HR0 hrl0 hmc hx1 hs1
 go_loopw [8] (fun i wr=>∃k:Nat,k≤n∧i=.int .i64 k∧(k=0→n=0)∧Below w.heap.size w wr∧Row wr g 3 (List.replicate k (.int .i64 y)++List.replicate (n - k) (.int .i64 0))) (fun i _=>n - (intOf i).toNat)
 case atStart=>exact ⟨k0,hm0,rfl,hkz,hb3,hR3'.out⟩
 case round=>
  obtain ⟨k,hk,rfl,hkz,hbd,hRd⟩:=hrel
  by_cases hlt:k<n
  ·have hk1:0<k:=by omega
   have hE:Tryz.prog.elem 30=3:=by simp[Program.elem,Tryz.underlying30]
   have hs1:∀W:World,(Instr.slice 30 (.slice (some ⟨g,0,none⟩) n n) (some (.int .i64 k)) none none).run Tryz.prog W=.ok (.slice (some ⟨g,k,none⟩) (n - k) (n - k)) W:=fun W=>by
    rw[run_slice_l (w:=W) _ _ _ _ (by rw[hE];exact Tryz.underlying30) .i64 k (by omega) (by omega),hE]
    simp[sizeOf,typeInfo,hi,hz1,Result.andThen,sliced,show n≠k by omega,Addr.add]
    try omega
   have hs2:∀W:World,(Instr.slice 30 (.slice (some ⟨g,0,none⟩) n n) none (some (.int .i64 k)) none).run Tryz.prog W=.ok (.slice (some ⟨g,0,none⟩) k n) W:=fun W=>by
    rw[run_slice_h (w:=W) _ _ _ _ (by rw[hE];exact Tryz.underlying30) .i64 k (by omega) (by omega),hE]
    simp[sizeOf,typeInfo,hi,hz1,Result.andThen,sliced,show n≠0 by omega,Addr.add]
    try omega
   obtain ⟨m,hm⟩:∃m,m=min k (n - k):=⟨_,rfl⟩
   obtain ⟨cs,hcs⟩:∃cs,cs=List.replicate m (Value.int .i64 y):=⟨_,rfl⟩
   have hcl:cs.length=m:=by rw[hcs];simp
   have HCN:Hid (cs.length=Nat.min k (n - k)):=zhd (hcl.trans hm)
   obtain ⟨rr,hrr⟩:∃rr,rr=List.replicate k (Value.int .i64 y)++List.replicate (n - k) (Value.int .i64 0):=⟨_,rfl⟩
   have HCS:Hid (∀W,Row W g 3 rr→∀j v,cs[j]? =some v→W.cell? ((⟨g,0,none⟩:Addr).add j)=some v):=zhd (fun W hW j v hj=>by
    have hjm:j<m:=by rw[←hcl];exact (List.getElem?_eq_some_iff.1 hj).1
    rw[Addr.add_lit,Nat.zero_add]
    refine hW.cell ?_
    rw[hrr,List.getElem?_append_left (show j<(List.replicate k (Value.int .i64 y)).length by rw[List.length_replicate];omega),List.getElem?_replicate,if_pos (by omega)]
    rw[hcs,List.getElem?_replicate,if_pos hjm]at hj
    exact hj)
   have HFT:Hid (k+cs.length≤rr.length):=zhd (by rw[hcl,hrr];simp;omega)
   have HC1:Hid (∀v∈cs,v.oneCell'=true):=zhd (fun v hv=>by rw[hcs]at hv;rw[List.eq_of_mem_replicate hv];rfl)
   have HSP:Hid (splice rr k cs=List.replicate (k+m) (Value.int .i64 y)++List.replicate (n - (k+m)) (Value.int .i64 0)):=zhd (by rw[hrr,hcs];exact qJ (by omega))
   have HCL:=zhd hcl
   have hmk:k+m≤n:=by omega
   have hm1:0<m:=by omega
   rw[←hrr]at hRd
   have hRr:=zhd hRd
   have hwr:IntKind.i64.wrap ((k:Int)+(m:Int))=(k:Int)+m:=IntWalk.i64_in _ (by omega)
   clear hm hcs hrr hRd hcl
   go_wp2
   rw[←HCL.out]at hwr
   refine zH (fun _:World=>True) (fun i=>false) (by kernel_rfl) ?_ (fun hHeld=>?_)
   ·trivial
   refine anyE_take 0 (v:=?_) rfl (by kernel_rfl) (fun _ _ _ h=>h) (by rfl) ?hy0 hHeld ?r0
   case hy0=>(intro w hSw;(try dsimp only at hSw);go_simp;try with_reducible rfl)
   try simp only[Act.put,zsa,zsz,zss]
   refine anyE_take 1 (v:=?_) rfl (by kernel_rfl) (fun _ _ _ h=>h) (by rfl) ?hy1 hHeld ?r1
   case hy1=>(intro w hSw;(try dsimp only at hSw);go_simp;try with_reducible rfl)
   try simp only[Act.put,zsa,zsz,zss]
   refine anyE_take 2 (v:=?_) rfl (by kernel_rfl) (fun _ _ _ h=>h) (by rfl) ?hy2 hHeld ?r2
   case hy2=>(intro w hSw;(try dsimp only at hSw);go_simp;try with_reducible rfl)
   try simp only[Act.put,zsa,zsz,zss]
   refine anyE_take 3 (v:=?_) rfl (by kernel_rfl) (fun _ _ _ h=>h) (by rfl) ?hy3 hHeld ?r3
   case hy3=>(intro w hSw;(try dsimp only at hSw);go_simp;try with_reducible rfl)
   try simp only[Act.put,zsa,zsz,zss]
   refine anyE_take 4 (v:=?_) rfl (by kernel_rfl) (fun _ _ _ h=>h) (by rfl) ?hy4 hHeld ?r4
   case hy4=>(intro w hSw;(try dsimp only at hSw);go_simp;try with_reducible rfl)
   try simp only[Act.put,zsa,zsz,zss]
   refine anyE_take 5 (v:=?_) rfl (by kernel_rfl) (fun _ _ _ h=>h) (by rfl) ?hy5 hHeld ?r5
   case hy5=>(intro w hSw;(try dsimp only at hSw);go_simp;try with_reducible rfl)
   try simp only[Act.put,zsa,zsz,zss]
   refine anyE_take 6 (v:=?_) rfl (by kernel_rfl) (fun _ _ _ h=>h) (by rfl) ?hy6 hHeld ?r6
   case hy6=>(intro w hSw;(try dsimp only at hSw);go_simp;try with_reducible rfl)
   try simp only[Act.put,zsa,zsz,zss]
   refine anyE_one 7 rfl (by kernel_rfl) (fun K hK=>?_)
   (refine step_copy_splice rfl (.tmp 41) (.tmp 44) 30 30 rfl 3 Tryz.underlying30 Xz (some ⟨g,k,none⟩) (some ⟨g,0,none⟩) (n - k) (n - k) k n (by rfl) (by rfl) g k rr 3 hRr.out cs HCN.out (fun _=>⟨rfl,_,rfl,HCS.out _ hRr.out⟩) HFT.out HC1.out w.heap.size w (zx hbd 1) hgs ?_;intro w5 hR5 hb5)
   refine hK.out _ _ (fun _=>trivial) (fun hHeld=>?_);replace hHeld:=hHeld rfl
   clear hK K
   try simp only[Act.put,zsa,zsz,zss]
   refine anyE_take 8 (v:=?_) rfl (by kernel_rfl) (fun _ _ _ h=>h) (by rfl) ?hy8 hHeld ?r8
   case hy8=>(intro w hSw;(try dsimp only at hSw);go_simp;try with_reducible rfl)
   try simp only[Act.put,zsa,zsz,zss]
   refine anyE_take 9 (v:=?_) rfl (by kernel_rfl) (fun _ _ _ h=>h) (by rfl) ?hy9 hHeld ?r9
   case hy9=>(intro w hSw;(try dsimp only at hSw);go_simp;try with_reducible rfl)
   try simp only[Act.put,zsa,zsz,zss]
   refine zy (by kernel_rfl) ?_ _
   have hRn:=hR5.out
   rw[HSP.out]at hRn
   have HRN:=zhd hRn
   clear hRn hR5
   go_wp2
   go_roundw
   case rel=>exact ⟨k+m,hmk,by simp[HCL.out],by omega,hb5,HRN.out⟩
   case measure=>
    have h1:=HCL.out
    simp only[intOf,h1,goInt]
    omega
  ·obtain rfl:k=n:=by omega
   have hR':=zhd (show Row wr g 3 ((List.replicate k y).map (Value.int .i64)) from by simpa using hRd)
   have hO:=zhd (hR'.out.owns (base:=w.heap.size) hgs (by simp[maxLen];omega))
   clear hRd hR'
   go_wp2
   go_ret
   refine .mk hbd ?_
   have:=hO.out
   unfold OwnInts
   simpa using this
end Go.Proofs.YtjpakklplhabdaaGreat
namespace Go.Proofs.YtjpakklplhabdaaGreat
def noDefer (ops:Array Oper):Bool:=ops.all fun o=>match o.op with | .defer _=>false | _=>true
theorem Qu {ops:Array Oper} (h:noDefer ops=true) {i:Nat} {o:Oper} (ho:ops[i]? =some o):∀c,o.op≠.defer c:=by
 intro c hc
 obtain ⟨hi,e⟩:=Array.getElem?_eq_some_iff.1 ho
 have:=Array.all_eq_true.1 h i hi
 rw[e,hc]at this
 cases this
theorem zen {P:Program} {Q:Exit→Act→World→Prop} {l n:Nat} {o:Oper} {K:Act→World→Prop} {a:Act} {w:World} (hd:∀c,o.op≠.defer c) (h:o.wp P a w K Q):o.wpIn (Fence.wide.inRound l) n P a w K Q:=by
 refine ⟨fun f _=>trivial,?_⟩
 rw[Oper.semAt_plain _ _ _ hd]
 unfold Oper.wp at h
 generalize (execOp a.eval o).run P w=r at *
 cases r with
 | ok x w'=>
  cases x with
  | value v=>exact h
  | skip=>exact h
  | defer d=>exact h
  | enter f args=>exact ⟨fun h0=>(by cases h0),callsIn_wide.2 h⟩
  | row row args=>
   refine ⟨fun h0=>(by cases h0),fun c cs _=>?_⟩
   obtain ⟨v,w'',h1,h2⟩:=h c cs
   exact ⟨v,w'',h1,stepsIn_wide.2 h2⟩
  | _=>exact h.elim
 | halt x w'=>
  cases x<;>exact h
theorem zeD {P:Program} {ops:Array Oper} {Q:Exit→Act→World→Prop} {l n i:Nat} {K K':Act→World→Prop} {a:Act} {w:World} (hd:noDefer ops=true) (hQ:¬LetsOut Q) (hK:∀a w,K a w→K' a w)
  (h:wpOp P ops Q i K a w):wpOpIn (Fence.wide.inRound l) n P ops Q i K' a w:=by
 unfold wpOp at h
 unfold wpOpIn
 split
 ·rename_i ho
  simp only[ho]at h
  exact hK _ _ h
 ·rename_i o ho
  simp only[ho]at h
  split
  ·rename_i hw
   simp only[hw,if_true]at h
   rcases h with h | h
   ·exact Oper.wpIn_mono hK (zen (Qu hd ho) h)
   ·exact absurd h.2 hQ
  ·rename_i hw
   simp only[hw]at h
   exact ⟨fun f _=>trivial,hK _ _ h⟩
theorem za1 {P:Program} {md:Region.Mode} {ops:Array Oper} {Q:Exit→Act→World→Prop} {l n:Nat} (hd:noDefer ops=true) (hQ:¬LetsOut Q):
  ∀(fuel:Nat) (listed:Array Bool) (a:Act) (w:World),wpAny P md ops Q fuel listed a w→wpAnyIn (Fence.wide.inRound l) n P md ops Q fuel listed a w
 | 0,_,_,_,h=>h
 | fuel+1,_,_,_,h=>⟨h.1,fun i hi=>zeD hd hQ (fun a' w' h'=>za1 hd hQ fuel _ a' w' h') (h.2 i hi)⟩
theorem Z4 {P:Program} {ops:Array Oper} {Q:Exit→Act→World→Prop} (S:World→Prop) (X:Nat→Bool) {id l n:Nat} {a:Act} {w:World} (hm:P.follows .mixedOrders=true) (hd:noDefer ops=true) (hQ:¬LetsOut Q) (hS:S w.drew)
  (h:S w.drew→AnyE P .any ops Q S X ops.size (Array.replicate ops.size false) a w.drew):(Code.region id ops true).wpIn (Fence.wide.inRound l) n P Q a w:=
 wpIn_region_any hm (za1 hd hQ _ _ _ _ (qP _ _ _ _ (h hS)))
end Go.Proofs.YtjpakklplhabdaaGreat
namespace Go.Proofs.YtjpakklplhabdaaGreat
open Go.RowKit Go.Shelf
def markD (D:Nat):Deferred:={target:=.collected D,args:=#[]}
def Marks (B:Nat) (W:World) (ds:List Deferred):Prop:=∃Ds:List Nat,ds=Ds.map markD∧Ds.Nodup∧∀D∈Ds,B≤D∧W.heap[D]? =some (.deferred (some []))
theorem Marks.nil (B:Nat) (W:World):Marks B W []:=⟨[],rfl,List.nodup_nil,by simp⟩
theorem Marks.agree {B:Nat} {T:Nat→Prop} {W W':World} {ds:List Deferred} (h:Marks B W ds) (hw:Agree T W W') (hT:∀D,W.heap[D]? =some (.deferred (some []))→T D):Marks B W' ds:=by
 obtain ⟨Ds,h1,h2,h3⟩:=h
 exact ⟨Ds,h1,h2,fun D hD=>⟨(h3 D hD).1,(hw.block D (hT D (h3 D hD).2) (Array.getElem?_eq_some_iff.1 (h3 D hD).2).1).trans (h3 D hD).2⟩⟩
theorem Marks.ext {B:Nat} {W W':World} {ds:List Deferred} (h:Marks B W ds) (hw:Below W.heap.size W W'):Marks B W' ds:=h.agree (T:=fun _=>True) (.of_ext hw) fun _ _=>trivial
theorem Marks.set {B:Nat} {W:World} {ds:List Deferred} (h:Marks B W ds) (a:Addr) (u:Value):Marks B (W.setCell a u) ds:=by
 obtain ⟨Ds,h1,h2,h3⟩:=h
 exact ⟨Ds,h1,h2,fun D hD=>⟨(h3 D hD).1,(KeepsOthers.setCell W a u).same D _ (h3 D hD).2 rfl⟩⟩
theorem Marks.cons {B D:Nat} {W0 W:World} {ds:List Deferred} (h0:Marks B W0 ds) (h:Marks B W ds) (hD:W0.heap.size≤D) (hB:B≤D) (hK:W.heap[D]? =some (.deferred (some []))):Marks B W ({target:=.collected D,args:=#[]}::ds):=by
 obtain ⟨Ds,h1,h2,h3⟩:=h
 obtain ⟨Ds0,g1,g2,g3⟩:=h0
 have e:Ds=Ds0:=by
  have hinj:∀a b:Nat,markD a=markD b→a=b:=fun a b h=>by injection h with h _;injection h
  have:=h1.symm.trans g1
  clear h1 h2 h3 g1 g2 g3
  induction Ds generalizing Ds0 with
  | nil=>cases Ds0 with
   | nil=>rfl
   | cons x r=>simp at this
  | cons x r ih=>cases Ds0 with
   | nil=>simp at this
   | cons y r2=>
    simp only[List.map_cons,List.cons.injEq]at this
    rw[hinj _ _ this.1,ih r2 this.2]
 subst e
 refine ⟨D::Ds,by rw[h1];rfl,List.nodup_cons.2 ⟨fun hm=>?_,h2⟩,fun D' hD'=>?_⟩
 ·have:=(Array.getElem?_eq_some_iff.1 (g3 D hm).2).1
  omega
 ·rcases List.mem_cons.1 hD' with rfl | h
  ·exact ⟨hB,hK⟩
  ·exact h3 D' h
theorem Q0 {F:Fence} {n:Nat} {P:Program} {fn:Func} {tmps:Array Value} {R:Ending→World→Prop} {B:Nat} {W:World} {ds:List Deferred} (h:Marks B W ds) (hB:B≤W.heap.size)
  (hfin:∀W',Below B W W'→(∀g e xs,Row W g e xs→Row W' g e xs)→LeavesInM F n P fn tmps R [] .returning W'):LeavesInM F n P fn tmps R ds .returning W:=by
 obtain ⟨Ds,rfl,h2,h3⟩:=h
 induction Ds generalizing W with
 | nil=>exact hfin W (.refl _ _) fun _ _ _ h=>h
 | cons D Ds ih=>
  obtain ⟨hn,hnd⟩:=List.nodup_cons.1 h2
  obtain ⟨hBD,hK⟩:=h3 D (by simp)
  refine ⟨by simp,.inl ⟨_,_,rfl,run_takeDeferred hK,?_⟩⟩
  have hg:=grownBy_putObj' W D (.deferred none)
  have hb:Below B W (W.putObj D (.deferred none)):=(Below.refl _ _).grown hg hB (fun k hk=>by cases hk;exact hBD)
  refine ih (by rw[World.putObj_size];exact hB) (fun W' hb' hr'=>hfin W' (hb.trans hb') fun g e xs hR=>hr' _ _ _ (hR.putObj _ hK rfl)) hnd fun D' hD'=>⟨(h3 D' (by simp[hD'])).1,?_⟩
  exact (World.putObj_heap_other (by intro e;subst e;exact hn hD')).trans (h3 D' (by simp[hD'])).2
theorem Zq {F:Fence} {n:Nat} {P:Program} {fn:Func} {R:Ending→World→Prop} {a:Act} {w:World} (h:LeavesInM F n P fn a.tmps R a.defers .returning w):bodyPostM F n P fn R .ret a w:=h
end Go.Proofs.YtjpakklplhabdaaGreat
namespace Go.Proofs.YtjpakklplhabdaaGreat
open Go.RowKit
theorem Sl.parts {α:Type} {K:Kd α} {S:Nat→Prop} {w:World} {a:Option Addr} {n cap:Nat} {l:List α} (h:Sl K S w (.slice a n cap) l):
  ∃xs:List Value,xs.length=l.length * K.size∧(∀j,j<l.length * K.size→w.cell? (adr a j)=some (xs.getD j undef))∧(∀j (h:j<l.length),K.rd S w (zzpart xs j K.size) l[j])∧∀u∈xs,u.oneCell'=true:=by
 obtain ⟨xs,hxs⟩:∃xs:List Value,xs=(List.range (l.length * K.size)).map fun j=>(w.cell? (adr a j)).getD undef:=⟨_,rfl⟩
 have hlen:xs.length=l.length * K.size:=by rw[hxs];simp
 have hget:∀j,j<l.length * K.size→xs[j]? =some ((w.cell? (adr a j)).getD undef):=fun j hj=>by rw[hxs];simp[hj]
 have hpart:∀j (hj:j<l.length) (cs:List Value),(∀i,i<K.size→w.cell? (adr a (j * K.size+i))=cs[i]?)→cs.length=K.size→zzpart xs j K.size=cs:=by
  intro j hj cs hc hl
  have hle:(j+1) * K.size≤l.length * K.size:=Nat.mul_le_mul_right _ hj
  rw[Nat.add_mul,Nat.one_mul]at hle
  apply List.ext_getElem?
  intro i
  by_cases hi:i<K.size
  ·have hx:=hget (j * K.size+i) (by omega)
   have hci:=hc i hi
   rw[List.getElem?_eq_getElem (show i<cs.length by omega)]at hci
   rw[yf hi,hx,hci,List.getElem?_eq_getElem (show i<cs.length by omega)];rfl
  ·have h2:cs[i]? =none:=List.getElem?_eq_none (by omega)
   rw[h2]
   unfold zzpart
   rw[List.getElem?_take,if_neg hi]
 refine ⟨xs,hlen,fun j hj=>?_,fun j hj=>?_,fun u hu=>?_⟩
 ·have hz:0<K.size:=by
   rcases Nat.eq_zero_or_pos K.size with h0 | h0
   ·rw[h0]at hj;simp at hj
   ·exact h0
  have hq:j / K.size<l.length:=Nat.div_lt_of_lt_mul (by rw[Nat.mul_comm];exact hj)
  obtain ⟨cs,h1,h2,h3⟩:=h.at hq
  have hm:j % K.size<K.size:=Nat.mod_lt _ hz
  have e:j / K.size * K.size+j % K.size=j:=by rw[Nat.mul_comm];exact Nat.div_add_mod _ _
  have:=h1 _ hm
  rw[e,List.getElem?_eq_getElem (by omega)]at this
  rw[List.getD_eq_getElem?_getD,hget j hj,this]
  rfl
 ·obtain ⟨cs,h1,h2,h3⟩:=h.at hj
  rw[hpart j hj cs h1 h3]
  exact h2
 ·obtain ⟨j,hj,rfl⟩:=List.getElem_of_mem hu
  have hj2:j<l.length * K.size:=by omega
  have hz:0<K.size:=by
   rcases Nat.eq_zero_or_pos K.size with h0 | h0
   ·rw[h0]at hj2;simp at hj2
   ·exact h0
  have hq:j / K.size<l.length:=Nat.div_lt_of_lt_mul (by rw[Nat.mul_comm];exact hj2)
  obtain ⟨cs,h1,h2,h3⟩:=h.at hq
  have hm:j % K.size<K.size:=Nat.mod_lt _ hz
  have e:j / K.size * K.size+j % K.size=j:=by rw[Nat.mul_comm];exact Nat.div_add_mod _ _
  have hp:=hpart _ hq cs h1 h3
  have h4:=yf (xs:=xs) (j:=j / K.size) hm
  rw[hp,e,List.getElem?_eq_getElem hj,List.getElem?_eq_getElem (by omega)]at h4
  injection h4 with h4
  rw[←h4]
  exact K.one h2 _ (List.getElem_mem _)
theorem Xk {c xs:List Value} {z:Nat} (hc:c.length=z):zzpart (c++xs) 0 z=c:=by
 unfold zzpart;rw[Nat.zero_mul,List.drop_zero,←hc,List.take_left]
theorem Xc {c xs:List Value} {j z:Nat} (hc:c.length=z):zzpart (c++xs) (j+1) z=zzpart xs j z:=by
 unfold zzpart
 rw[Nat.add_mul,Nat.one_mul,Nat.add_comm,←List.drop_drop,←hc,List.drop_left]
theorem zdS {xs:List Value} {z:Nat} (h:xs.length=z):zzpart xs 0 z=xs:=by unfold zzpart;rw[Nat.zero_mul,List.drop_zero,←h,List.take_length]
theorem Row.ownsW {w:World} {g base z n:Nat} {e:TypeId} {xs:List Value} (h:Row w g e xs) (hb:base≤g) (hl:xs.length=n * z) (hn:n≤maxLen):w.ownsRow base e z (.slice (some ⟨g,0,none⟩) n n) n xs:=
 ⟨hl,.inr ⟨g,n,xs.toArray,rfl,hb,h,Nat.le_refl _,hn,by simpa using hl,by simp[←hl]⟩⟩
theorem OwnK.cons {α:Type} {K:Kd α} {e:TypeId} {base:Nat} {S:Nat→Prop} {w:World} {v:Value} {l:List α} {y:α} {cs xs:List Value} (ho:w.ownsRow base e K.size v (l.length+1) (cs++xs))
  (hy:K.rd (fun b=>S b∧v.ownBlock≠some b) w cs y) (hr:∀j (h:j<l.length),K.rd (fun b=>S b∧v.ownBlock≠some b) w (zzpart xs j K.size) l[j]):OwnK K e base S w v (y::l):=by
 refine ⟨cs++xs,by simpa using ho,fun j hj=>?_⟩
 cases j with
 | zero=>rw[Xk (K.len hy)];exact hy
 | succ j=>
  rw[Xc (K.len hy)]
  exact hr j (by simpa using hj)
theorem Sl.form2 {α:Type} {K:Kd α} {S:Nat→Prop} {w:World} {v:Value} {l:List α} (h:Sl K S w v l):∃a cap,v=.slice a l.length cap∧Ad S w a l.length cap∧l.length≤cap∧cap≤maxLen∧l.length≤140737488355328:=by
 obtain ⟨a,cap,h1,h2,h3,h4⟩:=h.form
 exact ⟨a,cap,h1,h2,h3,h4,h.few⟩
end Go.Proofs.YtjpakklplhabdaaGreat
namespace Go.Proofs.YtjpakklplhabdaaGreat
section
variable {P:Program} {ops:Array Oper} {Q:Exit→Act→World→Prop} {md:Region.Mode} {S:World→Prop} {X:Nat→Bool}
def waitsB (md:Region.Mode) (ops:Array Oper):Nat→Nat→Nat→Bool
 | 0,_,_=>false
 | n+1,j,i=>match ops[j]? with | some o=>o.after.any (fun e=>Region.binds md e&&(e.on==i||waitsB md ops n e.on i)) | none=>false
def ClosedL (md:Region.Mode) (ops:Array Oper) (listed:Array Bool):Prop:=∀k ok,ops[k]? =some ok→listed.getD k true=true→∀e∈ok.after,Region.binds md e=true→listed.getD e.on true=true
theorem Yg {listed:Array Bool} (hc:ClosedL md ops listed) {i:Nat} (hi:listed.getD i true=false):∀(n j:Nat),waitsB md ops n j i=true→∃o,ops[j]? =some o∧∃e∈o.after,Region.binds md e=true∧listed.getD e.on true=false
 | 0,_,h=>by cases h
 | n+1,j,h=>by
  unfold waitsB at h
  cases ho:ops[j]? with
  | none=>rw[ho]at h;cases h
  | some o=>
   rw[ho]at h
   simp only at h
   rw[Array.any_eq_true]at h
   obtain ⟨k,hk,he⟩:=h
   simp only[Bool.and_eq_true,Bool.or_eq_true,beq_iff_eq]at he
   refine ⟨o,rfl,o.after[k],Array.getElem_mem hk,he.1,?_⟩
   rcases he.2 with h2 | h2
   ·rw[h2];exact hi
   ·obtain ⟨o2,ho2,e2,he2,hb2,hl2⟩:=Yg hc hi n _ h2
    cases hl:listed.getD (o.after[k]).on true with
    | false=>rfl
    | true=>
     have:=hc _ _ ho2 hl e2 he2 hb2
     rw[hl2]at this
     cases this
theorem zbr {listed:Array Bool} (hc:ClosedL md ops listed) {j:Nat} (hj:j∈Region.ready md ops listed):ClosedL md ops (listed.setIfInBounds j true):=by
 have up:∀q,listed.getD q true=true→(listed.setIfInBounds j true).getD q true=true:=fun q hq=>by
  by_cases e:j=q
  ·subst e
   rcases Nat.lt_or_ge j listed.size with h | h
   ·simp[h]
   ·simp[Array.getElem?_eq_none (show (listed.setIfInBounds j true).size≤j by simpa using h)]
  ·rw[getD_set_ne true e];exact hq
 obtain ⟨_,oj,hoj,hall⟩:=mem_ready.1 hj
 intro k ok hk hl e he hb
 by_cases ejk:j=k
 ·subst ejk
  rw[hoj]at hk
  cases hk
  have h1:=hall e he hb
  refine up _ ?_
  rcases Nat.lt_or_ge e.on listed.size with h' | h'
  ·simp[h']at h1 ⊢;exact h1
  ·simp[Array.getElem?_eq_none h']
 ·rw[getD_set_ne true ejk]at hl
  exact up _ (hc k ok hk hl e he hb)
def waitForT (md:Region.Mode) (ops:Array Oper) (X:Nat→Bool) (i:Nat):Bool:=(List.range ops.size).all fun j=> !X j||waitsB md ops ops.size j i
theorem zap {i:Nat} {oi:Oper} {v:Value} (hi:ops[i]? =some oi) (hsel:∀(j:Nat) (o:Oper) cs b,ops[j]? =some o→o.op≠.select cs b)
  (hX:waitForT md ops X i=true) (hQ:∀c a w,Q (.panic c) (a.put oi.dst v) w→Q (.panic c) a w):
  ∀(fuel:Nat) (listed:Array Bool) (a:Act) (w:World),ClosedL md ops listed→
   (∀j oj,ops[j]? =some oj→j≠i→listed.getD j true=false→(∀e∈oj.after,Region.binds md e=true→e.on≠i)→oi.apart ops oj=true)→
   i∈Region.ready md ops listed→YieldsIf P ops S oi v a→S w→
   AnyE P md ops Q S X fuel (listed.setIfInBounds i true) (a.put oi.dst v) w→AnyE P md ops Q S X (fuel+1) listed a w:=by
 intro fuel
 induction fuel with
 | zero=>
  intro listed a w _ _ hr hy hS H
  refine ⟨fun h=>(by rw[h]at hr;cases hr),fun j hj=>?_⟩
  by_cases hji:j=i
  ·subst hji;exact hy.wpOp hi hS ⟨fun _=>hS,H⟩
  ·have:=ready_mono hj hji
   rw[H.1]at this
   cases this
 | succ fuel ih=>
  intro listed a w hc hfree hr hy hS H
  refine ⟨fun h=>(by rw[h]at hr;cases hr),fun j hj=>?_⟩
  by_cases hji:j=i
  ·subst hji;exact hy.wpOp hi hS ⟨fun _=>hS,H⟩
  ·have h1:=H.2 j (ready_mono hj hji)
   have hj2:=hj
   obtain ⟨hjun,oj,hoj,hall⟩:=mem_ready.1 hj
   have hun:listed.getD i true=false:=by simpa using (mem_ready.1 hr).1
   have tr:∀q,(listed.getD q true=true↔listed.getD q false=true∨listed.size≤q):=fun q=>by
    rcases Nat.lt_or_ge q listed.size with h' | h'
    ·simp[h'];omega
    ·simp[Array.getElem?_eq_none h',h']
   have hnot:∀e∈oj.after,Region.binds md e=true→e.on≠i:=fun e he hb heq=>by
    have k1:=hall e he hb
    have k0:=(mem_ready.1 hr).1
    rw[heq]at k1
    rcases Nat.lt_or_ge i listed.size with h' | h'
    ·simp[h']at k0 k1;rw[k0]at k1;cases k1
    ·simp[Array.getElem?_eq_none h']at k1
   have hxj:X j=false:=by
    cases hx:X j with
    | false=>rfl
    | true=>
     have:=List.all_eq_true.1 hX j (List.mem_range.2 (Array.getElem?_eq_some_iff.1 hoj).1)
     rw[hx]at this
     simp only[Bool.not_true,Bool.false_or]at this
     obtain ⟨o2,ho2,e,he,hb,hl⟩:=Yg hc hun _ _ this
     rw[hoj]at ho2
     cases ho2
     have k1:=hall e he hb
     rcases Nat.lt_or_ge e.on listed.size with h' | h'
     ·simp[h']at k1 hl;rw[hl]at k1;cases k1
     ·simp[Array.getElem?_eq_none h']at k1
   have h2:=wpOp_putIf hoj (hfree j oj hoj hji hjun hnot) (fun cs b=>hsel i oi cs b hi) (fun cs b=>hsel j oj cs b hoj) hQ hy h1
   refine wpOp_mono (fun a' w' h3=>⟨fun _=>h3.2.1 hxj,ih (listed.setIfInBounds j true) a' w' (zbr hc hj2) (fun k ok hk hki hun hno=>?_) (ready_mono hr (Ne.symm hji)) h3.1 (h3.2.1 hxj) ?_⟩) h2
   ·refine hfree k ok hk hki ?_ hno
    by_cases hjk:j=k
    ·subst hjk;exact hjun
    ·rw[getD_set_ne true hjk]at hun;exact hun
   ·rw[Array.setIfInBounds_comm _ _ hji]
    exact h3.2.2
def closedB (md:Region.Mode) (ops:Array Oper) (listed:Array Bool):Bool:=
 (List.range ops.size).all fun k=> !listed.getD k true||(match ops[k]? with | some o=>o.after.all (fun e=> !Region.binds md e||listed.getD e.on true) | none=>true)
theorem Xd {listed:Array Bool} (h:closedB md ops listed=true):ClosedL md ops listed:=fun k ok hk hl e he hb=>by
 have:=List.all_eq_true.1 h k (List.mem_range.2 (Array.getElem?_eq_some_iff.1 hk).1)
 rw[hk,hl]at this
 simp only[Bool.not_true,Bool.false_or]at this
 rw[Array.all_eq_true]at this
 obtain ⟨q,hq,rfl⟩:=Array.getElem_of_mem he
 have:=this q hq
 rw[hb]at this
 simpa using this
theorem anyE_takeT {l:List Oper} (i:Nat) {oi:Oper} {v:Value} {fuel:Nat} {listed:Array Bool} {a:Act} {w:World} (hi:l[i]? =some oi)
  (hf:(Region.noSelect l.toArray&&(Region.free md l.toArray listed i&&((Region.ready md l.toArray listed).contains i&&(waitForT md l.toArray X i&&closedB md l.toArray listed))))=true)
  (hQ:∀c a w,Q (.panic c) (a.put oi.dst v) w→Q (.panic c) a w) (hw:Region.wanted oi (yielded l.toArray a.tmps)=true) (hy:∀w,S w→(execOp a.eval oi).run P w=.ok (.value v) w) (hS:S w)
  (h:AnyE P md l.toArray Q S X fuel (listed.setIfInBounds i true) (a.put oi.dst v) w):AnyE P md l.toArray Q S X (fuel+1) listed a w:=by
 simp only[Bool.and_eq_true]at hf
 obtain ⟨h1,h2,h3,h4,h5⟩:=hf
 have hi':l.toArray[i]? =some oi:=by simpa using hi
 exact zap hi' (Region.noSelect_spec h1) h4 hQ fuel listed a w (Xd h5) (Region.free_spec hi' h2) (by simpa using h3) (.inl ⟨hw,hy⟩) hS h
end
end Go.Proofs.YtjpakklplhabdaaGreat
