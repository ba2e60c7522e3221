/- Part of the proof that the laws answer true for every input. -/
import Derived.Test.YtiabbjolepnjkaaGreatPDfA02
import Derived.Maps.RangeWalk
import Derived.DeepKeys4
import Derived.Shelf.Bits.Mul64
import Derived.Ground.GgzProg
import Derived.Ground.SlgmProg
import Derived.Laws.CopyOwn
import Derived.Lib.SliceRun
import Derived.Deep.OwnRows
set_option linter.unusedSimpArgs false
set_option linter.unnecessarySimpa false
set_option linter.unusedVariables false
set_option maxRecDepth 100000
set_option maxHeartbeats 40000000
namespace Go.Proofs.YtiabbjolepnjkaaGreat
open Go.RowKit Go.Maps
def heldR (v:Value):Option (DataW Value×List MemPlace):=some (.held v,[])
structure KeyB (P:Program) (k:TypeId) (K:Type) where
 law:Keyed P k
 kv:K→Value
 kl:K→Lit
 ok:K→Prop
 reads:∀x,ok x→keyOf P k (kv x)=some (kl x)
 inj:∀x y,kv x=kv y→x=y
theorem KeyB.lit_ne {P:Program} {k:TypeId} {K:Type} (B:KeyB P k K) {x y:K} (hx:B.ok x) (hy:B.ok y) (h:x≠y):B.kl x≠B.kl y:=fun e=>
 h (B.inj _ _ (B.law.inj (B.reads x hx) (e▸B.reads y hy)))
theorem KeyB.key {P:Program} {k:TypeId} {K:Type} (B:KeyB P k K) {x:K} (hx:B.ok x):WideAt.IsKeyLit (B.kl x):=B.law.key (B.reads x hx)
def intKey {P:Program} {k:TypeId} (hk:P.underlying k=some (.int .i64)):KeyB P k Int where
 law:=int_keyed hk
 kv:=.int .i64
 kl:=.int .i64
 ok:=WF
 reads:=fun _ h=>keyOf_int_mk hk h.lit
 inj:=fun _ _ h=>by injection h
def MapV {P:Program} {k:TypeId} {K:Type} (B:KeyB P k K) (w:World) (b:Nat) (m:K→Option Value) (n:Nat):Prop:=
 ∃D:DataW Value,w.ownsMap P k heldR b n D∧size D=n∧∀x,B.ok x→has D (B.kl x)=(m x).isSome∧∀y,m x=some y→∀z,D.atKey (B.kl x) z=.held y
theorem zaQ {H:Type} {P:Program} {k:TypeId} {R:Value→Option (DataW H×List MemPlace)} {w:World} {b n:Nat} {D:DataW H} (h:w.ownsMap P k R b n D):w.ownsMap P k R b (size D) D:=by
 obtain ⟨es,clock,hb,F,_,rfl⟩:=h;exact ⟨es,clock,hb,F,by simp[size,length_sorted],rfl⟩
section
variable {P:Program} {k:TypeId} {K:Type} {B:KeyB P k K} {w:World} {b n:Nat} {m:K→Option Value}
theorem MapV.made (B:KeyB P k K) (w:World):MapV B (w.alloc (.map #[] 0)) w.heap.size (fun _=>none) 0:=
 ⟨_,World.ownsMap_made _ _ _ _,rfl,fun _ _=>⟨rfl,fun y h=>by cases h⟩⟩
theorem MapV.lt (h:MapV B w b m n):b<w.heap.size:=by obtain ⟨D,h,_⟩:=h;exact h.lt
theorem MapV.agree {S:Nat→Prop} {w':World} (h:MapV B w b m n) (hw:Agree S w w') (hS:S b):MapV B w' b m n:=by
 have hl:=h.lt;obtain ⟨D,⟨es,clock,hb,F,hs,hD⟩,r⟩:=h;exact ⟨D,⟨es,clock,(hw.block b hS hl).trans hb,F,hs,hD⟩,r⟩
theorem MapV.ext {w':World} (h:MapV B w b m n) (hw:Below w.heap.size w w'):MapV B w' b m n:=h.agree (S:=fun _=>True) (.of_ext hw) trivial
theorem MapV.alloc (h:MapV B w b m n) (o:Obj):MapV B (w.alloc o) b m n:=h.agree (S:=fun _=>True) ⟨by simp,fun k _ hk=>heap_alloc_old w o hk⟩ trivial
theorem MapV.grown {w':World} {row:Option Nat} (h:MapV B w b m n) (hw:w.grownBy w' row) (hne:row≠some b):MapV B w' b m n:=h.agree (S:=fun x=>x=b) (.of_grown hw fun x hx=>hx▸hne) rfl
theorem MapV.look {t e:TypeId} {z:Value} (h:MapV B w b m n) (ht:P.underlying t=some (.map k e)) (hz:(zeroValue e).run P w=.ok z w) {x:K} (hx:B.ok x) (c:Bool):
  (Instr.lookup t (.map (some b)) (B.kv x) c).run P w=.ok (if c then .tuple #[(m x).getD z,.bool (m x).isSome] else (m x).getD z) w:=by
 obtain ⟨D,h,_,hm⟩:=h;obtain ⟨h1,h2⟩:=hm x hx;have key:∀v ps,heldR v=some (D.atKey (B.kl x) (.held z),ps)→v=(m x).getD z:=by
  intro v ps hv;simp only[heldR,Option.some.injEq,Prod.mk.injEq]at hv;have hv:=hv.1;cases hmx:m x with
  | some y=>rw[h2 y hmx]at hv;injection hv
  | none=>
   rw[hmx]at h1;rw[atKey_of_not_has h1]at hv;injection hv
 cases c with
 | true=>
  obtain ⟨v,ps,hr,hv⟩:=h.look_ok B.law ht hz (zd:=.held z) (zp:=[]) rfl (B.reads x hx);rw[hr,key v ps hv,h1];rfl
 | false=>
  obtain ⟨v,ps,hr,hv⟩:=h.lookup B.law ht hz (zd:=.held z) (zp:=[]) rfl (B.reads x hx);rw[hr,key v ps hv];rfl
theorem MapV.len {t e:TypeId} (h:MapV B w b m n) (ht:P.underlying t=some (.map k e)) (ty:TypeId):(Builtin.len_ #[t] ty #[.map (some b)]).run P w=.ok (.int .i64 n) w:=by
 obtain ⟨D,h,hs,_⟩:=h;rw[h.len ht ty,hs]
theorem MapV.store [DecidableEq K] {t e:TypeId} (h:MapV B w b m n) (ht:P.underlying t=some (.map k e)) (hn:n<maxLen) {x:K} (hx:B.ok x) (y:Value):
  ∃w',(Instr.mapUpdate t (.map (some b)) (B.kv x) y).run P w=.ok () w'∧MapV B w' b (fun z=>if z=x then some y else m z) (if (m x).isSome then n else n+1)∧w.grownBy w' (some b):=by
 obtain ⟨D,h,hs,hm⟩:=h;obtain ⟨w',hr,ho,ht⟩:=h.store (val:=y) (d:=.held y) (ps:=[]) B.law ht hn (B.reads x hx) rfl;have hsz:size (D.put (B.kl x) (.held y))=if (m x).isSome then n else n+1:=by
  rw[size_put (h.tidy B.law),(hm x hx).1,hs]
 refine ⟨w',hr,⟨_,by rw[←hsz];exact zaQ ho,hsz,?_⟩,ht.grown⟩;intro z hz;by_cases e:z=x
 ·subst e;simp only[if_true,Option.isSome_some];refine ⟨has_put_same h.isMap (B.key hz) _,fun u hu q=>?_⟩;cases hu;exact atKey_put_same h.isMap (B.key hz) _ _
 ·simp only[if_neg e];have hne:=B.lit_ne hz hx e;rw[has_put_other hne];refine ⟨(hm z hz).1,fun u hu q=>?_⟩;rw[atKey_put_other hne];exact (hm z hz).2 u hu q
variable {ops:Array Oper} {rest:List Oper} {o:Oper} {a:Act} {Q:Exit→Act→World→Prop}
theorem qn (hg:o.guard=none) (mo xo:Operand) (t:TypeId) (hop:o.op=Op.lookup t mo xo true) (e:TypeId) (ht:P.underlying t=some (.map k e)) (z:Value) (hz:(zeroValue e).run P w=.ok z w)
  (hm:a.eval mo=.map (some b)) (h:MapV B w b m n) (x:K) (hxv:a.eval xo=B.kv x) (hx:B.ok x) (y:Value) (hy:m x=some y)
  (hK:wpList P ops Q rest (a.put o.dst (.tuple #[y,.bool true])) w):wpList P ops Q (o::rest) a w:=by
 refine wpList_plain hg fun K' hK'=>?_;unfold Oper.wp;simp[execOp,hop,hm,hxv,h.look ht hz hx true,Result.andThen,hy];exact hK' _ _ hK
theorem qF (hg:o.guard=none) (mo xo:Operand) (t:TypeId) (hop:o.op=Op.lookup t mo xo true) (e:TypeId) (ht:P.underlying t=some (.map k e)) (z:Value) (hz:(zeroValue e).run P w=.ok z w)
  (hm:a.eval mo=.map (some b)) (h:MapV B w b m n) (x:K) (hxv:a.eval xo=B.kv x) (hx:B.ok x) (hy:m x=none)
  (hK:wpList P ops Q rest (a.put o.dst (.tuple #[z,.bool false])) w):wpList P ops Q (o::rest) a w:=by
 refine wpList_plain hg fun K' hK'=>?_;unfold Oper.wp;simp[execOp,hop,hm,hxv,h.look ht hz hx true,Result.andThen,hy];exact hK' _ _ hK
theorem xe [DecidableEq K] (hg:o.guard=none) (mo xo yo:Operand) (t:TypeId) (hop:o.op=Op.mapUpdate t mo xo yo) (e:TypeId) (ht:P.underlying t=some (.map k e))
  (hm:a.eval mo=.map (some b)) (h:MapV B w b m n) (hn:n<maxLen) (x:K) (hxv:a.eval xo=B.kv x) (hx:B.ok x) (y:Value) (hy:a.eval yo=y)
  (hK:∀w',MapV B w' b (fun z=>if z=x then some y else m z) (if (m x).isSome then n else n+1)→w.grownBy w' (some b)→wpList P ops Q rest (a.put o.dst undef) w'):wpList P ops Q (o::rest) a w:=by
 refine wpList_plain hg fun K' hK'=>?_;obtain ⟨w',hr,r1,r2⟩:=h.store ht hn hx y;unfold Oper.wp;simp[execOp,hop,hm,hxv,hy,hr,Result.andThen];exact hK' _ _ (hK w' r1 r2)
theorem zaR (hg:o.guard=none) (mo:Operand) (t:TypeId) (hop:o.op=Op.call {callee:=Callee.builtin Builtin.len,args:=#[mo],argTypes:=#[t]}) (e:TypeId) (ht:P.underlying t=some (.map k e))
  (hm:a.eval mo=.map (some b)) (h:MapV B w b m n) (hK:wpList P ops Q rest (a.put o.dst (.int .i64 n)) w):wpList P ops Q (o::rest) a w:=by
 refine wpList_plain hg fun K' hK'=>?_;unfold Oper.wp;simp[execOp,hop,resolve,invoke,builtin,hm,h.len ht o.type,Result.andThen];exact hK' _ _ hK
end
end Go.Proofs.YtiabbjolepnjkaaGreat
namespace Go.Proofs.YtiabbjolepnjkaaGreat
open Go.RowKit Go.Maps
theorem zgt:laidOutB Tryz.prog=true:=by kernel_rfl
theorem zia:(65:TypeId)<Tryz.prog.types.size:=of_decide_eq_true (by kernel_rfl)
theorem zfQ:(match Tryz.prog.underlying 65 with | some (.array _ _) | some (.struct _)=>true | _=>false)=true:=by kernel_rfl
theorem zig:WideMaps.KeyLaw Tryz.prog 65:=deep_law_laid zgt (m:=3) (by omega) zia (by kernel_rfl) zfQ
theorem zcf:Tryz.prog.keyType 65=true:=by kernel_rfl
theorem XK:Tryz.prog.cellsOf 65=8:=by kernel_rfl
theorem X8:Tryz.prog.cellsOf 63=5:=by kernel_rfl
theorem zbI:Tryz.prog.cellsOf 3=1:=by kernel_rfl
theorem zfH:∃d,Tryz.prog.types.size=d+3:=⟨Tryz.prog.types.size - 3,by kernel_rfl⟩
theorem yt (d:Nat) (x:Int) (h:WF x):Tryz.prog.keyLits (d+1) 3 [x]=some [.int .i64 x]:=by
 simp[Program.keyLits,Tryz.underlying3,h.lit]
theorem zfx (x:List Int) (hl:x.length=8) (hw:∀y∈x,WF y):∃ls,Tryz.prog.keyLits (Tryz.prog.types.size+1) 65 (x.map (Value.int .i64))=some ls:=by
 match x,hl with
 | [a,b,c,d,e,f,g,h],_=>
  obtain ⟨n,hn⟩:=zfH;rw[hn];have ha:=yt (n+2) a (hw a (by simp));have hb:=yt (n+2) b (hw b (by simp));have hc:=yt (n+2) c (hw c (by simp));have hd:=yt (n+1) d (hw d (by simp));have he:=yt (n+1) e (hw e (by simp));have hf:=yt (n+1) f (hw f (by simp));have hg:=yt (n+1) g (hw g (by simp));have hh:=yt (n+1) h (hw h (by simp));have wa:=(hw a (by simp)).lit;have wb:=(hw b (by simp)).lit;have wc:=(hw c (by simp)).lit;have wd:=(hw d (by simp)).lit;have we:=(hw e (by simp)).lit;have wf:=(hw f (by simp)).lit;have wg:=(hw g (by simp)).lit;have wh:=(hw h (by simp)).lit;have h5:Tryz.prog.keyLits (n+3) 63 [d,e,f,g,h]=some [.int .i64 d,.int .i64 e,.int .i64 f,.int .i64 g,.int .i64 h]:=by
   simp[Program.keyLits,Tryz.underlying63,Tryz.underlying3,X8,zbI,List.range_succ,wd,we,wf,wg,wh]
  refine ⟨[.int .i64 a,.int .i64 b,.int .i64 c,.int .i64 d,.int .i64 e,.int .i64 f,.int .i64 g,.int .i64 h],?_⟩;simp[Program.keyLits,Tryz.underlying65,Tryz.underlying63,Tryz.underlying3,XK,zbI,X8,List.range_succ,wa,wb,wc,wd,we,wf,wg,wh]
theorem zc5 (xs:List Value) (h:xs.length=8):(Value.agg xs.toArray).formed Tryz.prog 65=true:=by
 simp[Value.formed,Tryz.underlying65,XK,h]
noncomputable def viewKey:KeyB Tryz.prog 65 (List Int) where
 law:=Keyed.of_law zig
 kv x:=.agg (x.map (Value.int .i64)).toArray
 kl x:=(keyOf Tryz.prog 65 (.agg (x.map (Value.int .i64)).toArray)).getD (.bool true)
 ok x:=x.length=8∧∀y∈x,WF y
 reads x h:=by
  obtain ⟨ls,hls⟩:=zfx x h.1 h.2;have:∃l,keyOf Tryz.prog 65 (.agg (x.map (Value.int .i64)).toArray)=some l:=by
   unfold keyOf;have hf:=zc5 (x.map (Value.int .i64)) (by simp[h.1]);simp only[Tryz.underlying65,zcf,hf,Bool.and_self,if_true];simp only[Value.cells];rw[hls];exact ⟨_,rfl⟩
  obtain ⟨l,hl⟩:=this;rw[hl];rfl
 inj x y h:=by
  injection h with h;have h2:x.map (Value.int .i64)=y.map (Value.int .i64):=by
   have:=congrArg Array.toList h;simpa using this
  exact (List.map_inj_right (fun a b e=>by injection e)).1 h2
end Go.Proofs.YtiabbjolepnjkaaGreat
namespace Go.Proofs
open Go.Shelf
def Tryz.laysMulB_ren:Go.Shelf.Ren:=⟨fun | 212=>80 | 263=>111 | 264=>112 | n=>n,fun | 46=>131 | 51=>188 | 146=>196 | 53=>190 | 148=>198 | n=>n,fun | n=>n⟩
theorem Tryz.laysMulB:Go.Proofs.Lays.n212 Tryz.prog Tryz.laysMulB_ren:={
 mixed:=by kernel_rfl
 f212:=Tryz.func80.trans (congrArg some (by kernel_rfl))
 f263:=Tryz.func111.trans (congrArg some (by kernel_rfl))
 f264:=Tryz.func112.trans (congrArg some (by kernel_rfl))
 t46:=Tryz.underlying131
 a46:=Tryz.isAgg131
 z46:=Tryz.sizeOf131
 v46:=Tryz.zeroValue131
 t51:=Tryz.underlying188
 a51:=Tryz.isAgg188
 z51:=Tryz.sizeOf188
 v51:=Tryz.zeroValue188
 t53:=Tryz.underlying190
 a53:=Tryz.isAgg190
 z53:=Tryz.sizeOf190
 v53:=Tryz.zeroValue190
 t146:=Tryz.underlying196
 a146:=Tryz.isAgg196
 z146:=Tryz.sizeOf196
 v146:=Tryz.zeroValue196
 t148:=Tryz.underlying198
 a148:=Tryz.isAgg198
 z148:=Tryz.sizeOf198
 v148:=Tryz.zeroValue198}
open Go.RowKit Go.Lib in
theorem Tryz.bits_Mul (x y:Nat) (hx:x<18446744073709551616) (hy:y<18446744073709551616) (w:World):
  Calls Tryz.prog 80 #[.int .u64 x,.int .u64 y] w fun e w'=>e=.returned (.tuple #[.int .u64 ((x * y / 18446744073709551616:Nat):Int),.int .u64 ((x * y % 18446744073709551616:Nat):Int)])∧w'=w:=Any.bits_Mul Tryz.laysMulB x y hx hy w
end Go.Proofs
namespace Go.Proofs.YtiabbjolepnjkaaGreat
open Go.RowKit
attribute [local go_sem ↓] Go.wp_at_zero Go.wp_at_succ
def OwnInts (base:Nat) (l:List Int) (w':World) (r:Value):Prop:=w'.ownsRow base 3 1 r l.length (l.map (Value.int .i64))
theorem Zc {S:Nat→Prop} {w:World} {v:Value} {l:List Int} (h:Ints S w v l) (hn:l.length≤1000000):
  Calls Tryz.prog 46 #[v] w (Post w (OwnInts w.heap.size l)):=by
 obtain ⟨a,cap,rfl,ad,l1,l2⟩:=h.form;cases a with
 | none=>
  have h0:l.length=0∧cap=0:=by
   rcases ad with h | ⟨b,off,e,_⟩
   ·exact h
   ·cases e
  obtain ⟨h0,rfl⟩:=h0;obtain rfl:l=[]:=List.length_eq_zero_iff.1 h0;clear h ad l1 l2 h0;have hn1:=@Lib.run_eql_slice_nil Tryz.prog w 36 3 none 0 0 0 0 Tryz.underlying36;go_enter Tryz.func46,Tryz.ntmps46;go_wp2;go_ret;exact .mk (.refl _ _) (World.ownsRow_nil _ _ _ _)
 | some x=>
  have ex:=ze w (.cells #[] 3);have hown0:=(zi w [] 3).owns (base:=w.heap.size) (Nat.le_refl _) (by simp[maxLen]);have OW:=zhd hown0;have I:=zhd (h.ext ex);have B1:Hid ((0+l.length) * 8≤140737488355328):=zhd (by omega);clear hown0 h ad;have hn1:=@Lib.run_eql_slice_nil Tryz.prog w 36 3 (some x) l.length cap 0 0 Tryz.underlying36;go_enter Tryz.func46,Tryz.ntmps46;go_wp2_with (at_builtin;refine xQ rfl (.tmp 5) (.tmp 6) 36 rfl 3 _ 8 Tryz.underlying36 zI rfl w.heap.size (.slice (some ⟨w.heap.size,0,none⟩) 0 0) 0 [] rfl OW.out S (some x) l.length cap (l.map (Value.int .i64)) rfl (zi5 I.out) (by simp) (yv I.out (.refl _ _)) (Y0 l) B1.out (by omega) (by simp) ?_;intro v3 w3 hown3 hb3 hag3 hv3);rw[Nat.zero_add,List.nil_append]at hown3;have hbb:Below w.heap.size w w3:=ex.trans hb3;have HO:=zhd hown3;clear hown3 hag3 hv3 hb3;go_wp2;go_ret;exact .mk hbb HO.out
theorem zfI (w:World) (n:Nat) (hn:n≤100000):Calls Tryz.prog 80 #[.int .u64 1,.int .u64 n] w (QuietP w (.tuple #[.int .u64 0,.int .u64 n])):=by
 refine (Tryz.bits_Mul 1 n (by omega) (by omega) w).mono ?_;rintro _ _ ⟨rfl,rfl⟩;rw[show 1 * n / 18446744073709551616=0 by omega,show 1 * n % 18446744073709551616=n by omega];exact .same
theorem zbC:(Tryz.prog.info? 3).map (·.size)=some 1:=by kernel_rfl
theorem XP {y z:Value} {k n m:Nat} (h:k+m≤n):splice (List.replicate k y++List.replicate (n - k) z) k (List.replicate m y)=List.replicate (k+m) y++List.replicate (n - (k+m)) z:=by
 unfold splice;have e1:(List.replicate k y++List.replicate (n - k) z).take k=List.replicate k y:=by
  rw[List.take_append_of_le_length (by simp)];exact List.take_of_length_le (by simp)
 have e2:(List.replicate k y++List.replicate (n - k) z).drop (k+m)=List.replicate (n - (k+m)) z:=by
  rw[List.drop_append];simp only[List.length_replicate];rw[List.drop_eq_nil_of_le (by simp),List.nil_append,List.drop_replicate];congr 1
  omega
 rw[List.length_replicate,e1,e2,←List.append_assoc,List.replicate_append_replicate]
theorem yY {S:Nat→Prop} {w:World} {v:Value} {y:Int} (h:Ints S w v [y]) (n:Nat) (hn:n≤100000):
  Calls Tryz.prog 40 #[v,n] w (Post w (OwnInts w.heap.size (List.replicate n y))):=by
 obtain ⟨a,cap,rfl,ad,l1,l2⟩:=h.form;simp only[List.length_cons,List.length_nil,Nat.zero_add]at h ad l1 ⊢;obtain ⟨pb,po,rfl⟩:∃b o,a=some ⟨b,o,none⟩:=by
  rcases ad with ⟨h0,_⟩ | ⟨b,off,rfl,_⟩
  ·cases h0
  ·exact ⟨b,off,rfl⟩
 have hcy:=zgE h (.refl _ _);rw[yi,Nat.add_zero]at hcy;obtain ⟨i0,hi,hz0,hz1,hz2⟩:=info_parts zI;have HCY:=zhd hcy;have KM:=zhd ((zfI w n hn).mono fun _ _ h=>h.take);have hi0:IntKind.u64.wrap (n:Int)=n:=by rw[IntKind.wrap_u64];omega
 have hi1:IntKind.i64.wrap (n:Int)=n:=IntWalk.i64_in _ (by omega);clear h ad l1 l2 hcy;go_enter Tryz.func40,Tryz.ntmps40;go_wp2_with fail;refine KM.out.mono ?_;rintro _ w1 ⟨_,rfl,hq1,rfl⟩;have hx1:=hq1.ext;have hcy:=zhd (zm HCY.out hx1);clear KM hq1 HCY;have hs1:=hx1.size;obtain ⟨g,hg⟩:=zn w1.heap.size;have HG:=zhd hg;have hmc:Hid ((madeCells #[Value.int .i64 0] (n * 1)).toList=List.replicate n (.int .i64 0)):=zhd (by rw[Nat.mul_one];exact (toList_madeCells_one _ _));have hm0:min 1 n≤n:=Nat.min_le_right _ _;obtain ⟨c0,hc0⟩:=zn (List.replicate (min 1 n) (Value.int .i64 y));have HC0:=zhd hc0;have hcl0:c0.length=min 1 n:=by rw[hc0];simp
 have HCS:Hid (∀j v,c0[j]? =some v→v=.int .i64 y∧j=0):=zhd (fun j v hj=>by
  rw[hc0,List.getElem?_replicate]at hj;split at hj
  ·injection hj with hj;exact ⟨hj.symm,by omega⟩
  ·cases hj)
 have HC1:Hid (∀v∈c0,v.oneCell'=true):=zhd (fun v hv=>by rw[hc0]at hv;rw[List.eq_of_mem_replicate hv];rfl);have hn0:c0.length=Nat.min 1 n:=hcl0;have hgs:w.heap.size≤g:=by omega
 obtain ⟨r0,hr0⟩:=zn (List.replicate n (Value.int .i64 0));have HR0:=zhd hr0;have hrl0:r0.length=n:=by rw[hr0];simp
 rw[←hr0]at hmc;clear hc0 hr0 hg;go_wp2_with (first
  | (at_make;refine wpList_make_full _ rfl _ _ 36 rfl w.heap.size 3 i0 (.int .i64 0) 1 Tryz.underlying36 hi hz0 hz1 .i64 .i64 _ _ n rfl rfl rfl rfl (by rw[hz2];omega) (by unfold maxLen;omega) hx1.size ?_;intro w2 hown2 hgrow2;have HR2:=zhd ((Row.of_own hown2).1.get hmc.out);rw[←HG.out]at HR2;have hx2:=hx1.grown hgrow2 hs1 (fun j hj=>by cases hj);have hcy2:=zhd (zm hcy.out ((Below.refl _ w1).grown hgrow2 (Nat.le_refl _) (fun j hj=>by cases hj)));clear hown2 hgrow2)
  | (refine wpList_copy_splice rfl (.tmp 31) (.tmp 32) 36 36 rfl 3 Tryz.underlying36 zbC _ _ n n 1 cap rfl rfl g 0 r0 3 HR2.out c0 hn0 (fun _=>⟨by rw[HG.out],_,rfl,fun j v hj=>by obtain ⟨rfl,rfl⟩:=HCS.out j v hj;exact hcy2.out⟩) (by omega) HC1.out w.heap.size w hx2 hgs ?_;intro w3 hR3 hb3))
 have hR3':=zhd (show Row w3 g 3 (List.replicate (min 1 n) (.int .i64 y)++List.replicate (n - min 1 n) (.int .i64 0)) from by
  have h:=hR3.out;rw[HC0.out,HR0.out]at h;have e:=XP (y:=Value.int .i64 y) (z:=Value.int .i64 0) (k:=0) (n:=n) (m:=min 1 n) (by omega);simp only[List.replicate_zero,List.nil_append,Nat.sub_zero,Nat.zero_add]at e;rw[e]at h;exact h)
 rw[←HG.out];obtain ⟨k0,hk0⟩:=zn (min 1 n);rw[←hk0]at hR3' hm0 ⊢;have hkz:k0=0→n=0:=by omega
 clear hR3 hk0 hcl0 hn0 HCS HC1 HC0 HR0 hrl0 hmc hx1 hs1;go_loopw [8] (fun i wr=>∃k:Nat,k≤n∧i=.int .i64 k∧(k=0→n=0)∧Below w.heap.size w wr∧Row wr g 3 (List.replicate k (.int .i64 y)++List.replicate (n - k) (.int .i64 0))) (fun i _=>n - (intOf i).toNat)
 case atStart=>exact ⟨k0,hm0,rfl,hkz,hb3,hR3'.out⟩
 case round=>
  obtain ⟨k,hk,rfl,hkz,hbd,hRd⟩:=hrel;by_cases hlt:k<n
  ·have hk1:0<k:=by omega
   have hE:Tryz.prog.elem 36=3:=by simp[Program.elem,Tryz.underlying36]
   have hs1:∀W:World,(Instr.slice 36 (.slice (some ⟨g,0,none⟩) n n) (some (.int .i64 k)) none none).run Tryz.prog W=.ok (.slice (some ⟨g,k,none⟩) (n - k) (n - k)) W:=fun W=>by
    rw[run_slice_l (w:=W) _ _ _ _ (by rw[hE];exact Tryz.underlying36) .i64 k (by omega) (by omega),hE];simp[sizeOf,typeInfo,hi,hz1,Result.andThen,sliced,show n≠k by omega,Addr.add];try omega
   have hs2:∀W:World,(Instr.slice 36 (.slice (some ⟨g,0,none⟩) n n) none (some (.int .i64 k)) none).run Tryz.prog W=.ok (.slice (some ⟨g,0,none⟩) k n) W:=fun W=>by
    rw[run_slice_h (w:=W) _ _ _ _ (by rw[hE];exact Tryz.underlying36) .i64 k (by omega) (by omega),hE];simp[sizeOf,typeInfo,hi,hz1,Result.andThen,sliced,show n≠0 by omega,Addr.add];try omega
   obtain ⟨m,hm⟩:=zn (min k (n - k));obtain ⟨cs,hcs⟩:=zn (List.replicate m (Value.int .i64 y));have hcl:cs.length=m:=by rw[hcs];simp
   have HCN:Hid (cs.length=Nat.min k (n - k)):=zhd (hcl.trans hm);obtain ⟨rr,hrr⟩:=zn (List.replicate k (Value.int .i64 y)++List.replicate (n - k) (Value.int .i64 0));have HCS:Hid (∀W,Row W g 3 rr→∀j v,cs[j]? =some v→W.cell? ((⟨g,0,none⟩:Addr).add j)=some v):=zhd (fun W hW j v hj=>by
    have hjm:j<m:=by rw[←hcl];exact (List.getElem?_eq_some_iff.1 hj).1
    rw[Addr.add_lit,Nat.zero_add];refine hW.cell ?_;rw[hrr,List.getElem?_append_left (show j<(List.replicate k (Value.int .i64 y)).length by rw[List.length_replicate];omega),List.getElem?_replicate,if_pos (by omega)];rw[hcs,List.getElem?_replicate,if_pos hjm]at hj;exact hj)
   have HFT:Hid (k+cs.length≤rr.length):=zhd (by rw[hcl,hrr];simp;omega);have HC1:Hid (∀v∈cs,v.oneCell'=true):=zhd (fun v hv=>by rw[hcs]at hv;rw[List.eq_of_mem_replicate hv];rfl);have HSP:Hid (splice rr k cs=List.replicate (k+m) (Value.int .i64 y)++List.replicate (n - (k+m)) (Value.int .i64 0)):=zhd (by rw[hrr,hcs];exact XP (by omega));have HCL:=zhd hcl;have hmk:k+m≤n:=by omega
   have hm1:0<m:=by omega
   rw[←hrr]at hRd;have hRr:=zhd hRd;have hwr:IntKind.i64.wrap ((k:Int)+(m:Int))=(k:Int)+m:=IntWalk.i64_in _ (by omega);clear hm hcs hrr hRd hcl;go_wp2;rw[←HCL.out]at hwr;refine zF (fun _:World=>True) (fun i=>false) (by kernel_rfl) ?_ (fun hHeld=>?_)
   ·trivial
   refine zt 0 hHeld ?_;refine zt 1 hHeld ?_;refine zt 2 hHeld ?_;refine zt 3 hHeld ?_;refine zt 4 hHeld ?_;refine zt 5 hHeld ?_;refine zt 6 hHeld ?_;refine zo 7 (fun K hK=>?_)
   (refine step_copy_splice rfl (.tmp 41) (.tmp 44) 36 36 rfl 3 Tryz.underlying36 zbC (some ⟨g,k,none⟩) (some ⟨g,0,none⟩) (n - k) (n - k) k n (by rfl) (by rfl) g k rr 3 hRr.out cs HCN.out (fun _=>⟨rfl,_,rfl,HCS.out _ hRr.out⟩) HFT.out HC1.out w.heap.size w (zv hbd 1) hgs ?_;intro w5 hR5 hb5)
   refine zk hK (trivial) (fun hHeld=>?_);clear hK K;refine zt 8 hHeld ?_;refine zt 9 hHeld ?_;refine zz (by kernel_rfl) ?_ _;have hRn:=hR5.out;rw[HSP.out]at hRn;have HRN:=zhd hRn;clear hRn hR5;go_wp2;go_roundw
   case rel=>exact ⟨k+m,hmk,by simp[HCL.out],by omega,hb5,HRN.out⟩
   case measure=>
    have h1:=HCL.out;simp only[intOf,h1,goInt];omega
  ·obtain rfl:k=n:=by omega
   have hR':=zhd (show Row wr g 3 ((List.replicate k y).map (Value.int .i64)) from by simpa using hRd);have hO:=zhd (hR'.out.owns (base:=w.heap.size) hgs (by simp[maxLen];omega));clear hRd hR';go_wp2;go_ret;refine .mk hbd ?_;have:=hO.out;unfold OwnInts;simpa using this
end Go.Proofs.YtiabbjolepnjkaaGreat
namespace Go.Proofs.YtiabbjolepnjkaaGreat
def noDefer (ops:Array Oper):Bool:=ops.all fun o=>match o.op with | .defer _=>false | _=>true
theorem zcp {ops:Array Oper} (h:noDefer ops=true) {i:Nat} {o:Oper} (ho:ops[i]? =some o):∀c,o.op≠.defer c:=by
 intro c hc;obtain ⟨hi,e⟩:=Array.getElem?_eq_some_iff.1 ho;have:=Array.all_eq_true.1 h i hi;rw[e,hc]at this;cases this
theorem ziP {P:Program} {Q:Exit→Act→World→Prop} {l n:Nat} {o:Oper} {K:Act→World→Prop} {a:Act} {w:World} (hd:∀c,o.op≠.defer c) (h:o.wp P a w K Q):o.wpIn (Fence.wide.inRound l) n P a w K Q:=by
 refine ⟨fun f _=>trivial,?_⟩;rw[Oper.semAt_plain _ _ _ hd];unfold Oper.wp at h
 generalize (execOp a.eval o).run P w=r at *
 cases r with
 | ok x w'=>
  cases x with
  | value v=>exact h
  | skip=>exact h
  | defer d=>exact h
  | enter f args=>exact ⟨fun h0=>(by cases h0),callsIn_wide.2 h⟩
  | row row args=>
   refine ⟨fun h0=>(by cases h0),fun c cs _=>?_⟩;obtain ⟨v,w'',h1,h2⟩:=h c cs;exact ⟨v,w'',h1,stepsIn_wide.2 h2⟩
  | _=>exact h.elim
 | halt x w'=>
  cases x<;>exact h
theorem zju {P:Program} {ops:Array Oper} {Q:Exit→Act→World→Prop} {l n i:Nat} {K K':Act→World→Prop} {a:Act} {w:World} (hd:noDefer ops=true) (hQ:¬LetsOut Q) (hK:∀a w,K a w→K' a w)
  (h:wpOp P ops Q i K a w):wpOpIn (Fence.wide.inRound l) n P ops Q i K' a w:=by
 unfold wpOp at h;unfold wpOpIn;split
 ·rename_i ho;simp only[ho]at h;exact hK _ _ h
 ·rename_i o ho;simp only[ho]at h;split
  ·rename_i hw;simp only[hw,if_true]at h;rcases h with h | h
   ·exact Oper.wpIn_mono hK (ziP (zcp hd ho) h)
   ·exact absurd h.2 hQ
  ·rename_i hw;simp only[hw]at h;exact ⟨fun f _=>trivial,hK _ _ h⟩
theorem zdP {P:Program} {md:Region.Mode} {ops:Array Oper} {Q:Exit→Act→World→Prop} {l n:Nat} (hd:noDefer ops=true) (hQ:¬LetsOut Q):
  ∀(fuel:Nat) (listed:Array Bool) (a:Act) (w:World),wpAny P md ops Q fuel listed a w→wpAnyIn (Fence.wide.inRound l) n P md ops Q fuel listed a w
 | 0,_,_,_,h=>h
 | fuel+1,_,_,_,h=>⟨h.1,fun i hi=>zju hd hQ (fun a' w' h'=>zdP hd hQ fuel _ a' w' h') (h.2 i hi)⟩
theorem yQ {P:Program} {ops:Array Oper} {Q:Exit→Act→World→Prop} (S:World→Prop) (X:Nat→Bool) {id l n:Nat} {a:Act} {w:World} (hm:P.follows .mixedOrders=true) (hd:noDefer ops=true) (hQ:¬LetsOut Q) (hS:S w.drew)
  (h:S w.drew→AnyE P .any ops Q S X ops.size (Array.replicate ops.size false) a w.drew):(Code.region id ops true).wpIn (Fence.wide.inRound l) n P Q a w:=
 wpIn_region_any hm (zdP hd hQ _ _ _ _ (ZM _ _ _ _ (h hS)))
end Go.Proofs.YtiabbjolepnjkaaGreat
namespace Go.Proofs.YtiabbjolepnjkaaGreat
open Go.RowKit Go.Shelf
def markD (D:Nat):Deferred:={target:=.collected D,args:=#[]}
def Marks (B:Nat) (W:World) (ds:List Deferred):Prop:=∃Ds:List Nat,ds=Ds.map markD∧Ds.Nodup∧∀D∈Ds,B≤D∧W.heap[D]? =some (.deferred (some []))
theorem Marks.nil (B:Nat) (W:World):Marks B W []:=⟨[],rfl,List.nodup_nil,by simp⟩
theorem Marks.agree {B:Nat} {T:Nat→Prop} {W W':World} {ds:List Deferred} (h:Marks B W ds) (hw:Agree T W W') (hT:∀D,W.heap[D]? =some (.deferred (some []))→T D):Marks B W' ds:=by
 obtain ⟨Ds,h1,h2,h3⟩:=h;exact ⟨Ds,h1,h2,fun D hD=>⟨(h3 D hD).1,(hw.block D (hT D (h3 D hD).2) (Array.getElem?_eq_some_iff.1 (h3 D hD).2).1).trans (h3 D hD).2⟩⟩
theorem Marks.ext {B:Nat} {W W':World} {ds:List Deferred} (h:Marks B W ds) (hw:Below W.heap.size W W'):Marks B W' ds:=h.agree (T:=fun _=>True) (.of_ext hw) fun _ _=>trivial
theorem Marks.set {B:Nat} {W:World} {ds:List Deferred} (h:Marks B W ds) (a:Addr) (u:Value):Marks B (W.setCell a u) ds:=by
 obtain ⟨Ds,h1,h2,h3⟩:=h;exact ⟨Ds,h1,h2,fun D hD=>⟨(h3 D hD).1,(KeepsOthers.setCell W a u).same D _ (h3 D hD).2 rfl⟩⟩
theorem Marks.cons {B D:Nat} {W0 W:World} {ds:List Deferred} (h0:Marks B W0 ds) (h:Marks B W ds) (hD:W0.heap.size≤D) (hB:B≤D) (hK:W.heap[D]? =some (.deferred (some []))):Marks B W ({target:=.collected D,args:=#[]}::ds):=by
 obtain ⟨Ds,h1,h2,h3⟩:=h;obtain ⟨Ds0,g1,g2,g3⟩:=h0;have e:Ds=Ds0:=by
  have hinj:∀a b:Nat,markD a=markD b→a=b:=fun a b h=>by injection h with h _;injection h
  have:=h1.symm.trans g1;clear h1 h2 h3 g1 g2 g3;induction Ds generalizing Ds0 with
  | nil=>cases Ds0 with
   | nil=>rfl
   | cons x r=>simp at this
  | cons x r ih=>cases Ds0 with
   | nil=>simp at this
   | cons y r2=>
    simp only[List.map_cons,List.cons.injEq]at this;rw[hinj _ _ this.1,ih r2 this.2]
 subst e;refine ⟨D::Ds,by rw[h1];rfl,List.nodup_cons.2 ⟨fun hm=>?_,h2⟩,fun D' hD'=>?_⟩
 ·have:=(Array.getElem?_eq_some_iff.1 (g3 D hm).2).1;omega
 ·rcases List.mem_cons.1 hD' with rfl | h
  ·exact ⟨hB,hK⟩
  ·exact h3 D' h
theorem zbR {F:Fence} {n:Nat} {P:Program} {fn:Func} {tmps:Array Value} {R:Ending→World→Prop} {B:Nat} {W:World} {ds:List Deferred} (h:Marks B W ds) (hB:B≤W.heap.size)
  (hfin:∀W',Below B W W'→(∀g e xs,Row W g e xs→Row W' g e xs)→LeavesInM F n P fn tmps R [] .returning W'):LeavesInM F n P fn tmps R ds .returning W:=by
 obtain ⟨Ds,rfl,h2,h3⟩:=h;induction Ds generalizing W with
 | nil=>exact hfin W (.refl _ _) fun _ _ _ h=>h
 | cons D Ds ih=>
  obtain ⟨hn,hnd⟩:=List.nodup_cons.1 h2;obtain ⟨hBD,hK⟩:=h3 D (by simp);refine ⟨by simp,.inl ⟨_,_,rfl,run_takeDeferred hK,?_⟩⟩;have hg:=grownBy_putObj' W D (.deferred none);have hb:Below B W (W.putObj D (.deferred none)):=(Below.refl _ _).grown hg hB (fun k hk=>by cases hk;exact hBD);refine ih (by rw[World.putObj_size];exact hB) (fun W' hb' hr'=>hfin W' (hb.trans hb') fun g e xs hR=>hr' _ _ _ (hR.putObj _ hK rfl)) hnd fun D' hD'=>⟨(h3 D' (by simp[hD'])).1,?_⟩;exact (World.putObj_heap_other (by intro e;subst e;exact hn hD')).trans (h3 D' (by simp[hD'])).2
theorem zcr {F:Fence} {n:Nat} {P:Program} {fn:Func} {R:Ending→World→Prop} {a:Act} {w:World} (h:LeavesInM F n P fn a.tmps R a.defers .returning w):bodyPostM F n P fn R .ret a w:=h
end Go.Proofs.YtiabbjolepnjkaaGreat
namespace Go.Proofs.YtiabbjolepnjkaaGreat
open Go.RowKit
theorem Sl.parts {α:Type} {K:Kd α} {S:Nat→Prop} {w:World} {a:Option Addr} {n cap:Nat} {l:List α} (h:Sl K S w (.slice a n cap) l):
  ∃xs:List Value,xs.length=l.length * K.size∧(∀j,j<l.length * K.size→w.cell? (adr a j)=some (xs.getD j undef))∧(∀j (h:j<l.length),K.rd S w (zzpart xs j K.size) l[j])∧∀u∈xs,u.oneCell'=true:=by
 obtain ⟨xs,hxs⟩:∃xs:List Value,xs=(List.range (l.length * K.size)).map fun j=>(w.cell? (adr a j)).getD undef:=⟨_,rfl⟩;have hlen:xs.length=l.length * K.size:=by rw[hxs];simp
 have hget:∀j,j<l.length * K.size→xs[j]? =some ((w.cell? (adr a j)).getD undef):=fun j hj=>by rw[hxs];simp[hj]
 have hpart:∀j (hj:j<l.length) (cs:List Value),(∀i,i<K.size→w.cell? (adr a (j * K.size+i))=cs[i]?)→cs.length=K.size→zzpart xs j K.size=cs:=by
  intro j hj cs hc hl;have hle:(j+1) * K.size≤l.length * K.size:=Nat.mul_le_mul_right _ hj;rw[Nat.add_mul,Nat.one_mul]at hle;apply List.ext_getElem?;intro i;by_cases hi:i<K.size
  ·have hx:=hget (j * K.size+i) (by omega);have hci:=hc i hi;rw[List.getElem?_eq_getElem (show i<cs.length by omega)]at hci;rw[yP hi,hx,hci,List.getElem?_eq_getElem (show i<cs.length by omega)];rfl
  ·have h2:cs[i]? =none:=List.getElem?_eq_none (by omega);rw[h2];unfold zzpart;rw[List.getElem?_take,if_neg hi]
 refine ⟨xs,hlen,fun j hj=>?_,fun j hj=>?_,fun u hu=>?_⟩
 ·have hz:0<K.size:=by
   rcases Nat.eq_zero_or_pos K.size with h0 | h0
   ·rw[h0]at hj;simp at hj
   ·exact h0
  have hq:j / K.size<l.length:=Nat.div_lt_of_lt_mul (by rw[Nat.mul_comm];exact hj);obtain ⟨cs,h1,h2,h3⟩:=h.at hq;have hm:j % K.size<K.size:=Nat.mod_lt _ hz;have e:j / K.size * K.size+j % K.size=j:=by rw[Nat.mul_comm];exact Nat.div_add_mod _ _
  have:=h1 _ hm;rw[e,List.getElem?_eq_getElem (by omega)]at this;rw[List.getD_eq_getElem?_getD,hget j hj,this];rfl
 ·obtain ⟨cs,h1,h2,h3⟩:=h.at hj;rw[hpart j hj cs h1 h3];exact h2
 ·obtain ⟨j,hj,rfl⟩:=List.getElem_of_mem hu;have hj2:j<l.length * K.size:=by omega
  have hz:0<K.size:=by
   rcases Nat.eq_zero_or_pos K.size with h0 | h0
   ·rw[h0]at hj2;simp at hj2
   ·exact h0
  have hq:j / K.size<l.length:=Nat.div_lt_of_lt_mul (by rw[Nat.mul_comm];exact hj2);obtain ⟨cs,h1,h2,h3⟩:=h.at hq;have hm:j % K.size<K.size:=Nat.mod_lt _ hz;have e:j / K.size * K.size+j % K.size=j:=by rw[Nat.mul_comm];exact Nat.div_add_mod _ _
  have hp:=hpart _ hq cs h1 h3;have h4:=yP (xs:=xs) (j:=j / K.size) hm;rw[hp,e,List.getElem?_eq_getElem hj,List.getElem?_eq_getElem (by omega)]at h4;injection h4 with h4;rw[←h4];exact K.one h2 _ (List.getElem_mem _)
theorem zcE {c xs:List Value} {z:Nat} (hc:c.length=z):zzpart (c++xs) 0 z=c:=by
 unfold zzpart;rw[Nat.zero_mul,List.drop_zero,←hc,List.take_left]
theorem zcC {c xs:List Value} {j z:Nat} (hc:c.length=z):zzpart (c++xs) (j+1) z=zzpart xs j z:=by
 unfold zzpart;rw[Nat.add_mul,Nat.one_mul,Nat.add_comm,←List.drop_drop,←hc,List.drop_left]
theorem zhQ {xs:List Value} {z:Nat} (h:xs.length=z):zzpart xs 0 z=xs:=by unfold zzpart;rw[Nat.zero_mul,List.drop_zero,←h,List.take_length]
theorem Row.ownsW {w:World} {g base z n:Nat} {e:TypeId} {xs:List Value} (h:Row w g e xs) (hb:base≤g) (hl:xs.length=n * z) (hn:n≤maxLen):w.ownsRow base e z (.slice (some ⟨g,0,none⟩) n n) n xs:=
 ⟨hl,.inr ⟨g,n,xs.toArray,rfl,hb,h,Nat.le_refl _,hn,by simpa using hl,by simp[←hl]⟩⟩
theorem OwnK.cons {α:Type} {K:Kd α} {e:TypeId} {base:Nat} {S:Nat→Prop} {w:World} {v:Value} {l:List α} {y:α} {cs xs:List Value} (ho:w.ownsRow base e K.size v (l.length+1) (cs++xs))
  (hy:K.rd (fun b=>S b∧v.ownBlock≠some b) w cs y) (hr:∀j (h:j<l.length),K.rd (fun b=>S b∧v.ownBlock≠some b) w (zzpart xs j K.size) l[j]):OwnK K e base S w v (y::l):=by
 refine ⟨cs++xs,by simpa using ho,fun j hj=>?_⟩;cases j with
 | zero=>rw[zcE (K.len hy)];exact hy
 | succ j=>
  rw[zcC (K.len hy)];exact hr j (by simpa using hj)
theorem Sl.form2 {α:Type} {K:Kd α} {S:Nat→Prop} {w:World} {v:Value} {l:List α} (h:Sl K S w v l):∃a cap,v=.slice a l.length cap∧Ad S w a l.length cap∧l.length≤cap∧cap≤maxLen∧l.length≤140737488355328:=by
 obtain ⟨a,cap,h1,h2,h3,h4⟩:=h.form;exact ⟨a,cap,h1,h2,h3,h4,h.few⟩
end Go.Proofs.YtiabbjolepnjkaaGreat
namespace Go.Proofs.YtiabbjolepnjkaaGreat
section
variable {P:Program} {ops:Array Oper} {Q:Exit→Act→World→Prop} {md:Region.Mode} {S:World→Prop} {X:Nat→Bool}
def waitsB (md:Region.Mode) (ops:Array Oper):Nat→Nat→Nat→Bool
 | 0,_,_=>false
 | n+1,j,i=>match ops[j]? with | some o=>o.after.any (fun e=>Region.binds md e&&(e.on==i||waitsB md ops n e.on i)) | none=>false
def ClosedL (md:Region.Mode) (ops:Array Oper) (listed:Array Bool):Prop:=∀k ok,ops[k]? =some ok→listed.getD k true=true→∀e∈ok.after,Region.binds md e=true→listed.getD e.on true=true
theorem X5 {listed:Array Bool} (hc:ClosedL md ops listed) {i:Nat} (hi:listed.getD i true=false):∀(n j:Nat),waitsB md ops n j i=true→∃o,ops[j]? =some o∧∃e∈o.after,Region.binds md e=true∧listed.getD e.on true=false
 | 0,_,h=>by cases h
 | n+1,j,h=>by
  unfold waitsB at h;cases ho:ops[j]? with
  | none=>rw[ho]at h;cases h
  | some o=>
   rw[ho]at h;simp only at h;rw[Array.any_eq_true]at h;obtain ⟨k,hk,he⟩:=h;simp only[Bool.and_eq_true,Bool.or_eq_true,beq_iff_eq]at he;refine ⟨o,rfl,o.after[k],Array.getElem_mem hk,he.1,?_⟩;rcases he.2 with h2 | h2
   ·rw[h2];exact hi
   ·obtain ⟨o2,ho2,e2,he2,hb2,hl2⟩:=X5 hc hi n _ h2;cases hl:listed.getD (o.after[k]).on true with
    | false=>rfl
    | true=>
     have:=hc _ _ ho2 hl e2 he2 hb2;rw[hl2]at this;cases this
theorem zfd {listed:Array Bool} (hc:ClosedL md ops listed) {j:Nat} (hj:j∈Region.ready md ops listed):ClosedL md ops (listed.setIfInBounds j true):=by
 have up:∀q,listed.getD q true=true→(listed.setIfInBounds j true).getD q true=true:=fun q hq=>by
  by_cases e:j=q
  ·subst e;rcases Nat.lt_or_ge j listed.size with h | h
   ·simp[h]
   ·simp[Array.getElem?_eq_none (show (listed.setIfInBounds j true).size≤j by simpa using h)]
  ·rw[getD_set_ne true e];exact hq
 obtain ⟨_,oj,hoj,hall⟩:=mem_ready.1 hj;intro k ok hk hl e he hb;by_cases ejk:j=k
 ·subst ejk;rw[hoj]at hk;cases hk;have h1:=hall e he hb;refine up _ ?_;rcases Nat.lt_or_ge e.on listed.size with h' | h'
  ·simp[h']at h1 ⊢;exact h1
  ·simp[Array.getElem?_eq_none h']
 ·rw[getD_set_ne true ejk]at hl;exact up _ (hc k ok hk hl e he hb)
def waitForT (md:Region.Mode) (ops:Array Oper) (X:Nat→Bool) (i:Nat):Bool:=(List.range ops.size).all fun j=> !X j||waitsB md ops ops.size j i
theorem zdG {i:Nat} {oi:Oper} {v:Value} (hi:ops[i]? =some oi) (hsel:∀(j:Nat) (o:Oper) cs b,ops[j]? =some o→o.op≠.select cs b)
  (hX:waitForT md ops X i=true) (hQ:∀c a w,Q (.panic c) (a.put oi.dst v) w→Q (.panic c) a w):
  ∀(fuel:Nat) (listed:Array Bool) (a:Act) (w:World),ClosedL md ops listed→
   (∀j oj,ops[j]? =some oj→j≠i→listed.getD j true=false→(∀e∈oj.after,Region.binds md e=true→e.on≠i)→oi.apart ops oj=true)→
   i∈Region.ready md ops listed→YieldsIf P ops S oi v a→S w→
   AnyE P md ops Q S X fuel (listed.setIfInBounds i true) (a.put oi.dst v) w→AnyE P md ops Q S X (fuel+1) listed a w:=by
 intro fuel;induction fuel with
 | zero=>
  intro listed a w _ _ hr hy hS H;refine ⟨fun h=>(by rw[h]at hr;cases hr),fun j hj=>?_⟩;by_cases hji:j=i
  ·subst hji;exact hy.wpOp hi hS ⟨fun _=>hS,H⟩
  ·have:=ready_mono hj hji;rw[H.1]at this;cases this
 | succ fuel ih=>
  intro listed a w hc hfree hr hy hS H;refine ⟨fun h=>(by rw[h]at hr;cases hr),fun j hj=>?_⟩;by_cases hji:j=i
  ·subst hji;exact hy.wpOp hi hS ⟨fun _=>hS,H⟩
  ·have h1:=H.2 j (ready_mono hj hji);have hj2:=hj;obtain ⟨hjun,oj,hoj,hall⟩:=mem_ready.1 hj;have hun:listed.getD i true=false:=by simpa using (mem_ready.1 hr).1
   have tr:∀q,(listed.getD q true=true↔listed.getD q false=true∨listed.size≤q):=fun q=>by
    rcases Nat.lt_or_ge q listed.size with h' | h'
    ·simp[h'];omega
    ·simp[Array.getElem?_eq_none h',h']
   have hnot:∀e∈oj.after,Region.binds md e=true→e.on≠i:=fun e he hb heq=>by
    have k1:=hall e he hb;have k0:=(mem_ready.1 hr).1;rw[heq]at k1;rcases Nat.lt_or_ge i listed.size with h' | h'
    ·simp[h']at k0 k1;rw[k0]at k1;cases k1
    ·simp[Array.getElem?_eq_none h']at k1
   have hxj:X j=false:=by
    cases hx:X j with
    | false=>rfl
    | true=>
     have:=List.all_eq_true.1 hX j (List.mem_range.2 (Array.getElem?_eq_some_iff.1 hoj).1);rw[hx]at this;simp only[Bool.not_true,Bool.false_or]at this;obtain ⟨o2,ho2,e,he,hb,hl⟩:=X5 hc hun _ _ this;rw[hoj]at ho2;cases ho2;have k1:=hall e he hb;rcases Nat.lt_or_ge e.on listed.size with h' | h'
     ·simp[h']at k1 hl;rw[hl]at k1;cases k1
     ·simp[Array.getElem?_eq_none h']at k1
   have h2:=wpOp_putIf hoj (hfree j oj hoj hji hjun hnot) (fun cs b=>hsel i oi cs b hi) (fun cs b=>hsel j oj cs b hoj) hQ hy h1;refine wpOp_mono (fun a' w' h3=>⟨fun _=>h3.2.1 hxj,ih (listed.setIfInBounds j true) a' w' (zfd hc hj2) (fun k ok hk hki hun hno=>?_) (ready_mono hr (Ne.symm hji)) h3.1 (h3.2.1 hxj) ?_⟩) h2
   ·refine hfree k ok hk hki ?_ hno;by_cases hjk:j=k
    ·subst hjk;exact hjun
    ·rw[getD_set_ne true hjk]at hun;exact hun
   ·rw[Array.setIfInBounds_comm _ _ hji];exact h3.2.2
def closedB (md:Region.Mode) (ops:Array Oper) (listed:Array Bool):Bool:=
 (List.range ops.size).all fun k=> !listed.getD k true||(match ops[k]? with | some o=>o.after.all (fun e=> !Region.binds md e||listed.getD e.on true) | none=>true)
theorem zbU {listed:Array Bool} (h:closedB md ops listed=true):ClosedL md ops listed:=fun k ok hk hl e he hb=>by
 have:=List.all_eq_true.1 h k (List.mem_range.2 (Array.getElem?_eq_some_iff.1 hk).1);rw[hk,hl]at this;simp only[Bool.not_true,Bool.false_or]at this;rw[Array.all_eq_true]at this;obtain ⟨q,hq,rfl⟩:=Array.getElem_of_mem he;have:=this q hq;rw[hb]at this;simpa using this
theorem anyE_takeT {l:List Oper} (i:Nat) {oi:Oper} {v:Value} {fuel:Nat} {listed:Array Bool} {a:Act} {w:World} (hi:l[i]? =some oi)
  (hf:(Region.noSelect l.toArray&&(Region.free md l.toArray listed i&&((Region.ready md l.toArray listed).contains i&&(waitForT md l.toArray X i&&closedB md l.toArray listed))))=true)
  (hQ:∀c a w,Q (.panic c) (a.put oi.dst v) w→Q (.panic c) a w) (hw:Region.wanted oi (yielded l.toArray a.tmps)=true) (hy:∀w,S w→(execOp a.eval oi).run P w=.ok (.value v) w) (hS:S w)
  (h:AnyE P md l.toArray Q S X fuel (listed.setIfInBounds i true) (a.put oi.dst v) w):AnyE P md l.toArray Q S X (fuel+1) listed a w:=by
 simp only[Bool.and_eq_true]at hf;obtain ⟨h1,h2,h3,h4,h5⟩:=hf;have hi':l.toArray[i]? =some oi:=by simpa using hi
 exact zdG hi' (Region.noSelect_spec h1) h4 hQ fuel listed a w (zbU h5) (Region.free_spec hi' h2) (by simpa using h3) (.inl ⟨hw,hy⟩) hS h
theorem zu {P:Program} {Q:Exit→Act→World→Prop} {md:Region.Mode} {S:World→Prop} {X:Nat→Bool} {l:List Oper} (i:Nat) {oi:Oper} {v:Value} {fuel:Nat} {listed:Array Bool} {a a':Act} {w:World} (hS:S w) (h:AnyE P md l.toArray Q S X fuel (listed.setIfInBounds i true) a' w)
  (hi:l[i]? =some oi:=by rfl) (hf:(Region.noSelect l.toArray&&(Region.free md l.toArray listed i&&((Region.ready md l.toArray listed).contains i&&(waitForT md l.toArray X i&&closedB md l.toArray listed))))=true:=by kernel_rfl)
  (hQ:∀c a w,Q (.panic c) (a.put oi.dst v) w→Q (.panic c) a w:=by exact fun _ _ _ h=>h) (hw:Region.wanted oi (yielded l.toArray a.tmps)=true:=by rfl)
  (hy:∀w,S w→(execOp a.eval oi).run P w=.ok (.value v) w:=by (intro w hSw;(try dsimp only at hSw);go_simp;try with_reducible rfl))
  (ha:a.put oi.dst v=a':=by (try simp only[Act.put,zsa,zsz,zss]);exact rfl):AnyE P md l.toArray Q S X (fuel+1) listed a w:=by
 subst ha;exact anyE_takeT i hi hf hQ hw hy hS h
end
end Go.Proofs.YtiabbjolepnjkaaGreat
namespace Go.Proofs.YtiabbjolepnjkaaGreat
section
variable {K:Type} [DecidableEq K]
def addF (s:List K) (k:K):List K:=if k∈s then s else s++[k]
def firsts (l:List K):List K:=l.foldl addF []
def lab (l:List K) (k:K):Nat:=(firsts l).idxOf k
def labs (l:List K):List Int:=l.map fun k=>(lab l k:Int)
theorem xC (l:List K) (x:K):firsts (l++[x])=addF (firsts l) x:=by simp[firsts,List.foldl_append]
theorem zhy {s:List K} {x k:K}:k∈addF s x↔k∈s∨k=x:=by
 unfold addF;split
 ·rename_i h;exact ⟨.inl,fun h'=>h'.elim id (fun e=>e▸h)⟩
 ·simp
theorem Xx (l:List K):∀s:List K,∀k,k∈l.foldl addF s↔k∈s∨k∈l:=by
 induction l with
 | nil=>simp
 | cons x l ih=>intro s k;simp[ih,zhy,or_assoc]
theorem yc {l:List K} {k:K}:k∈firsts l↔k∈l:=by simp[firsts,Xx]
theorem zeL {s:List K} {x k:K} (h:k∈s):(s++[x]).idxOf k=s.idxOf k:=by rw[List.idxOf_append];simp[h]
theorem zgg {s:List K} {x:K} (h:x∉s):(s++[x]).idxOf x=s.length:=by rw[List.idxOf_append];simp[h]
theorem qN {l:List K} {x k:K} (h:k∈l):lab (l++[x]) k=lab l k:=by
 unfold lab;rw[xC];unfold addF;split
 ·rfl
 ·exact zeL (yc.2 h)
theorem Q8 {l:List K} {x:K} (h:x∉l):lab (l++[x]) x=(firsts l).length:=by
 unfold lab;rw[xC];unfold addF;rw[if_neg (fun h'=>h (yc.1 h'))];exact zgg (fun h'=>h (yc.1 h'))
theorem YE {l:List K} {x:K} (h:x∈l):firsts (l++[x])=firsts l:=by rw[xC];unfold addF;rw[if_pos (yc.2 h)]
theorem YX {l:List K} {x:K} (h:x∉l):firsts (l++[x])=firsts l++[x]:=by rw[xC];unfold addF;rw[if_neg (fun h'=>h (yc.1 h'))]
theorem Xz (s:List K) (x:K):(addF s x).length≤s.length+1:=by unfold addF;split<;>simp
theorem xR (l:List K):(firsts l).length≤l.length:=by
 have:∀(l s:List K),(l.foldl addF s).length≤s.length+l.length:=by
  intro l;induction l with
  | nil=>simp
  | cons x l ih=>intro s;have:=ih (addF s x);have:=Xz s x;simp;omega
 simpa[firsts] using this l []
theorem Yh (l:List K) (x:K):labs (l++[x])=labs l++[(lab (l++[x]) x:Int)]:=by
 unfold labs;rw[List.map_append];congr 1
 apply List.map_congr_left;intro k hk;rw[qN hk]
@[simp] theorem length_labs (l:List K):(labs l).length=l.length:=by simp[labs]
theorem zbJ {l:List K} {k:K} (h:k∈l):lab l k<(firsts l).length:=List.idxOf_lt_length_iff.2 (yc.2 h)
theorem zfK {l:List K} {j k:K} (hj:j∈l) (hk:k∈l) (h:lab l j=lab l k):j=k:=by
 unfold lab at h;have h1:=List.getElem_idxOf (x:=j) (xs:=firsts l) (List.idxOf_lt_length_iff.2 (yc.2 hj));have h2:=List.getElem_idxOf (x:=k) (xs:=firsts l) (List.idxOf_lt_length_iff.2 (yc.2 hk));rw[←h1,←h2];congr 1
end
end Go.Proofs.YtiabbjolepnjkaaGreat
namespace Go.Proofs.YtiabbjolepnjkaaGreat
section
variable {K:Type} [DecidableEq K]
def labMap (l:List K) (k:K):Option Value:=if k∈l then some (.int .i64 (lab l k)) else none
def labRow (l:List K) (n:Nat):List Value:=(labs l).map (Value.int .i64)++List.replicate (n - l.length) (.int .i64 0)
theorem zeJ:labMap ([]:List K)=fun _=>none:=by funext k;simp[labMap]
theorem zfc {l:List K} {x:K} (h:x∈l):labMap l x=some (.int .i64 (lab l x)):=by simp[labMap,h]
theorem zcY {l:List K} {x:K} (h:x∉l):labMap l x=none:=by simp[labMap,h]
theorem zeF {l:List K} {x:K} (h:x∈l):labMap (l++[x])=labMap l:=by
 funext k
 unfold labMap;by_cases hk:k∈l
 ·rw[if_pos hk,if_pos (by simp[hk]),qN hk]
 ·have:k≠x:=fun e=>hk (e▸h);rw[if_neg hk,if_neg (by simp[hk,this])]
theorem zfk {l:List K} {x:K} (h:x∉l):(fun z=>if z=x then some (Value.int .i64 ((firsts l).length:Int)) else labMap l z)=labMap (l++[x]):=by
 funext k
 by_cases e:k=x
 ·subst e;simp[labMap,Q8 h]
 ·rw[if_neg e];unfold labMap;by_cases hk:k∈l
  ·rw[if_pos hk,if_pos (by simp[hk]),qN hk]
  ·rw[if_neg hk,if_neg (by simp[hk,e])]
theorem zeU (n:Nat):labRow ([]:List K) n=List.replicate n (.int .i64 0):=by simp[labRow,labs]
theorem zdF (l:List K):labRow l l.length=(labs l).map (Value.int .i64):=by simp[labRow]
theorem XI {l:List K} {n:Nat} (h:l.length<n):(labRow l n)[l.length]? =some (.int .i64 0):=by
 unfold labRow;rw[List.getElem?_append_right (by simp)];have e:n - l.length=(n - l.length - 1)+1:=by omega
 rw[e,List.replicate_succ];simp
theorem zaa {l:List K} {x:K} {n:Nat} (h:l.length<n):(labRow l n).set l.length (.int .i64 (lab (l++[x]) x))=labRow (l++[x]) n:=by
 unfold labRow;rw[Yh,List.map_append,List.set_append_right _ _ (by simp)];have e:n - l.length=(n - (l++[x]).length)+1:=by simp;omega
 rw[e,List.replicate_succ];simp
end
theorem zjA {K:Type} [DecidableEq K] {l:List K} (h:l.length≤65536):∀x∈labs l,WF x:=by
 intro x hx;obtain ⟨k,hk,rfl⟩:=List.mem_map.1 hx;have:=zbJ hk;have:=xR l;exact WF.small (by omega)
end Go.Proofs.YtiabbjolepnjkaaGreat
namespace Go.Proofs.YtiabbjolepnjkaaGreat
open Go.RowKit
theorem info3:(Tryz.prog.info? 3).map (fun i=>(i.zero,i.size,i.bytes))=some (some (.int .i64 0),1,8):=by kernel_rfl
theorem Z7 (w:World):(zeroValue 3).run Tryz.prog w=.ok (.int .i64 0) w:=by kernel_rfl
noncomputable def keyInt:KeyB Tryz.prog 3 Int:=intKey Tryz.underlying3
theorem Xl {S:Nat→Prop} {w:World} {v:Value} {l:List Int} (h:Ints S w v l) (hlen:l.length≤65536):
  Calls Tryz.prog 78 #[v] w (Post w fun w' r=>Ints (fun b=>w.heap.size≤b) w' r (labs l)):=by
 obtain ⟨a,cap,rfl,ha,_,hm,hc,hf⟩:=h;clear hm;obtain ⟨i0,hi,hz0,hz1,hz2⟩:=info_parts info3;have hix:=zL Tryz.underlying36 hi hz1 ha;have hmm:=@run_makeMap Tryz.prog;have hmk:=run_make_row' 36 3 (.int .i64 0) 8 Tryz.underlying36 info3 rfl .i64 .i64 l.length (by omega) (by omega);clear hi hz0 hz1 hz2;go_enter Tryz.func78,Tryz.ntmps78;go_wp2;go_loopw [15] (fun i wr=>∃k:Nat,k≤l.length∧i=.int .i64 k∧Below w.heap.size w wr∧MapV keyInt wr w.heap.size (labMap (l.take k)) (firsts (l.take k)).length∧Row wr (w.heap.size+1) 3 (labRow (l.take k) l.length)) (fun i _=>l.length - (intOf i).toNat)
 case atStart=>
  refine ⟨0,by omega,rfl,((Below.refl _ _).alloc (Nat.le_refl _) _).alloc (by simp) _,?_,?_⟩
  ·rw[List.take_zero,zeJ];exact (MapV.made keyInt w).agree (Agree.of_grown (S:=fun b=>b=w.heap.size) (World.grownBy_alloc _ _ none) (by simp)) rfl
  ·rw[List.take_zero,zeU];have:=Row.made (w.alloc (.map #[] 0)) (.int .i64 0) l.length 3;simpa using this
 case round=>
  obtain ⟨k,hk,rfl,hb,hM,hR⟩:=hrel;have hd:=Yb ha hb hc;by_cases hlt:k<l.length
  ·have q:=hix k hlt;have p:=hd k hlt;have hwf:WF (nth l k):=hf _ (xN hlt);have HT:=zhd (qO hlt);have hB:=hb.size;have hs:=hM.lt;have HK:=zhd (show (l.take k).length=k by simp;omega);have hR0:=hR.cell (j:=k) (u:=.int .i64 0) (by have:=XI (l:=l.take k) (n:=l.length) (by rw[HK.out];omega);rw[HK.out]at this;exact this);have hRf:=hR.free k;have hFl:(firsts (l.take k)).length≤k:=by have:=xR (l.take k);rw[HK.out]at this;exact this
   by_cases hin:nth l k∈l.take k
   ·have hhit:=zhd (zfc hin);clear hix hd hc;go_wp2_with (at_lookup;refine qn rfl _ _ 91 rfl 3 Tryz.underlying91 (.int .i64 0) (Z7 _) rfl hM (nth l k) rfl hwf _ hhit.out ?_);go_roundw
    case rel=>
     have:=HK.out;refine ⟨k+1,by omega,by go_num,hb.setCell (by simp) _,?_,?_⟩
     ·rw[HT.out,zeF hin,YE hin];exact hM.agree (S:=fun b=>b=w.heap.size) (.of_grown (zj _ _ _ _) (by simp)) rfl
     ·rw[HT.out,←zaa (by rw[HK.out];exact hlt),HK.out,qN hin];exact hR.set k _
    case measure=>simp[intOf];omega
   ·have hmiss:=zhd (zcY hin);clear hix hd hc;go_wp2_with (first
     | (at_lookup;refine qF rfl _ _ 91 rfl 3 Tryz.underlying91 (.int .i64 0) (Z7 _) rfl hM (nth l k) rfl hwf hmiss.out ?_)
     | (at_len;refine zaR rfl _ 91 rfl 3 Tryz.underlying91 rfl hM ?_)
     | (at_mapUpdate;refine xe rfl _ _ _ 91 rfl 3 Tryz.underlying91 rfl hM (by unfold maxLen;omega) (nth l k) rfl hwf (.int .i64 ((firsts (l.take k)).length:Int)) rfl ?_;intro w1 hM1 hg1;have p1:=(hR.grown hg1 (by simp)).cell (j:=k) (u:=.int .i64 0) (by have:=XI (l:=l.take k) (n:=l.length) (by rw[HK.out];omega);rw[HK.out]at this;exact this);have p2:=(hR.grown hg1 (by simp)).free k))
    go_roundw
    case rel=>
     have:=HK.out;refine ⟨k+1,by omega,by go_num,(hb.grown hg1 hB (fun j hj=>by cases hj;exact Nat.le_refl _)).setCell (by simp) _,?_,?_⟩
     ·rw[hmiss.out,zfk hin]at hM1;rw[HT.out,YX hin];simpa using hM1.agree (S:=fun b=>b=w.heap.size) (.of_grown (zj _ _ _ _) (by simp)) rfl
     ·rw[HT.out,←zaa (by rw[HK.out];exact hlt),HK.out,Q8 hin];exact (hR.grown hg1 (by simp)).set k _
    case measure=>simp[intOf];omega
  ·have hk':k=l.length:=by omega
   subst hk';go_wp2;go_ret;rw[List.take_length,zdF]at hR;have:=hR.ints (by unfold maxLen;simp;omega) (zjA hlen);rw[length_labs]at this;exact .mk hb (this.mono (by intro b hb;omega))
def checkTo:List Int→Int→Int
 | [],_=>0
 | x::l,n=>if x<0 then 2 else if n<x then 14 else if x=n then checkTo l (n+1) else checkTo l n
def checkS (l:List Int):Int:=if 65536<l.length then 5 else checkTo l 0
theorem qB {l:List Int} {k:Nat} {m:Int} (hb:¬65536<l.length) (h:checkTo (l.drop k) m=checkTo l 0) {c:Int} (hc:checkTo (l.drop k) m=c):Value.int .i64 c=Value.int .i64 (checkS l):=by
 simp[checkS,hb,←h,hc]
theorem xO {S:Nat→Prop} {w:World} {v:Value} {l:List Int} (h:Ints S w v l):
  Calls Tryz.prog 48 #[v] w (Post w fun _ r=>r=.int .i64 (checkS l)):=by
 obtain ⟨a,cap,rfl,ha,h1,h2,hc,hf⟩:=h;unfold maxLen at h2;obtain ⟨i0,hi,hz0,hz1,hz2⟩:=info_parts zI;have hix:=zL Tryz.underlying36 hi hz1 ha;clear hi hz0 hz1 hz2;go_enter Tryz.func48,Tryz.ntmps48;by_cases hbig:65536<l.length
 ·go_wp2;go_ret;exact .same (by simp[checkS,hbig])
 ·go_wp2;go_loop [3,11] (fun n i=>∃k:Nat,∃m:Int,k≤l.length∧0≤m∧m≤k∧i=.int .i64 k∧n=.int .i64 m∧checkTo (l.drop k) m=checkTo l 0) (fun _ i=>l.length - (intOf i).toNat)
  case atStart=>exact ⟨0,0,by omega,by omega,by omega,rfl,rfl,rfl⟩
  case round=>
   obtain ⟨k,m,hk,hm0,hmk,rfl,rfl,hrel⟩:=hrel;have H:=zhd hrel;clear hrel;by_cases hlt:k<l.length
   ·have HS:=zhd (Z2 hlt);go_wp2
    ·go_ret;exact .same (qB hbig H.out (by rw[HS.out,checkTo,if_pos ‹_›]))
    ·go_ret;exact .same (qB hbig H.out (by rw[HS.out,checkTo,if_neg (by omega),if_pos ‹_›]))
    ·go_round
     case rel=>exact ⟨k+1,m+1,by omega,by omega,by omega,by go_num,rfl,by rw[←H.out,HS.out,checkTo,if_neg (by omega),if_neg (by omega),if_pos (beq_iff_eq.1 ‹_›)]⟩
     case measure=>simp[intOf];omega
    ·go_round
     case rel=>exact ⟨k+1,m,by omega,by omega,by omega,by go_num,rfl,by rw[←H.out,HS.out,checkTo,if_neg (by omega),if_neg (by omega),if_neg (beq_eq_false_iff_ne.1 ‹_›)]⟩
     case measure=>simp[intOf];omega
   ·go_wp2;go_ret;exact .same (qB hbig H.out (by rw[List.drop_of_length_le (by omega),checkTo]))
end Go.Proofs.YtiabbjolepnjkaaGreat
namespace Go.Proofs.YtiabbjolepnjkaaGreat
def numS (l:List Int):Int:=l.foldl (fun n x=>max n (x+1)) 0
theorem yX (l:List Int) (x:Int):numS (l++[x])=max (numS l) (x+1):=by simp[numS,List.foldl_append]
theorem yI (l:List Int):0≤numS l:=by
 have:∀(l:List Int) (n:Int),n≤l.foldl (fun n x=>max n (x+1)) n:=by
  intro l;induction l with
  | nil=>intro n;exact Int.le_refl _
  | cons x l ih=>intro n;exact Int.le_trans (Int.le_max_left _ _) (ih _)
 exact this l 0
def Good (l:List Int):Prop:=l.length≤65536∧∀i,i<l.length→0≤nth l i∧nth l i≤numS (l.take i)
theorem zhu (l:List Int):∀n k,n=l.length - k→k≤l.length→(checkTo (l.drop k) (numS (l.take k))=0↔∀i,k≤i→i<l.length→0≤nth l i∧nth l i≤numS (l.take i)):=by
 intro n;induction n with
 | zero=>
  intro k hn hk;have hk':k=l.length:=by omega
  subst hk';simp only[List.drop_length,checkTo,true_iff];intro i h1 h2;omega
 | succ n ih=>
  intro k hn hk;have hlt:k<l.length:=by omega
  have ihk:=ih (k+1) (by omega) (by omega);rw[Z2 hlt,checkTo];rw[qO hlt,yX]at ihk;constructor
  ·intro h;split at h
   ·cases h
   ·split at h
    ·cases h
    ·have hm:(if nth l k=numS (l.take k) then numS (l.take k)+1 else numS (l.take k))=max (numS (l.take k)) (nth l k+1):=by
      split<;>omega
     have h':checkTo (l.drop (k+1)) (max (numS (l.take k)) (nth l k+1))=0:=by
      rw[←hm];split at h<;>(rename_i hx;simpa[hx] using h)
     intro i h1 h2;by_cases hik:i=k
     ·subst hik;omega
     ·exact ihk.1 h' i (by omega) h2
  ·intro h;have hk0:=h k (Nat.le_refl _) hlt;rw[if_neg (by omega),if_neg (by omega)];have hm:(if nth l k=numS (l.take k) then numS (l.take k)+1 else numS (l.take k))=max (numS (l.take k)) (nth l k+1):=by
    split<;>omega
   have h':=ihk.2 (fun i h1 h2=>h i (by omega) h2);rw[←hm]at h';split<;>(rename_i hx;simpa[hx] using h')
theorem yf {l:List Int}:checkS l=0↔Good l:=by
 have:=zhu l l.length 0 (by omega) (by omega);simp only[List.drop_zero,List.take_zero]at this;unfold checkS Good;split
 ·constructor
  ·intro h;cases h
  ·intro h;omega
 ·rw[show (0:Int)=numS [] from rfl]at *;rw[this];constructor
  ·intro h;exact ⟨by omega,fun i hi=>h i (by omega) hi⟩
  ·intro h i _ hi;exact h.2 i hi
end Go.Proofs.YtiabbjolepnjkaaGreat
namespace Go.Proofs.YtiabbjolepnjkaaGreat
section
variable {K L:Type}
def keys (f:Nat→K) (n:Nat):List K:=(List.range n).map f
theorem zat {f:Nat→K} {n:Nat} {x:K}:x∈keys f n↔∃i,i<n∧f i=x:=by simp[keys]
@[simp] theorem length_keys (f:Nat→K) (n:Nat):(keys f n).length=n:=by simp[keys]
variable [DecidableEq K] [DecidableEq L]
omit [DecidableEq L] in
end
theorem qQ {K:Type} [DecidableEq K] {f:Nat→K} {n i j:Nat} (hi:i<n) (hj:j<n):nth (labs (keys f n)) i=nth (labs (keys f n)) j↔f i=f j:=by
 have e:∀k,k<n→nth (labs (keys f n)) k=(lab (keys f n) (f k):Int):=fun k hk=>by
  rw[yM (by simpa using hk)];simp[labs,keys]
 rw[e i hi,e j hj];constructor
 ·intro h;exact zfK (zat.2 ⟨i,hi,rfl⟩) (zat.2 ⟨j,hj,rfl⟩) (by omega)
 ·intro h;rw[h]
def Gen (a b:List Int) (i j:Nat):Prop:=
 ∀R:Nat→Nat→Prop,(∀i j,i<a.length→j<a.length→(nth a i=nth a j∨nth b i=nth b j)→R i j)→(∀i j,R i j→R j i)→(∀i j k,R i j→R j k→R i k)→R i j
noncomputable def least (a b:List Int) (i:Nat):Nat:=Classical.epsilon (Gen a b i)
noncomputable def joinS (a b:List Int):List Int:=labs (keys (least a b) a.length)
end Go.Proofs.YtiabbjolepnjkaaGreat
namespace Go.Proofs.YtiabbjolepnjkaaGreat
open Go.RowKit
def meetS (a b:List Int):List Int:=labs (a.zip b)
def RetL (B:Nat) (p:List Int×Int) (w':World) (r:Value):Prop:=∃v,r=.tuple #[v,.int .i64 p.2]∧Ints (fun b=>B≤b) w' v p.1
theorem RetL.nil (B:Nat) (w':World) {e e':Int} (h:e=e') {p:List Int×Int} (hp:p=([],e')):RetL B p w' (.tuple #[.slice none 0 0,e]):=by
 subst h hp;exact ⟨_,rfl,Ints.nil _ _⟩
theorem RetL.mk {B:Nat} {w':World} {v:Value} {l:List Int} {p:List Int×Int} (h:Ints (fun b=>B≤b) w' v l) (hp:p=(l,0)):RetL B p w' (.tuple #[v,.int .i64 0]):=by
 subst hp;exact ⟨_,rfl,h⟩
end Go.Proofs.YtiabbjolepnjkaaGreat
namespace Go.Proofs.YtiabbjolepnjkaaGreat
def idList (n:Nat):List Int:=(List.range n).map fun i:Nat=>(i:Int)
@[simp] theorem length_idList (n:Nat):(idList n).length=n:=by simp[idList]
theorem zjM {n i:Nat} (h:i<n):nth (idList n) i=i:=by simp[nth,idList,h]
theorem zeC {a b:List Int} (hl:b.length=a.length):meetS a b=labs (keys (fun i=>(nth a i,nth b i)) a.length):=by
 unfold meetS;congr 1
 apply List.ext_getElem
 ·simp;omega
 ·intro i h1 h2;simp at h1 h2;simp[keys,yM h2,yM (show i<b.length by omega)]
@[simp] theorem length_joinS (a b:List Int):(joinS a b).length=a.length:=by simp[joinS]
theorem ziy {a b:List Int} (hl:b.length=a.length):(meetS a b).length=a.length:=by rw[zeC hl];simp
end Go.Proofs.YtiabbjolepnjkaaGreat
