/- Part of the proof that the laws answer true for every input. -/
import Derived.Test.YtiabbjolepnjkaaGreatPDfA01
import Derived.Laws.StructEq
set_option linter.unusedSimpArgs false
set_option linter.unnecessarySimpa false
set_option linter.unusedVariables false
set_option maxRecDepth 100000
set_option maxHeartbeats 40000000
namespace Go.Proofs.YtiabbjolepnjkaaGreat
open Go.RowKit
theorem ye (W:World) (xs:List Value) (k:Nat) (v:Value) (h:xs[k]? =some v):(part 3 xs.toArray k).run Tryz.prog W=.ok v W:=by
 obtain ⟨i,hi,hz1,hz2,hz3⟩:=info_parts zI;have hs:((xs.toArray)[k]?)=some v:=by simpa using h
 simp[part,sizeOf,typeInfo,hi,hz2,Tryz.underlying3,run_underlying,hs]
def eqN (n:Nat) (a b:List Int):Bool:=allN (fun i=>nth a i==nth b i) n
theorem zfY {n:Nat} {a b:List Int}:eqN n a b=true↔∀i,i<n→nth a i=nth b i:=by
 unfold eqN;rw[qS];exact ⟨fun h i hi=>by simpa using h i hi,fun h i hi=>by simpa using h i hi⟩
theorem XL {n:Nat} {a b:List Int} (ha:a.length=n) (hb:b.length=n):eqN n a b=decide (a=b):=by
 rw[Bool.eq_iff_iff,zfY,decide_eq_true_eq];exact ⟨fun h=>zfw (by omega) (fun i hi=>h i (by omega)),fun h i _=>by rw[h]⟩
theorem zbe {n:Nat} {a b:List Int}:eqN n a b=decide (lexN a b n=0):=by
 rw[Bool.eq_iff_iff,zfY,decide_eq_true_eq,Xo]
def gL (a:List Int):Value:=(.agg #[nth a 0,nth a 1,nth a 2,nth a 3,nth a 4,nth a 5])
def rL (a:List Int):Value:=(.agg #[nth a 0,nth a 1,nth a 2,nth a 3,nth a 4,nth a 5,nth a 6])
def mL (a:List Int):Value:=(.agg #[nth a 0,nth a 1,nth a 2,nth a 3,nth a 4,nth a 5,nth a 6,nth a 7])
theorem zK {T:TypeId} {z:Nat} (h:(Tryz.prog.info? T).map (fun i=>i.size)=some z):∃i,Tryz.prog.info? T=some i∧i.size=z:=by
 cases h0:Tryz.prog.info? T with
 | none=>rw[h0]at h;cases h
 | some i=>rw[h0]at h;exact ⟨i,rfl,by simpa using h⟩
theorem YC (f:Nat→Int) {p:Nat} (hp:p<5) (W:World):(Instr.index 63 (.agg #[f 0,f 1,f 2,f 3,f 4]) (.int .i64 p)).run Tryz.prog W=.ok (.int .i64 (f p)) W:=by
 obtain ⟨i,hi,hz1,hz2,hz3⟩:=info_parts zI;have hP:=ye W [f 0,f 1,f 2,f 3,f 4] p (.int .i64 (f p)) (by rcases five hp with rfl | rfl | rfl | rfl | rfl<;>rfl);simp[Instr.index,asIntOf,run_underlying Tryz.underlying63,sizeOf,typeInfo,hi,hz2];rw[if_pos hp];exact hP
theorem XO (d:Nat) (f g:Nat→Int) (W:World):
  (Op.equalIn (d+2) 63 (.agg #[f 0,f 1,f 2,f 3,f 4]) (.agg #[g 0,g 1,g 2,g 3,g 4])).run Tryz.prog W
   =.ok (f 0==g 0&&(f 1==g 1&&(f 2==g 2&&(f 3==g 3&&f 4==g 4)))) W:=by
 obtain ⟨i,hi,hz1,hz2,hz3⟩:=info_parts zI;have pf0:∀W:World,(part 3 #[f 0,f 1,f 2,f 3,f 4] 0).run Tryz.prog W=.ok (.int .i64 (f 0)) W:=fun W=>ye W [f 0,f 1,f 2,f 3,f 4] 0 _ rfl;have pf1:∀W:World,(part 3 #[f 0,f 1,f 2,f 3,f 4] 1).run Tryz.prog W=.ok (.int .i64 (f 1)) W:=fun W=>ye W [f 0,f 1,f 2,f 3,f 4] 1 _ rfl;have pf2:∀W:World,(part 3 #[f 0,f 1,f 2,f 3,f 4] 2).run Tryz.prog W=.ok (.int .i64 (f 2)) W:=fun W=>ye W [f 0,f 1,f 2,f 3,f 4] 2 _ rfl;have pf3:∀W:World,(part 3 #[f 0,f 1,f 2,f 3,f 4] 3).run Tryz.prog W=.ok (.int .i64 (f 3)) W:=fun W=>ye W [f 0,f 1,f 2,f 3,f 4] 3 _ rfl;have pf4:∀W:World,(part 3 #[f 0,f 1,f 2,f 3,f 4] 4).run Tryz.prog W=.ok (.int .i64 (f 4)) W:=fun W=>ye W [f 0,f 1,f 2,f 3,f 4] 4 _ rfl;have pg0:∀W:World,(part 3 #[g 0,g 1,g 2,g 3,g 4] 0).run Tryz.prog W=.ok (.int .i64 (g 0)) W:=fun W=>ye W [g 0,g 1,g 2,g 3,g 4] 0 _ rfl;have pg1:∀W:World,(part 3 #[g 0,g 1,g 2,g 3,g 4] 1).run Tryz.prog W=.ok (.int .i64 (g 1)) W:=fun W=>ye W [g 0,g 1,g 2,g 3,g 4] 1 _ rfl;have pg2:∀W:World,(part 3 #[g 0,g 1,g 2,g 3,g 4] 2).run Tryz.prog W=.ok (.int .i64 (g 2)) W:=fun W=>ye W [g 0,g 1,g 2,g 3,g 4] 2 _ rfl;have pg3:∀W:World,(part 3 #[g 0,g 1,g 2,g 3,g 4] 3).run Tryz.prog W=.ok (.int .i64 (g 3)) W:=fun W=>ye W [g 0,g 1,g 2,g 3,g 4] 3 _ rfl;have pg4:∀W:World,(part 3 #[g 0,g 1,g 2,g 3,g 4] 4).run Tryz.prog W=.ok (.int .i64 (g 4)) W:=fun W=>ye W [g 0,g 1,g 2,g 3,g 4] 4 _ rfl;have he:∀(W:World) (a b:Int),(Op.equalIn (d+1) 3 (.int .i64 a) (.int .i64 b)).run Tryz.prog W=.ok (a==b) W:=fun W a b=>run_equalIn_int W d _ _ _ a b Tryz.underlying3;rw[Op.equalIn];simp[run_underlying Tryz.underlying63,sizeOf,typeInfo,hi,hz2,Std.Legacy.Range.forIn_eq_forIn_range',List.range',Std.Legacy.Range.size];simp only[pf0,pf1,pf2,pf3,pf4,pg0,pg1,pg2,pg3,pg4,he,Result.andThen_ok];cases f 0==g 0<;>cases f 1==g 1<;>cases f 2==g 2<;>cases f 3==g 3<;>cases f 4==g 4<;>rfl
theorem zi8 (W:World) (a:List Int):(part 63 #[nth a 0,nth a 1,nth a 2,nth a 3,nth a 4,nth a 5] 1).run Tryz.prog W=.ok (.agg #[nth a 1,nth a 2,nth a 3,nth a 4,nth a 5]) W:=by
 obtain ⟨i,hi,hz⟩:=zK (T:=63) (z:=5) (by kernel_rfl);simp[part,sizeOf,typeInfo,hi,hz,Tryz.underlying63,run_underlying]
theorem zjx (W:World) (a:List Int):(part 63 #[nth a 0,nth a 1,nth a 2,nth a 3,nth a 4,nth a 5,nth a 6,nth a 7] 3).run Tryz.prog W=.ok (.agg #[nth a 3,nth a 4,nth a 5,nth a 6,nth a 7]) W:=by
 obtain ⟨i,hi,hz⟩:=zK (T:=63) (z:=5) (by kernel_rfl);simp[part,sizeOf,typeInfo,hi,hz,Tryz.underlying63,run_underlying]
theorem zjc (W:World) (a:List Int):(part 151 #[nth a 0,nth a 1,nth a 2,nth a 3,nth a 4,nth a 5,nth a 6] 0).run Tryz.prog W=.ok (.agg #[nth a 0,nth a 1,nth a 2,nth a 3,nth a 4,nth a 5]) W:=by
 obtain ⟨i,hi,hz⟩:=zK (T:=151) (z:=6) (by kernel_rfl);simp[part,sizeOf,typeInfo,hi,hz,Tryz.underlying151,run_underlying]
theorem zji (W:World) (a:List Int):(part 153 #[nth a 0,nth a 1,nth a 2,nth a 3,nth a 4,nth a 5,nth a 6,nth a 7] 0).run Tryz.prog W=.ok (.agg #[nth a 0,nth a 1,nth a 2,nth a 3,nth a 4,nth a 5,nth a 6]) W:=by
 obtain ⟨i,hi,hz⟩:=zK (T:=153) (z:=7) (by kernel_rfl);simp[part,sizeOf,typeInfo,hi,hz,Tryz.underlying153,run_underlying]
theorem ZT (d:Nat) (a b:List Int) (W:World):(Op.equalIn (d+3) 151 (.agg #[nth a 0,nth a 1,nth a 2,nth a 3,nth a 4,nth a 5]) (.agg #[nth b 0,nth b 1,nth b 2,nth b 3,nth b 4,nth b 5])).run Tryz.prog W=.ok (eqN 6 a b) W:=by
 have hF : (Tryz.prog.fieldsOf 151).toList.map (fun f => (f.name, f.type, f.offset)) = [("N", 3, 0), ("Hears", 63, 1)] := by kernel_rfl
 rw[run_equalIn_struct W (d+2) 151 _ _ (by kernel_rfl) (by kernel_rfl)];obtain ⟨x0,x1,hab⟩:∃x0 x1,(Tryz.prog.fieldsOf 151).toList=[x0,x1]:=by
  have:=congrArg List.length hF;simp only[List.length_map,List.length_cons,List.length_nil]at this
  match h:(Tryz.prog.fieldsOf 151).toList,this with
  | [x0,x1],_=>exact ⟨x0,x1,rfl⟩
 rw[hab]at hF ⊢;simp only[List.map_cons,List.map_nil,List.cons.injEq,Prod.mk.injEq,and_true]at hF;obtain ⟨⟨n0,t0,o0⟩,n1,t1,o1⟩:=hF;have q0:∀(W:World) (a:List Int),(part 3 #[nth a 0,nth a 1,nth a 2,nth a 3,nth a 4,nth a 5] 0).run Tryz.prog W=.ok (.int .i64 (nth a 0)) W:=fun W a=>ye W [nth a 0,nth a 1,nth a 2,nth a 3,nth a 4,nth a 5] 0 _ rfl;have h5:=fun W=>XO d (fun i=>nth a (i+1)) (fun i=>nth b (i+1)) W;simp only[Nat.zero_add,Nat.reduceAdd]at h5;have he:∀(W:World) (a b:Int),(Op.equalIn (d+2) 3 (.int .i64 a) (.int .i64 b)).run Tryz.prog W=.ok (a==b) W:=fun W a b=>run_equalIn_int W (d+1) _ _ _ a b Tryz.underlying3;simp only[Op.eqFields,n0,t0,o0,q0,n1,t1,o1,zi8,h5,Sem.run_ite,Sem.run_bind,he,Result.andThen_ok,Sem.run_pure,ne_eq,String.reduceEq,not_false_eq_true,if_true];simp only[eqN,allN,Bool.true_and];cases nth a 0==nth b 0<;>cases nth a 1==nth b 1<;>cases nth a 2==nth b 2<;>cases nth a 3==nth b 3<;>cases nth a 4==nth b 4<;>cases nth a 5==nth b 5<;>rfl
theorem Yw (d:Nat) (a b:List Int) (W:World):(Op.equalIn (d+3) 65 (.agg #[nth a 0,nth a 1,nth a 2,nth a 3,nth a 4,nth a 5,nth a 6,nth a 7]) (.agg #[nth b 0,nth b 1,nth b 2,nth b 3,nth b 4,nth b 5,nth b 6,nth b 7])).run Tryz.prog W=.ok (eqN 8 a b) W:=by
 have hF : (Tryz.prog.fieldsOf 65).toList.map (fun f => (f.name, f.type, f.offset)) = [("Proc", 3, 0), ("Round", 3, 1), ("Input", 3, 2), ("Heard", 63, 3)] := by kernel_rfl
 rw[run_equalIn_struct W (d+2) 65 _ _ (by kernel_rfl) (by kernel_rfl)];obtain ⟨x0,x1,x2,x3,hab⟩:∃x0 x1 x2 x3,(Tryz.prog.fieldsOf 65).toList=[x0,x1,x2,x3]:=by
  have:=congrArg List.length hF;simp only[List.length_map,List.length_cons,List.length_nil]at this
  match h:(Tryz.prog.fieldsOf 65).toList,this with
  | [x0,x1,x2,x3],_=>exact ⟨x0,x1,x2,x3,rfl⟩
 rw[hab]at hF ⊢;simp only[List.map_cons,List.map_nil,List.cons.injEq,Prod.mk.injEq,and_true]at hF;obtain ⟨⟨n0,t0,o0⟩,⟨n1,t1,o1⟩,⟨n2,t2,o2⟩,n3,t3,o3⟩:=hF;have q0:∀(W:World) (a:List Int),(part 3 #[nth a 0,nth a 1,nth a 2,nth a 3,nth a 4,nth a 5,nth a 6,nth a 7] 0).run Tryz.prog W=.ok (.int .i64 (nth a 0)) W:=fun W a=>ye W [nth a 0,nth a 1,nth a 2,nth a 3,nth a 4,nth a 5,nth a 6,nth a 7] 0 _ rfl;have q1:∀(W:World) (a:List Int),(part 3 #[nth a 0,nth a 1,nth a 2,nth a 3,nth a 4,nth a 5,nth a 6,nth a 7] 1).run Tryz.prog W=.ok (.int .i64 (nth a 1)) W:=fun W a=>ye W [nth a 0,nth a 1,nth a 2,nth a 3,nth a 4,nth a 5,nth a 6,nth a 7] 1 _ rfl;have q2:∀(W:World) (a:List Int),(part 3 #[nth a 0,nth a 1,nth a 2,nth a 3,nth a 4,nth a 5,nth a 6,nth a 7] 2).run Tryz.prog W=.ok (.int .i64 (nth a 2)) W:=fun W a=>ye W [nth a 0,nth a 1,nth a 2,nth a 3,nth a 4,nth a 5,nth a 6,nth a 7] 2 _ rfl;have h5:=fun W=>XO d (fun i=>nth a (i+3)) (fun i=>nth b (i+3)) W;simp only[Nat.zero_add,Nat.reduceAdd]at h5;have he:∀(W:World) (a b:Int),(Op.equalIn (d+2) 3 (.int .i64 a) (.int .i64 b)).run Tryz.prog W=.ok (a==b) W:=fun W a b=>run_equalIn_int W (d+1) _ _ _ a b Tryz.underlying3;simp only[Op.eqFields,n0,t0,o0,q0,n1,t1,o1,q1,n2,t2,o2,q2,n3,t3,o3,zjx,h5,Sem.run_ite,Sem.run_bind,he,Result.andThen_ok,Sem.run_pure,ne_eq,String.reduceEq,not_false_eq_true,if_true];simp only[eqN,allN,Bool.true_and];simp only[Bool.and_assoc]
 generalize (nth a 3==nth b 3&&(nth a 4==nth b 4&&(nth a 5==nth b 5&&(nth a 6==nth b 6&&nth a 7==nth b 7))))=c
 cases nth a 0==nth b 0<;>cases nth a 1==nth b 1<;>cases nth a 2==nth b 2<;>cases c<;>rfl
theorem xD (d:Nat) (a b:List Int) (W:World):(Op.equalIn (d+4) 153 (.agg #[nth a 0,nth a 1,nth a 2,nth a 3,nth a 4,nth a 5,nth a 6]) (.agg #[nth b 0,nth b 1,nth b 2,nth b 3,nth b 4,nth b 5,nth b 6])).run Tryz.prog W=.ok (eqN 7 a b) W:=by
 have hF : (Tryz.prog.fieldsOf 153).toList.map (fun f => (f.name, f.type, f.offset)) = [("Graph", 151, 0), ("Faulty", 3, 6)] := by kernel_rfl
 rw[run_equalIn_struct W (d+3) 153 _ _ (by kernel_rfl) (by kernel_rfl)];obtain ⟨x0,x1,hab⟩:∃x0 x1,(Tryz.prog.fieldsOf 153).toList=[x0,x1]:=by
  have:=congrArg List.length hF;simp only[List.length_map,List.length_cons,List.length_nil]at this
  match h:(Tryz.prog.fieldsOf 153).toList,this with
  | [x0,x1],_=>exact ⟨x0,x1,rfl⟩
 rw[hab]at hF ⊢;simp only[List.map_cons,List.map_nil,List.cons.injEq,Prod.mk.injEq,and_true]at hF;obtain ⟨⟨n0,t0,o0⟩,n1,t1,o1⟩:=hF;have h5:=fun W=>ZT d a b W;have q1:∀(W:World) (a:List Int),(part 3 #[nth a 0,nth a 1,nth a 2,nth a 3,nth a 4,nth a 5,nth a 6] 6).run Tryz.prog W=.ok (.int .i64 (nth a 6)) W:=fun W a=>ye W [nth a 0,nth a 1,nth a 2,nth a 3,nth a 4,nth a 5,nth a 6] 6 _ rfl;have he:∀(W:World) (a b:Int),(Op.equalIn (d+3) 3 (.int .i64 a) (.int .i64 b)).run Tryz.prog W=.ok (a==b) W:=fun W a b=>run_equalIn_int W (d+2) _ _ _ a b Tryz.underlying3;simp only[Op.eqFields,n0,t0,o0,zjc,h5,n1,t1,o1,q1,Sem.run_ite,Sem.run_bind,he,Result.andThen_ok,Sem.run_pure,ne_eq,String.reduceEq,not_false_eq_true,if_true];simp only[eqN,allN,Bool.true_and];cases nth a 0==nth b 0<;>cases nth a 1==nth b 1<;>cases nth a 2==nth b 2<;>cases nth a 3==nth b 3<;>cases nth a 4==nth b 4<;>cases nth a 5==nth b 5<;>cases nth a 6==nth b 6<;>rfl
theorem zfj (d:Nat) (a b:List Int) (W:World):(Op.equalIn (d+5) 155 (.agg #[nth a 0,nth a 1,nth a 2,nth a 3,nth a 4,nth a 5,nth a 6,nth a 7]) (.agg #[nth b 0,nth b 1,nth b 2,nth b 3,nth b 4,nth b 5,nth b 6,nth b 7])).run Tryz.prog W=.ok (eqN 8 a b) W:=by
 have hF : (Tryz.prog.fieldsOf 155).toList.map (fun f => (f.name, f.type, f.offset)) = [("Round", 153, 0), ("To", 3, 7)] := by kernel_rfl
 rw[run_equalIn_struct W (d+4) 155 _ _ (by kernel_rfl) (by kernel_rfl)];obtain ⟨x0,x1,hab⟩:∃x0 x1,(Tryz.prog.fieldsOf 155).toList=[x0,x1]:=by
  have:=congrArg List.length hF;simp only[List.length_map,List.length_cons,List.length_nil]at this
  match h:(Tryz.prog.fieldsOf 155).toList,this with
  | [x0,x1],_=>exact ⟨x0,x1,rfl⟩
 rw[hab]at hF ⊢;simp only[List.map_cons,List.map_nil,List.cons.injEq,Prod.mk.injEq,and_true]at hF;obtain ⟨⟨n0,t0,o0⟩,n1,t1,o1⟩:=hF;have h5:=fun W=>xD d a b W;have q1:∀(W:World) (a:List Int),(part 3 #[nth a 0,nth a 1,nth a 2,nth a 3,nth a 4,nth a 5,nth a 6,nth a 7] 7).run Tryz.prog W=.ok (.int .i64 (nth a 7)) W:=fun W a=>ye W [nth a 0,nth a 1,nth a 2,nth a 3,nth a 4,nth a 5,nth a 6,nth a 7] 7 _ rfl;have he:∀(W:World) (a b:Int),(Op.equalIn (d+4) 3 (.int .i64 a) (.int .i64 b)).run Tryz.prog W=.ok (a==b) W:=fun W a b=>run_equalIn_int W (d+3) _ _ _ a b Tryz.underlying3;simp only[Op.eqFields,n0,t0,o0,zji,h5,n1,t1,o1,q1,Sem.run_ite,Sem.run_bind,he,Result.andThen_ok,Sem.run_pure,ne_eq,String.reduceEq,not_false_eq_true,if_true];simp only[eqN,allN,Bool.true_and];cases (((((((nth a 0==nth b 0&&nth a 1==nth b 1)&&nth a 2==nth b 2)&&nth a 3==nth b 3)&&nth a 4==nth b 4)&&nth a 5==nth b 5)&&nth a 6==nth b 6))<;>cases nth a 7==nth b 7<;>simp_all
end Go.Proofs.YtiabbjolepnjkaaGreat
namespace Go.Proofs.YtiabbjolepnjkaaGreat
open Go.RowKit
attribute [local go_sem ↓] Go.wp_at_zero Go.wp_at_succ
theorem zet (w:World) {n:Nat} (hn:n≤5):Calls Tryz.prog 201 #[n] w (QuietP w (.int .i64 ((2 ^ n:Nat) - 1:Int))):=by
 go_enter Tryz.func201,Tryz.ntmps201;go_wp2;go_ret;refine .of (zr ?_) 0;have:n=0∨n=1∨n=2∨n=3∨n=4∨n=5:=by omega
 rcases this with rfl | rfl | rfl | rfl | rfl | rfl<;>decide+kernel
theorem ziv {a p:Nat}:(bits .and .i64 ((a:Int) / 2 ^ p) 1==0)= !a.testBit p:=by
 have h:=zgj a p;have h1:bits .and .i64 ((a:Int) / 2 ^ p) 1=0∨bits .and .i64 ((a:Int) / 2 ^ p) 1=1:=by
  have h2:(BitVec.ofInt 64 1).toNat=2 ^ 1 - 1:=by decide
  have h3:((a:Int) / 2 ^ p)=((a / 2 ^ p:Nat):Int):=by simp
  have key:bits .and .i64 ((a / 2 ^ p:Nat):Int) 1=((a / 2 ^ p % 2:Nat):Int):=by
   show IntKind.i64.wrap ((BitVec.ofInt 64 ((a / 2 ^ p:Nat):Int)&&&BitVec.ofInt 64 1).toNat:Nat)=_;rw[BitVec.toNat_and,h2,Nat.and_two_pow_sub_one_eq_mod,BitVec.ofInt_natCast,BitVec.toNat_ofNat,IntKind.wrap_i64];omega
  rw[h3,key];omega
 rcases h1 with h1 | h1
 ·rw[h1]at h ⊢;rw[←h];rfl
 ·rw[h1]at h ⊢;rw[←h];rfl
def chkG (n:Int) (f:Nat→Int):Int:=if n<1∨5<n then 2 else firstE (fun p=>gAt n p (f p)) 5
theorem zfO {m:Nat} {f:Nat→Int} (h1:1≤m) (h5:m≤5):chkG m f=firstE (fun p=>gAt m p (f p)) 5:=by
 unfold chkG;rw[if_neg (by omega)]
theorem zaE {m p:Nat} {x:Int} (h:¬p<m):gAt m p x=if x=0 then 0 else 3:=by unfold gAt;rw[if_pos (by omega)]
theorem zfB {m p:Nat} {x:Int} (h:p<m) (hx:x<0):gAt m p x=2:=by unfold gAt;rw[if_neg (by omega),if_pos (.inl hx)]
theorem zgh {m p a:Nat} (h:p<m) (hx:2 ^ m≤a):gAt m p (a:Int)=2:=by
 unfold gAt;rw[if_neg (by omega),if_pos];right;show ((2 ^ m:Nat):Int) - 1<a;omega
theorem zf4 {m p a:Nat} (h:p<m) (hx:a<2 ^ m):gAt m p (a:Int)=if a.testBit p then 0 else 3:=by
 unfold gAt;rw[if_neg (by omega),if_neg]
 ·rfl
 ·show¬((a:Int)<0∨((2 ^ m:Nat):Int) - 1<a);omega
theorem zaG (w:World) (n:Int) (f:Nat→Int):Calls Tryz.prog 189 #[gV n f] w (Post w fun _ r=>r=.int .i64 (chkG n f)):=by
 unfold gV;have ex:=ze w (.cells #[n,f 0,f 1,f 2,f 3,f 4] 151);have rg:=Row.graph w n f;by_cases h1:n<1
 ·rw[show chkG n f=2 by unfold chkG;rw[if_pos (.inl h1)]];go_enter Tryz.func189,Tryz.ntmps189;go_wp2;go_ret;exact .mk ex rfl
 by_cases h2:5<n
 ·rw[show chkG n f=2 by unfold chkG;rw[if_pos (.inr h2)]];go_enter Tryz.func189,Tryz.ntmps189;go_wp2;go_ret;exact .mk ex rfl
 obtain ⟨m,rfl⟩:∃m:Nat,n=m:=⟨n.toNat,by omega⟩;rw[zfO (by omega) (by omega)];have HF:=zhd fun W=>((zdu W (show m≤5 by omega)).mono fun _ _ h=>h.take);obtain ⟨z,hz⟩:=zn (2 ^ m);have HZ:=zhd hz;have hzs:z≤32∧1≤z:=by rw[hz];exact xh (by omega)
 rw[←hz]at HF;clear hz;obtain ⟨hz1,hz2⟩:=hzs;obtain ⟨r,hr⟩:=zn (firstE (fun p=>gAt (m:Int) p (f p)) 5);rw[←hr];have HRR:=zhd hr;clear hr;have HI:=zhd fun p hp W=>YC f (p:=p) hp W;go_enter Tryz.func189,Tryz.ntmps189;go_wp2;go_loopw [3,4] (fun i _ wr=>∃k:Nat,k≤5∧i=.int .i64 k∧Below w.heap.size w wr∧Row wr w.heap.size 151 (gC m f)∧Hid (Zeros (fun p=>gAt (m:Int) p (f p)) k)) (fun i _ _=>5 - (intOf i).toNat)
 case atStart=>exact ⟨0,Nat.zero_le _,rfl,ex,rg,zhd (.zero _)⟩
 case round=>
  clear ex rg;obtain ⟨k,hk,rfl,hb,R,HG⟩:=hrel;by_cases hlt:k<5
  ·have q:=xu w.heap.size hlt;have ck:=R.hear hlt;obtain ⟨c0,_⟩:=R.six;have hW:=R.lt;obtain ⟨x,hx⟩:=zn (f k);rw[←hx]at ck;have NX:Hid (gAt (m:Int) k x=0→Zeros (fun p=>gAt (m:Int) p (f p)) (k+1)):=zhd fun h=>HG.out.next (by show gAt _ k (f k)=0;rw[←hx];exact h);have NO:Hid (∀e,gAt (m:Int) k x=e→e≠0→r=e):=zhd fun e h h0=>by
    rw[HRR.out];exact HG.out.stop (by show gAt _ k (f k)=e;rw[←hx];exact h) h0 hlt
   clear hx;by_cases hkm:k<m
   ·by_cases hx0:x<0
    ·have RR:=zhd (NO.out 2 (zfB hkm hx0) (by decide));go_wp2;go_ret;exact .mk hb (zr RR.out.symm)
    obtain ⟨a,rfl⟩:∃a:Nat,x=a:=⟨x.toNat,by omega⟩;by_cases hxz:z≤a
    ·have RR:=zhd (NO.out 2 (zgh hkm (by rw[←HZ.out];exact hxz)) (by decide));go_wp2_with fail;refine (HF.out _).mono ?_;rintro _ w1 ⟨_,rfl,hq1,rfl⟩;have hb1:=hb.trans (hq1.ext.mono hb.size);go_wp2;go_ret;exact .mk hb1 (zr RR.out.symm)
    ·have GB:=zf4 (m:=m) (p:=k) (a:=a) hkm (by rw[←HZ.out];omega);have KB:=zhd fun W=>((Ze W (show a<4294967296 by omega) (show k≤5 by omega)).mono fun _ _ h=>h.take);have BI:=ziv (a:=a) (p:=k);obtain ⟨b,hbb⟩:=zn (a.testBit k);rw[←hbb]at KB GB BI;have HGB:=zhd GB;have HBI:=zhd BI;clear hbb GB BI;go_wp2_with fail;refine (HF.out _).mono ?_;rintro _ w1 ⟨_,rfl,hq1,rfl⟩;have hb1:=hb.trans (hq1.ext.mono hb.size);have R1:=R.ext hq1.ext;clear q c0 ck;go_wp2_with fail;refine (KB.out _).mono ?_;rintro _ w2 ⟨_,rfl,hq2,rfl⟩;have hb2:=hb1.trans (hq2.ext.mono hb1.size);have R2:=R1.ext hq2.ext;cases b with
     | false=>
      have RR:=zhd (NO.out 3 (by rw[HGB.out];rfl) (by decide));go_wp2;go_ret;exact .mk hb2 (zr RR.out.symm)
     | true=>
      have HG2:=zhd (NX.out (by rw[HGB.out];rfl));go_wp2;go_roundw
      case rel=>exact ⟨k+1,by omega,by go_num,hb2,R2,HG2⟩
      case measure=>simp[intOf];omega
   ·by_cases hx0:x=0
    ·subst hx0;have HG2:=zhd (NX.out (by rw[zaE hkm];rfl));go_wp2;go_roundw
     case rel=>exact ⟨k+1,by omega,by go_num,hb,R,HG2⟩
     case measure=>simp[intOf];omega
    ·have hne:(x !=0)=true:=by simp[hx0]
     have RR:=zhd (NO.out 3 (by rw[zaE hkm,if_neg hx0]) (by decide));clear hx0;go_wp2;go_ret;exact .mk hb (zr RR.out.symm)
  ·obtain rfl:k=5:=by omega
   have RR:Hid (r=0):=zhd (by rw[HRR.out];exact HG.out.done (by omega));go_wp2;go_ret;exact .mk hb (zr RR.out.symm)
theorem zaD (w:World) (n:Int) (f:Nat→Int):Calls Tryz.prog 195 #[gV n f] w (Post w fun _ r=>r=.int .i64 (chkG n f)):=by
 unfold gV;have ex:=ze w (.cells #[n,f 0,f 1,f 2,f 3,f 4] 151);have rg:=Row.graph w n f;by_cases h1:n<1
 ·rw[show chkG n f=2 by unfold chkG;rw[if_pos (.inl h1)]];go_enter Tryz.func195,Tryz.ntmps195;go_wp2;go_ret;exact .mk ex rfl
 by_cases h2:5<n
 ·rw[show chkG n f=2 by unfold chkG;rw[if_pos (.inr h2)]];go_enter Tryz.func195,Tryz.ntmps195;go_wp2;go_ret;exact .mk ex rfl
 obtain ⟨m,rfl⟩:∃m:Nat,n=m:=⟨n.toNat,by omega⟩;rw[zfO (by omega) (by omega)];have HF:=zhd fun W=>((zet W (show m≤5 by omega)).mono fun _ _ h=>h.take);obtain ⟨z,hz⟩:=zn (2 ^ m);have HZ:=zhd hz;have hzs:z≤32∧1≤z:=by rw[hz];exact xh (by omega)
 rw[←hz]at HF;clear hz;obtain ⟨hz1,hz2⟩:=hzs;obtain ⟨r,hr⟩:=zn (firstE (fun p=>gAt (m:Int) p (f p)) 5);rw[←hr];have HRR:=zhd hr;clear hr;have HI:=zhd fun p hp W=>YC f (p:=p) hp W;go_enter Tryz.func195,Tryz.ntmps195;go_wp2;go_loopw [3,4,15] (fun _ _ i wr=>∃k:Nat,k≤5∧i=.int .i64 k∧Below w.heap.size w wr∧Row wr w.heap.size 151 (gC m f)∧Hid (Zeros (fun p=>gAt (m:Int) p (f p)) k)) (fun _ _ i _=>5 - (intOf i).toNat)
 case atStart=>exact ⟨0,Nat.zero_le _,rfl,ex,rg,zhd (.zero _)⟩
 case round=>
  clear ex rg;obtain ⟨k,hk,rfl,hb,R,HG⟩:=hrel;by_cases hlt:k<5
  ·have q:=HI.out k hlt;obtain ⟨c0,_⟩:=R.six;have hW:=R.lt;obtain ⟨x,hx⟩:=zn (f k);rw[←hx]at q;have NX:Hid (gAt (m:Int) k x=0→Zeros (fun p=>gAt (m:Int) p (f p)) (k+1)):=zhd fun h=>HG.out.next (by show gAt _ k (f k)=0;rw[←hx];exact h);have NO:Hid (∀e,gAt (m:Int) k x=e→e≠0→r=e):=zhd fun e h h0=>by
    rw[HRR.out];exact HG.out.stop (by show gAt _ k (f k)=e;rw[←hx];exact h) h0 hlt
   clear hx;by_cases hkm:k<m
   ·by_cases hx0:x<0
    ·have RR:=zhd (NO.out 2 (zfB hkm hx0) (by decide));go_wp2;go_ret;exact .mk hb (zr RR.out.symm)
    obtain ⟨a,rfl⟩:∃a:Nat,x=a:=⟨x.toNat,by omega⟩;by_cases hxz:z≤a
    ·have RR:=zhd (NO.out 2 (zgh hkm (by rw[←HZ.out];exact hxz)) (by decide));go_wp2_with fail;refine (HF.out _).mono ?_;rintro _ w1 ⟨_,rfl,hq1,rfl⟩;have hb1:=hb.trans (hq1.ext.mono hb.size);go_wp2;go_ret;exact .mk hb1 (zr RR.out.symm)
    ·have GB:=zf4 (m:=m) (p:=k) (a:=a) hkm (by rw[←HZ.out];omega);have KB:=zhd fun W=>((Ze W (show a<4294967296 by omega) (show k≤5 by omega)).mono fun _ _ h=>h.take);have BI:=ziv (a:=a) (p:=k);obtain ⟨b,hbb⟩:=zn (a.testBit k);rw[←hbb]at KB GB BI;have HGB:=zhd GB;have HBI:=zhd BI;clear hbb GB BI;go_wp2_with fail;refine (HF.out _).mono ?_;rintro _ w1 ⟨_,rfl,hq1,rfl⟩;have hb1:=hb.trans (hq1.ext.mono hb.size);have R1:=R.ext hq1.ext;clear q c0;have hb2:=hb1;have R2:=R1;have bi:=HBI.out;cases b with
     | false=>
      have RR:=zhd (NO.out 3 (by rw[HGB.out];rfl) (by decide));simp only[Bool.not_false]at bi;go_wp2;go_ret;exact .mk hb2 (zr RR.out.symm)
     | true=>
      have HG2:=zhd (NX.out (by rw[HGB.out];rfl));simp only[Bool.not_true]at bi;go_wp2;go_roundw
      case rel=>exact ⟨k+1,by omega,by go_num,hb2,R2,HG2⟩
      case measure=>simp[intOf];omega
   ·by_cases hx0:x=0
    ·subst hx0;have HG2:=zhd (NX.out (by rw[zaE hkm];rfl));go_wp2;go_roundw
     case rel=>exact ⟨k+1,by omega,by go_num,hb,R,HG2⟩
     case measure=>simp[intOf];omega
    ·have hne:(x !=0)=true:=by simp[hx0]
     have RR:=zhd (NO.out 3 (by rw[zaE hkm,if_neg hx0]) (by decide));clear hx0;go_wp2;go_ret;exact .mk hb (zr RR.out.symm)
  ·obtain rfl:k=5:=by omega
   have RR:Hid (r=0):=zhd (by rw[HRR.out];exact HG.out.done (by omega));go_wp2;go_ret;exact .mk hb (zr RR.out.symm)
theorem zaB (w:World) (l:List Int):Calls Tryz.prog 176 #[rL l] w (Post w fun _ r=>r=.int .i64 (checkR l)):=by
 have KG:Hid (∀W,Calls Tryz.prog 189 #[.agg #[nth l 0,nth l 1,nth l 2,nth l 3,nth l 4,nth l 5]] W (Post W fun _ r=>r=.int .i64 (checkG l))):=zhd fun W=>zaG W (nth l 0) fun p=>nth l (p+1);have KP:=zhd fun W=>((zki W (nth l 0) (nth l 6)).mono fun _ _ h=>h.take);unfold rL;have ex:=ze w (.cells #[nth l 0,nth l 1,nth l 2,nth l 3,nth l 4,nth l 5,nth l 6] 153);have R:Row (w.alloc (.cells #[nth l 0,nth l 1,nth l 2,nth l 3,nth l 4,nth l 5,nth l 6] 153)) w.heap.size 153 [nth l 0,nth l 1,nth l 2,nth l 3,nth l 4,nth l 5,nth l 6]:=zi w [nth l 0,nth l 1,nth l 2,nth l 3,nth l 4,nth l 5,nth l 6] _;by_cases h0:checkG l=0
 ·rw[show checkR l=checkP (nth l 0) (nth l 6) by unfold checkR;rw[if_pos h0]];rw[h0]at KG;clear h0;go_enter Tryz.func176,Tryz.ntmps176;go_wp2_with fail;refine (KG.out _).mono ?_;rintro _ w1 ⟨_,rfl,hb1,rfl⟩;have R1:=R.ext hb1;have c0:=R1.zc 0 rfl;have c6:=R1.zc 6 rfl;go_wp2_with fail;refine (KP.out _).mono ?_;rintro _ w2 ⟨_,rfl,hq2,rfl⟩;go_wp2;go_ret;exact .mk (za (za ex hb1) hq2.ext) rfl
 ·rw[show checkR l=checkG l by unfold checkR;rw[if_neg h0]];obtain ⟨x,hx⟩:=zn (checkG l);rw[←hx]at KG h0 ⊢;have e0:(x !=0)=true:=by simpa using h0
  clear h0 hx;go_enter Tryz.func176,Tryz.ntmps176;go_wp2_with fail;refine (KG.out _).mono ?_;rintro _ w1 ⟨_,rfl,hb1,rfl⟩;go_wp2;go_ret;exact .mk (za ex hb1) rfl
theorem zaV (w:World) (l:List Int):Calls Tryz.prog 186 #[rL l] w (Post w fun _ r=>r=.int .i64 (checkR l)):=by
 have KG:Hid (∀W,Calls Tryz.prog 195 #[.agg #[nth l 0,nth l 1,nth l 2,nth l 3,nth l 4,nth l 5]] W (Post W fun _ r=>r=.int .i64 (checkG l))):=zhd fun W=>zaD W (nth l 0) fun p=>nth l (p+1);have KP:=zhd fun W=>((zjX W (nth l 0) (nth l 6)).mono fun _ _ h=>h.take);unfold rL;have ex:=ze w (.cells #[nth l 0,nth l 1,nth l 2,nth l 3,nth l 4,nth l 5,nth l 6] 153);have R:Row (w.alloc (.cells #[nth l 0,nth l 1,nth l 2,nth l 3,nth l 4,nth l 5,nth l 6] 153)) w.heap.size 153 [nth l 0,nth l 1,nth l 2,nth l 3,nth l 4,nth l 5,nth l 6]:=zi w [nth l 0,nth l 1,nth l 2,nth l 3,nth l 4,nth l 5,nth l 6] _;by_cases h0:checkG l=0
 ·rw[show checkR l=checkP (nth l 0) (nth l 6) by unfold checkR;rw[if_pos h0]];rw[h0]at KG;clear h0;go_enter Tryz.func186,Tryz.ntmps186;go_wp2_with fail;refine (KG.out _).mono ?_;rintro _ w1 ⟨_,rfl,hb1,rfl⟩;have R1:=R.ext hb1;have c0:=R1.zc 0 rfl;have c6:=R1.zc 6 rfl;go_wp2_with fail;refine (KP.out _).mono ?_;rintro _ w2 ⟨_,rfl,hq2,rfl⟩;go_wp2;go_ret;exact .mk (za (za ex hb1) hq2.ext) rfl
 ·rw[show checkR l=checkG l by unfold checkR;rw[if_neg h0]];obtain ⟨x,hx⟩:=zn (checkG l);rw[←hx]at KG h0 ⊢;have e0:(x !=0)=true:=by simpa using h0
  clear h0 hx;go_enter Tryz.func186,Tryz.ntmps186;go_wp2_with fail;refine (KG.out _).mono ?_;rintro _ w1 ⟨_,rfl,hb1,rfl⟩;go_wp2;go_ret;exact .mk (za ex hb1) rfl
theorem zcx {a b:List Int} {n:Nat}:lexN a b (n+1)=if lexN a b n=0 then cmpI (nth a n) (nth b n) else lexN a b n:=rfl
theorem YJ {a b:List Int} {n:Nat} {x:Int} (hx:cmpI (nth a 0) (nth b 0)=x) (h0:x≠0) (hn:0<n):lexN a b n=x:=
 (Zeros.zero (fun i=>cmpI (nth a i) (nth b i))).stop hx h0 hn
theorem zds (w:World) (a b:List Int):Calls Tryz.prog 191 #[gL a,gL b] w (Post w fun _ r=>r=.int .i64 (lexN a b 6)):=by
 unfold gL;have ex:=zh (ze w (.cells #[nth a 0,nth a 1,nth a 2,nth a 3,nth a 4,nth a 5] 151)) (.cells #[nth b 0,nth b 1,nth b 2,nth b 3,nth b 4,nth b 5] 151);have R1:Row ((w.alloc (.cells #[nth a 0,nth a 1,nth a 2,nth a 3,nth a 4,nth a 5] 151)).alloc (.cells #[nth b 0,nth b 1,nth b 2,nth b 3,nth b 4,nth b 5] 151)) w.heap.size 151 [nth a 0,nth a 1,nth a 2,nth a 3,nth a 4,nth a 5]:=(zi w [nth a 0,nth a 1,nth a 2,nth a 3,nth a 4,nth a 5] _).alloc _;have R2:Row ((w.alloc (.cells #[nth a 0,nth a 1,nth a 2,nth a 3,nth a 4,nth a 5] 151)).alloc (.cells #[nth b 0,nth b 1,nth b 2,nth b 3,nth b 4,nth b 5] 151)) (w.heap.size+1) 151 [nth b 0,nth b 1,nth b 2,nth b 3,nth b 4,nth b 5]:=by
  have:=zi (w.alloc (.cells #[nth a 0,nth a 1,nth a 2,nth a 3,nth a 4,nth a 5] 151)) [nth b 0,nth b 1,nth b 2,nth b 3,nth b 4,nth b 5] 151
  rwa [World.size_alloc]at this
 by_cases h1:nth a 0<nth b 0
 ·rw[YJ (Yz h1) (by decide) (by decide)];go_enter Tryz.func191,Tryz.ntmps191;go_wp2;go_ret;exact .mk ex rfl
 by_cases h2:nth b 0<nth a 0
 ·rw[YJ (YW h2) (by decide) (by decide)];go_enter Tryz.func191,Tryz.ntmps191;go_wp2;go_ret;exact .mk ex rfl
 have HZ0:Hid (Zeros (fun i=>cmpI (nth a i) (nth b i)) 1):=zhd ((Zeros.zero _).next (Q9 h1 h2));have HRR:Hid (∀x k,Zeros (fun i=>cmpI (nth a i) (nth b i)) k→cmpI (nth a k) (nth b k)=x→x≠0→k<6→lexN a b 6=x):=zhd fun x k h hx h0 hk=>h.stop hx h0 hk;have HR0:Hid (∀k,Zeros (fun i=>cmpI (nth a i) (nth b i)) k→6≤k→lexN a b 6=0):=zhd fun k h hk=>h.done hk;obtain ⟨r,hr⟩:=zn (lexN a b 6);rw[←hr]at HRR HR0 ⊢;clear hr;go_enter Tryz.func191,Tryz.ntmps191;go_wp2;go_loopw [5] (fun i wr=>∃k:Nat,k≤5∧i=.int .i64 k∧Below w.heap.size w wr∧Row wr w.heap.size 151 [nth a 0,nth a 1,nth a 2,nth a 3,nth a 4,nth a 5]∧Row wr (w.heap.size+1) 151 [nth b 0,nth b 1,nth b 2,nth b 3,nth b 4,nth b 5]∧Hid (Zeros (fun i=>cmpI (nth a i) (nth b i)) (k+1))) (fun i _=>5 - (intOf i).toNat)
 case atStart=>exact ⟨0,Nat.zero_le _,rfl,ex,R1,R2,HZ0⟩
 case round=>
  clear ex R1 R2;obtain ⟨k,hk,rfl,hb,R1,R2,HG⟩:=hrel;by_cases hlt:k<5
  ·have q1:=xu w.heap.size hlt;have q2:=xu (w.heap.size+1) hlt;have p1:wr.cell? ⟨w.heap.size,1+k,none⟩=some (.int .i64 (nth a (k+1))):=by rcases five hlt with rfl | rfl | rfl | rfl | rfl<;>exact R1.cell rfl
   have p2:wr.cell? ⟨w.heap.size+1,1+k,none⟩=some (.int .i64 (nth b (k+1))):=by rcases five hlt with rfl | rfl | rfl | rfl | rfl<;>exact R2.cell rfl
   have NX:=zhd fun h=>HG.out.next (show cmpI (nth a (k+1)) (nth b (k+1))=0 from h);have NO:=zhd fun x (h:cmpI (nth a (k+1)) (nth b (k+1))=x) h0=>HRR.out x (k+1) HG.out h h0 (by omega);obtain ⟨x,hx⟩:=zn (nth a (k+1));obtain ⟨y,hy⟩:∃x,x=nth b (k+1):=⟨_,rfl⟩;rw[←hx]at p1 NX NO;rw[←hy]at p2 NX NO;clear hx hy;have w1:(0:Int)≤(k:Int):=by omega
   have w2:(k:Int)<5:=by omega
   by_cases hxy:x<y
   ·have RR:=zhd (NO.out (-1) (Yz hxy) (by decide));go_wp2;go_quiet (fail);go_wp2;go_ret;exact .mk (zv hb _) (zr RR.out.symm)
   by_cases hyx:y<x
   ·have RR:=zhd (NO.out 1 (YW hyx) (by decide));go_wp2;go_quiet (fail);go_wp2;go_quiet (fail);go_wp2;go_ret;exact .mk (by first | exact zv (zv hb _) _ | exact zv hb _) (zr RR.out.symm)
   ·have HG2:=zhd (NX.out (Q9 hxy hyx));go_wp2;go_quiet (fail);go_wp2;go_quiet (fail);go_wp2;go_roundw
    case rel=>exact ⟨k+1,by omega,by go_num,by first | exact zv (zv hb _) _ | exact zv hb _,R1,R2,HG2⟩
    case measure=>simp[intOf];omega
  ·obtain rfl:k=5:=by omega
   have RR:=zhd (HR0.out _ HG.out (by omega));go_wp2;go_ret;exact .mk hb (zr RR.out.symm)
theorem zcN (w:World) (a b:List Int):Calls Tryz.prog 197 #[gL a,gL b] w (Post w fun _ r=>r=.int .i64 (lexN a b 6)):=by
 have EQ:∀W:World,(Op.equalIn 10000 151 (.agg #[nth a 0,nth a 1,nth a 2,nth a 3,nth a 4,nth a 5]) (.agg #[nth b 0,nth b 1,nth b 2,nth b 3,nth b 4,nth b 5])).run Tryz.prog W=.ok (eqN 6 a b) W:=fun W=>ZT 9997 a b W;have EG:Tryz.prog.eqGuardType Tryz.prog.depth 151=false:=by kernel_rfl
 have KC:=zhd fun W x y=>((zhG W x y).mono fun _ _ h=>h.take);have KQ:=zhd fun W (n:Nat) x y=>zhG (World.drewN W n) x y;unfold gL;have ex:=zh (ze w (.cells #[nth a 0,nth a 1,nth a 2,nth a 3,nth a 4,nth a 5] 151)) (.cells #[nth b 0,nth b 1,nth b 2,nth b 3,nth b 4,nth b 5] 151);have R1:Row ((w.alloc (.cells #[nth a 0,nth a 1,nth a 2,nth a 3,nth a 4,nth a 5] 151)).alloc (.cells #[nth b 0,nth b 1,nth b 2,nth b 3,nth b 4,nth b 5] 151)) w.heap.size 151 [nth a 0,nth a 1,nth a 2,nth a 3,nth a 4,nth a 5]:=(zi w [nth a 0,nth a 1,nth a 2,nth a 3,nth a 4,nth a 5] _).alloc _;have R2:Row ((w.alloc (.cells #[nth a 0,nth a 1,nth a 2,nth a 3,nth a 4,nth a 5] 151)).alloc (.cells #[nth b 0,nth b 1,nth b 2,nth b 3,nth b 4,nth b 5] 151)) (w.heap.size+1) 151 [nth b 0,nth b 1,nth b 2,nth b 3,nth b 4,nth b 5]:=by
  have:=zi (w.alloc (.cells #[nth a 0,nth a 1,nth a 2,nth a 3,nth a 4,nth a 5] 151)) [nth b 0,nth b 1,nth b 2,nth b 3,nth b 4,nth b 5] 151
  rwa [World.size_alloc]at this
 by_cases he:lexN a b 6=0
 ·rw[he];rw[show eqN 6 a b=true by rw[zbe];simpa using he]at EQ;have e0:=EQ;clear he;go_enter Tryz.func197,Tryz.ntmps197;go_wp2;go_ret;exact .mk ex rfl
 rw[show eqN 6 a b=false by rw[zbe];simpa using he]at EQ;have HE:=zhd he;clear he;by_cases h1:nth a 0=nth b 0
 ·have e1:(nth a 0 !=nth b 0)=false:=by simp[h1]
  have HZ0:Hid (Zeros (fun i=>cmpI (nth a i) (nth b i)) 1):=zhd ((Zeros.zero _).next (qX.2 h1));have HRR:Hid (∀x k,Zeros (fun i=>cmpI (nth a i) (nth b i)) k→cmpI (nth a k) (nth b k)=x→x≠0→k<6→lexN a b 6=x):=zhd fun x k h hx h0 hk=>h.stop hx h0 hk;have HR0:Hid (∀k,Zeros (fun i=>cmpI (nth a i) (nth b i)) k→6≤k→lexN a b 6=0):=zhd fun k h hk=>h.done hk;obtain ⟨r,hr⟩:=zn (lexN a b 6);rw[←hr]at HRR HR0 HE ⊢;clear hr h1;go_enter Tryz.func197,Tryz.ntmps197;go_wp2;go_loopw [20] (fun i wr=>∃k:Nat,k≤5∧i=.int .i64 k∧Below w.heap.size w wr∧Row wr w.heap.size 151 [nth a 0,nth a 1,nth a 2,nth a 3,nth a 4,nth a 5]∧Row wr (w.heap.size+1) 151 [nth b 0,nth b 1,nth b 2,nth b 3,nth b 4,nth b 5]∧Hid (Zeros (fun i=>cmpI (nth a i) (nth b i)) (k+1))) (fun i _=>5 - (intOf i).toNat)
  case atStart=>exact ⟨0,Nat.zero_le _,rfl,ex,R1,R2,HZ0⟩
  case round=>
   clear ex R1 R2 EQ EG e1;obtain ⟨k,hk,rfl,hb,R1,R2,HG⟩:=hrel;by_cases hlt:k<5
   ·have q1:=xu w.heap.size hlt;have q2:=xu (w.heap.size+1) hlt;have p1:wr.cell? ⟨w.heap.size,1+k,none⟩=some (.int .i64 (nth a (k+1))):=by rcases five hlt with rfl | rfl | rfl | rfl | rfl<;>exact R1.cell rfl
    have p2:wr.cell? ⟨w.heap.size+1,1+k,none⟩=some (.int .i64 (nth b (k+1))):=by rcases five hlt with rfl | rfl | rfl | rfl | rfl<;>exact R2.cell rfl
    have NX:=zhd fun h=>HG.out.next (show cmpI (nth a (k+1)) (nth b (k+1))=0 from h);have NO:=zhd fun x (h:cmpI (nth a (k+1)) (nth b (k+1))=x) h0=>HRR.out x (k+1) HG.out h h0 (by omega);obtain ⟨x,hx⟩:=zn (nth a (k+1));obtain ⟨y,hy⟩:∃x,x=nth b (k+1):=⟨_,rfl⟩;rw[←hx]at p1 NX NO;rw[←hy]at p2 NX NO;have KW:=zhd fun n=>KQ.out wr n x y;obtain ⟨c,hc⟩:=zn (cmpI x y);rw[←hc]at KW NX NO;clear hx hy hc;have w1:(0:Int)≤(k:Int):=by omega
    have w2:(k:Int)<5:=by omega
    by_cases h0:c=0
    ·have HG2:=zhd (NX.out h0);subst h0;go_wp2;go_quiet ((go_at_call 183;exact zG (KW.out _)));go_wp2;go_roundw
     case rel=>exact ⟨k+1,by omega,by go_num,zv hb _,R1,R2,HG2⟩
     case measure=>simp[intOf];omega
    ·have RR:=zhd (NO.out c rfl h0);have e0:(c !=0)=true:=by simp[h0]
     clear h0;go_wp2;go_quiet ((go_at_call 183;exact zG (KW.out _)));go_wp2;go_ret;exact .mk (zv hb _) (zr RR.out.symm)
   ·obtain rfl:k=5:=by omega
    have RR:=zhd (HR0.out _ HG.out (by omega));go_wp2;go_ret;exact .mk hb (zr RR.out.symm)
 ·have e1:(nth a 0 !=nth b 0)=true:=by simp[h1]
  have hc0:cmpI (nth a 0) (nth b 0)≠0:=fun h=>h1 (qX.1 h);rw[YJ rfl hc0 (by decide)];clear h1 hc0;go_enter Tryz.func197,Tryz.ntmps197;go_wp2_with fail;refine (KC.out _ _ _).mono ?_;rintro _ w1 ⟨_,rfl,hq1,rfl⟩;go_wp2;go_ret;exact .mk (za ex hq1.ext) rfl
theorem zdq (w:World) (a b:List Int):Calls Tryz.prog 177 #[rL a,rL b] w (Post w fun _ r=>r=.int .i64 (lexN a b 7)):=by
 have KG:Hid (∀W,Calls Tryz.prog 191 #[.agg #[nth a 0,nth a 1,nth a 2,nth a 3,nth a 4,nth a 5],.agg #[nth b 0,nth b 1,nth b 2,nth b 3,nth b 4,nth b 5]] W (Post W fun _ r=>r=.int .i64 (lexN a b 6))):=zhd fun W=>zds W a b;have HS:Hid (lexN a b 7=if lexN a b 6=0 then cmpI (nth a 6) (nth b 6) else lexN a b 6):=zhd zcx;obtain ⟨g,hg⟩:=zn (lexN a b 6);rw[←hg]at KG HS;clear hg;unfold rL;have ex:=zh (ze w (.cells #[nth a 0,nth a 1,nth a 2,nth a 3,nth a 4,nth a 5,nth a 6] 153)) (.cells #[nth b 0,nth b 1,nth b 2,nth b 3,nth b 4,nth b 5,nth b 6] 153);have R1:Row ((w.alloc (.cells #[nth a 0,nth a 1,nth a 2,nth a 3,nth a 4,nth a 5,nth a 6] 153)).alloc (.cells #[nth b 0,nth b 1,nth b 2,nth b 3,nth b 4,nth b 5,nth b 6] 153)) w.heap.size 153 [nth a 0,nth a 1,nth a 2,nth a 3,nth a 4,nth a 5,nth a 6]:=(zi w [nth a 0,nth a 1,nth a 2,nth a 3,nth a 4,nth a 5,nth a 6] _).alloc _;have R2:Row ((w.alloc (.cells #[nth a 0,nth a 1,nth a 2,nth a 3,nth a 4,nth a 5,nth a 6] 153)).alloc (.cells #[nth b 0,nth b 1,nth b 2,nth b 3,nth b 4,nth b 5,nth b 6] 153)) (w.heap.size+1) 153 [nth b 0,nth b 1,nth b 2,nth b 3,nth b 4,nth b 5,nth b 6]:=by
  have:=zi (w.alloc (.cells #[nth a 0,nth a 1,nth a 2,nth a 3,nth a 4,nth a 5,nth a 6] 153)) [nth b 0,nth b 1,nth b 2,nth b 3,nth b 4,nth b 5,nth b 6] 153
  rwa [World.size_alloc]at this
 by_cases h0:g=0
 ·subst h0;rw[show lexN a b 7=cmpI (nth a 6) (nth b 6) by rw[HS.out,if_pos rfl]];have go:∀z:Int,cmpI (nth a 6) (nth b 6)=z→(nth a 6<nth b 6↔z= -1)∧(nth b 6<nth a 6↔z=1)∧(z= -1∨z=0∨z=1):=fun z hz=>by
   subst hz;unfold cmpI;split
   ·constructor<;>simp_all;omega
   ·split<;>simp_all
  by_cases h1:nth a 6<nth b 6
  ·rw[Yz h1];clear go;go_enter Tryz.func177,Tryz.ntmps177;go_wp2_with fail;refine (KG.out _).mono ?_;rintro _ w1 ⟨_,rfl,hb1,rfl⟩;have c6:=(R1.ext hb1).zc 6 rfl;have d6:=(R2.ext hb1).zc 6 rfl;go_wp2;go_ret;exact .mk (za ex hb1) rfl
  by_cases h2:nth b 6<nth a 6
  ·rw[YW h2];clear go;go_enter Tryz.func177,Tryz.ntmps177;go_wp2_with fail;refine (KG.out _).mono ?_;rintro _ w1 ⟨_,rfl,hb1,rfl⟩;have c6:=(R1.ext hb1).zc 6 rfl;have d6:=(R2.ext hb1).zc 6 rfl;go_wp2;go_ret;exact .mk (za ex hb1) rfl
  ·rw[Q9 h1 h2];clear go;go_enter Tryz.func177,Tryz.ntmps177;go_wp2_with fail;refine (KG.out _).mono ?_;rintro _ w1 ⟨_,rfl,hb1,rfl⟩;have c6:=(R1.ext hb1).zc 6 rfl;have d6:=(R2.ext hb1).zc 6 rfl;go_wp2;go_ret;exact .mk (za ex hb1) rfl
 ·rw[show lexN a b 7=g by rw[HS.out,if_neg h0]];have e0:(g !=0)=true:=by simp[h0]
  clear h0;go_enter Tryz.func177,Tryz.ntmps177;go_wp2_with fail;refine (KG.out _).mono ?_;rintro _ w1 ⟨_,rfl,hb1,rfl⟩;go_wp2;go_ret;exact .mk (za ex hb1) rfl
theorem zda (w:World) (a b:List Int):Calls Tryz.prog 187 #[rL a,rL b] w (Post w fun _ r=>r=.int .i64 (lexN a b 7)):=by
 have KG:Hid (∀W,Calls Tryz.prog 197 #[.agg #[nth a 0,nth a 1,nth a 2,nth a 3,nth a 4,nth a 5],.agg #[nth b 0,nth b 1,nth b 2,nth b 3,nth b 4,nth b 5]] W (Post W fun _ r=>r=.int .i64 (lexN a b 6))):=zhd fun W=>zcN W a b;have KC:=zhd fun W=>((zhG W (nth a 6) (nth b 6)).mono fun _ _ h=>h.take);have HS:Hid (lexN a b 7=if lexN a b 6=0 then cmpI (nth a 6) (nth b 6) else lexN a b 6):=zhd zcx;have EQ:∀W:World,(Op.equalIn 10000 153 (.agg #[nth a 0,nth a 1,nth a 2,nth a 3,nth a 4,nth a 5,nth a 6]) (.agg #[nth b 0,nth b 1,nth b 2,nth b 3,nth b 4,nth b 5,nth b 6])).run Tryz.prog W=.ok (decide (lexN a b 7=0)) W:=fun W=>by rw[←zbe];exact xD 9996 a b W
 have EQ2:∀W:World,(Op.equalIn 10000 151 (.agg #[nth a 0,nth a 1,nth a 2,nth a 3,nth a 4,nth a 5]) (.agg #[nth b 0,nth b 1,nth b 2,nth b 3,nth b 4,nth b 5])).run Tryz.prog W=.ok (decide (lexN a b 6=0)) W:=fun W=>by rw[←zbe];exact ZT 9997 a b W
 have EG:Tryz.prog.eqGuardType Tryz.prog.depth 153=false:=by kernel_rfl
 have EG2:Tryz.prog.eqGuardType Tryz.prog.depth 151=false:=by kernel_rfl
 obtain ⟨g,hg⟩:=zn (lexN a b 6);obtain ⟨z,hz⟩:∃g,g=lexN a b 7:=⟨_,rfl⟩;obtain ⟨c,hc⟩:∃g,g=cmpI (nth a 6) (nth b 6):=⟨_,rfl⟩;rw[←hg]at KG HS EQ2;rw[←hz]at HS EQ ⊢;rw[←hc]at KC HS;clear hg hz hc;unfold rL;have ex:=zh (ze w (.cells #[nth a 0,nth a 1,nth a 2,nth a 3,nth a 4,nth a 5,nth a 6] 153)) (.cells #[nth b 0,nth b 1,nth b 2,nth b 3,nth b 4,nth b 5,nth b 6] 153);have R1:Row ((w.alloc (.cells #[nth a 0,nth a 1,nth a 2,nth a 3,nth a 4,nth a 5,nth a 6] 153)).alloc (.cells #[nth b 0,nth b 1,nth b 2,nth b 3,nth b 4,nth b 5,nth b 6] 153)) w.heap.size 153 [nth a 0,nth a 1,nth a 2,nth a 3,nth a 4,nth a 5,nth a 6]:=(zi w [nth a 0,nth a 1,nth a 2,nth a 3,nth a 4,nth a 5,nth a 6] _).alloc _;have R2:Row ((w.alloc (.cells #[nth a 0,nth a 1,nth a 2,nth a 3,nth a 4,nth a 5,nth a 6] 153)).alloc (.cells #[nth b 0,nth b 1,nth b 2,nth b 3,nth b 4,nth b 5,nth b 6] 153)) (w.heap.size+1) 153 [nth b 0,nth b 1,nth b 2,nth b 3,nth b 4,nth b 5,nth b 6]:=by
  have:=zi (w.alloc (.cells #[nth a 0,nth a 1,nth a 2,nth a 3,nth a 4,nth a 5,nth a 6] 153)) [nth b 0,nth b 1,nth b 2,nth b 3,nth b 4,nth b 5,nth b 6] 153
  rwa [World.size_alloc]at this
 by_cases hz:z=0
 ·rw[decide_eq_true hz]at EQ;subst hz;clear EQ2 EG2;go_enter Tryz.func187,Tryz.ntmps187;go_wp2;go_ret;exact .mk ex rfl
 rw[decide_eq_false hz]at EQ;by_cases h0:g=0
 ·rw[decide_eq_true h0]at EQ2;have HZC:Hid (z=c):=zhd (by rw[HS.out,if_pos h0]);clear hz h0;go_enter Tryz.func187,Tryz.ntmps187;go_wp2_with fail;refine (KC.out _).mono ?_;rintro _ w1 ⟨_,rfl,hq1,rfl⟩;go_wp2;go_ret;exact .mk (za ex hq1.ext) (zr HZC.out.symm)
 ·rw[decide_eq_false h0]at EQ2;have HZC:Hid (z=g):=zhd (by rw[HS.out,if_neg h0]);clear hz h0;go_enter Tryz.func187,Tryz.ntmps187;go_wp2_with fail;refine (KG.out _).mono ?_;rintro _ w1 ⟨_,rfl,hb1,rfl⟩;go_wp2;go_ret;exact .mk (za ex hb1) (zr HZC.out.symm)
end Go.Proofs.YtiabbjolepnjkaaGreat
