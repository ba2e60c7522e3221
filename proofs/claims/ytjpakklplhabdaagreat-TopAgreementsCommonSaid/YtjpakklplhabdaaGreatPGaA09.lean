/- Part of the proof that the laws answer true for every input. -/
import Derived.Test.YtjpakklplhabdaaGreatPGaA08
import Derived.Laws.StructEq
set_option linter.unusedSimpArgs false
set_option linter.unnecessarySimpa false
set_option linter.unusedVariables false
set_option maxRecDepth 100000
set_option maxHeartbeats 40000000
namespace Go.Proofs.YtjpakklplhabdaaGreat
open Go.RowKit
theorem zP (W:World) (xs:List Value) (k:Nat) (v:Value) (h:xs[k]? =some v):(part 3 xs.toArray k).run Tryz.prog W=.ok v W:=by
 obtain ⟨i,hi,hz1,hz2,hz3⟩:=info_parts zC
 have hs:((xs.toArray)[k]?)=some v:=by simpa using h
 simp[part,sizeOf,typeInfo,hi,hz2,Tryz.underlying3,run_underlying,hs]
def eqN (n:Nat) (a b:List Int):Bool:=allN (fun i=>nth a i==nth b i) n
theorem zb7 {n:Nat} {a b:List Int}:eqN n a b=true↔∀i,i<n→nth a i=nth b i:=by
 unfold eqN;rw[yG]
 exact ⟨fun h i hi=>by simpa using h i hi,fun h i hi=>by simpa using h i hi⟩
theorem Yf {n:Nat} {a b:List Int} (ha:a.length=n) (hb:b.length=n):eqN n a b=decide (a=b):=by
 rw[Bool.eq_iff_iff,zb7,decide_eq_true_eq]
 exact ⟨fun h=>zcm (by omega) (fun i hi=>h i (by omega)),fun h i _=>by rw[h]⟩
theorem YS {n:Nat} {a b:List Int}:eqN n a b=decide (lexN a b n=0):=by
 rw[Bool.eq_iff_iff,zb7,decide_eq_true_eq,ZG]
def gL (a:List Int):Value:=(.agg #[.int .i64 (nth a 0),.int .i64 (nth a 1),.int .i64 (nth a 2),.int .i64 (nth a 3),.int .i64 (nth a 4),.int .i64 (nth a 5)])
def rL (a:List Int):Value:=(.agg #[.int .i64 (nth a 0),.int .i64 (nth a 1),.int .i64 (nth a 2),.int .i64 (nth a 3),.int .i64 (nth a 4),.int .i64 (nth a 5),.int .i64 (nth a 6)])
def mL (a:List Int):Value:=(.agg #[.int .i64 (nth a 0),.int .i64 (nth a 1),.int .i64 (nth a 2),.int .i64 (nth a 3),.int .i64 (nth a 4),.int .i64 (nth a 5),.int .i64 (nth a 6),.int .i64 (nth a 7)])
theorem zL {T:TypeId} {z:Nat} (h:(Tryz.prog.info? T).map (fun i=>i.size)=some z):∃i,Tryz.prog.info? T=some i∧i.size=z:=by
 cases h0:Tryz.prog.info? T with
 | none=>rw[h0]at h;cases h
 | some i=>rw[h0]at h;exact ⟨i,rfl,by simpa using h⟩
theorem Ym (f:Nat→Int) {p:Nat} (hp:p<5) (W:World):(Instr.index 63 (.agg #[.int .i64 (f 0),.int .i64 (f 1),.int .i64 (f 2),.int .i64 (f 3),.int .i64 (f 4)]) (.int .i64 p)).run Tryz.prog W=.ok (.int .i64 (f p)) W:=by
 obtain ⟨i,hi,hz1,hz2,hz3⟩:=info_parts zC
 have hP:=zP W [.int .i64 (f 0),.int .i64 (f 1),.int .i64 (f 2),.int .i64 (f 3),.int .i64 (f 4)] p (.int .i64 (f p)) (by rcases five hp with rfl | rfl | rfl | rfl | rfl<;>rfl)
 simp[Instr.index,asIntOf,run_underlying Tryz.underlying63,sizeOf,typeInfo,hi,hz2]
 rw[if_pos hp]
 exact hP
theorem Yp (d:Nat) (f g:Nat→Int) (W:World):
  (Op.equalIn (d+2) 63 (.agg #[.int .i64 (f 0),.int .i64 (f 1),.int .i64 (f 2),.int .i64 (f 3),.int .i64 (f 4)]) (.agg #[.int .i64 (g 0),.int .i64 (g 1),.int .i64 (g 2),.int .i64 (g 3),.int .i64 (g 4)])).run Tryz.prog W
   =.ok (f 0==g 0&&(f 1==g 1&&(f 2==g 2&&(f 3==g 3&&f 4==g 4)))) W:=by
 obtain ⟨i,hi,hz1,hz2,hz3⟩:=info_parts zC
 have pf0:∀W:World,(part 3 #[.int .i64 (f 0),.int .i64 (f 1),.int .i64 (f 2),.int .i64 (f 3),.int .i64 (f 4)] 0).run Tryz.prog W=.ok (.int .i64 (f 0)) W:=fun W=>zP W [.int .i64 (f 0),.int .i64 (f 1),.int .i64 (f 2),.int .i64 (f 3),.int .i64 (f 4)] 0 _ rfl
 have pf1:∀W:World,(part 3 #[.int .i64 (f 0),.int .i64 (f 1),.int .i64 (f 2),.int .i64 (f 3),.int .i64 (f 4)] 1).run Tryz.prog W=.ok (.int .i64 (f 1)) W:=fun W=>zP W [.int .i64 (f 0),.int .i64 (f 1),.int .i64 (f 2),.int .i64 (f 3),.int .i64 (f 4)] 1 _ rfl
 have pf2:∀W:World,(part 3 #[.int .i64 (f 0),.int .i64 (f 1),.int .i64 (f 2),.int .i64 (f 3),.int .i64 (f 4)] 2).run Tryz.prog W=.ok (.int .i64 (f 2)) W:=fun W=>zP W [.int .i64 (f 0),.int .i64 (f 1),.int .i64 (f 2),.int .i64 (f 3),.int .i64 (f 4)] 2 _ rfl
 have pf3:∀W:World,(part 3 #[.int .i64 (f 0),.int .i64 (f 1),.int .i64 (f 2),.int .i64 (f 3),.int .i64 (f 4)] 3).run Tryz.prog W=.ok (.int .i64 (f 3)) W:=fun W=>zP W [.int .i64 (f 0),.int .i64 (f 1),.int .i64 (f 2),.int .i64 (f 3),.int .i64 (f 4)] 3 _ rfl
 have pf4:∀W:World,(part 3 #[.int .i64 (f 0),.int .i64 (f 1),.int .i64 (f 2),.int .i64 (f 3),.int .i64 (f 4)] 4).run Tryz.prog W=.ok (.int .i64 (f 4)) W:=fun W=>zP W [.int .i64 (f 0),.int .i64 (f 1),.int .i64 (f 2),.int .i64 (f 3),.int .i64 (f 4)] 4 _ rfl
 have pg0:∀W:World,(part 3 #[.int .i64 (g 0),.int .i64 (g 1),.int .i64 (g 2),.int .i64 (g 3),.int .i64 (g 4)] 0).run Tryz.prog W=.ok (.int .i64 (g 0)) W:=fun W=>zP W [.int .i64 (g 0),.int .i64 (g 1),.int .i64 (g 2),.int .i64 (g 3),.int .i64 (g 4)] 0 _ rfl
 have pg1:∀W:World,(part 3 #[.int .i64 (g 0),.int .i64 (g 1),.int .i64 (g 2),.int .i64 (g 3),.int .i64 (g 4)] 1).run Tryz.prog W=.ok (.int .i64 (g 1)) W:=fun W=>zP W [.int .i64 (g 0),.int .i64 (g 1),.int .i64 (g 2),.int .i64 (g 3),.int .i64 (g 4)] 1 _ rfl
 have pg2:∀W:World,(part 3 #[.int .i64 (g 0),.int .i64 (g 1),.int .i64 (g 2),.int .i64 (g 3),.int .i64 (g 4)] 2).run Tryz.prog W=.ok (.int .i64 (g 2)) W:=fun W=>zP W [.int .i64 (g 0),.int .i64 (g 1),.int .i64 (g 2),.int .i64 (g 3),.int .i64 (g 4)] 2 _ rfl
 have pg3:∀W:World,(part 3 #[.int .i64 (g 0),.int .i64 (g 1),.int .i64 (g 2),.int .i64 (g 3),.int .i64 (g 4)] 3).run Tryz.prog W=.ok (.int .i64 (g 3)) W:=fun W=>zP W [.int .i64 (g 0),.int .i64 (g 1),.int .i64 (g 2),.int .i64 (g 3),.int .i64 (g 4)] 3 _ rfl
 have pg4:∀W:World,(part 3 #[.int .i64 (g 0),.int .i64 (g 1),.int .i64 (g 2),.int .i64 (g 3),.int .i64 (g 4)] 4).run Tryz.prog W=.ok (.int .i64 (g 4)) W:=fun W=>zP W [.int .i64 (g 0),.int .i64 (g 1),.int .i64 (g 2),.int .i64 (g 3),.int .i64 (g 4)] 4 _ rfl
 have he:∀(W:World) (a b:Int),(Op.equalIn (d+1) 3 (.int .i64 a) (.int .i64 b)).run Tryz.prog W=.ok (a==b) W:=fun W a b=>run_equalIn_int W d _ _ _ a b Tryz.underlying3
 rw[Op.equalIn]
 simp[run_underlying Tryz.underlying63,sizeOf,typeInfo,hi,hz2,Std.Legacy.Range.forIn_eq_forIn_range',List.range',Std.Legacy.Range.size]
 simp only[pf0,pf1,pf2,pf3,pf4,pg0,pg1,pg2,pg3,pg4,he,Result.andThen_ok]
 cases f 0==g 0<;>cases f 1==g 1<;>cases f 2==g 2<;>cases f 3==g 3<;>cases f 4==g 4<;>rfl
theorem zey (W:World) (a:List Int):(part 63 #[.int .i64 (nth a 0),.int .i64 (nth a 1),.int .i64 (nth a 2),.int .i64 (nth a 3),.int .i64 (nth a 4),.int .i64 (nth a 5)] 1).run Tryz.prog W=.ok (.agg #[.int .i64 (nth a 1),.int .i64 (nth a 2),.int .i64 (nth a 3),.int .i64 (nth a 4),.int .i64 (nth a 5)]) W:=by
 obtain ⟨i,hi,hz⟩:=zL (T:=63) (z:=5) (by kernel_rfl)
 simp[part,sizeOf,typeInfo,hi,hz,Tryz.underlying63,run_underlying]
theorem zef (W:World) (a:List Int):(part 63 #[.int .i64 (nth a 0),.int .i64 (nth a 1),.int .i64 (nth a 2),.int .i64 (nth a 3),.int .i64 (nth a 4),.int .i64 (nth a 5),.int .i64 (nth a 6),.int .i64 (nth a 7)] 3).run Tryz.prog W=.ok (.agg #[.int .i64 (nth a 3),.int .i64 (nth a 4),.int .i64 (nth a 5),.int .i64 (nth a 6),.int .i64 (nth a 7)]) W:=by
 obtain ⟨i,hi,hz⟩:=zL (T:=63) (z:=5) (by kernel_rfl)
 simp[part,sizeOf,typeInfo,hi,hz,Tryz.underlying63,run_underlying]
theorem zeG (W:World) (a:List Int):(part 65 #[.int .i64 (nth a 0),.int .i64 (nth a 1),.int .i64 (nth a 2),.int .i64 (nth a 3),.int .i64 (nth a 4),.int .i64 (nth a 5),.int .i64 (nth a 6)] 0).run Tryz.prog W=.ok (.agg #[.int .i64 (nth a 0),.int .i64 (nth a 1),.int .i64 (nth a 2),.int .i64 (nth a 3),.int .i64 (nth a 4),.int .i64 (nth a 5)]) W:=by
 obtain ⟨i,hi,hz⟩:=zL (T:=65) (z:=6) (by kernel_rfl)
 simp[part,sizeOf,typeInfo,hi,hz,Tryz.underlying65,run_underlying]
theorem zee (W:World) (a:List Int):(part 67 #[.int .i64 (nth a 0),.int .i64 (nth a 1),.int .i64 (nth a 2),.int .i64 (nth a 3),.int .i64 (nth a 4),.int .i64 (nth a 5),.int .i64 (nth a 6),.int .i64 (nth a 7)] 0).run Tryz.prog W=.ok (.agg #[.int .i64 (nth a 0),.int .i64 (nth a 1),.int .i64 (nth a 2),.int .i64 (nth a 3),.int .i64 (nth a 4),.int .i64 (nth a 5),.int .i64 (nth a 6)]) W:=by
 obtain ⟨i,hi,hz⟩:=zL (T:=67) (z:=7) (by kernel_rfl)
 simp[part,sizeOf,typeInfo,hi,hz,Tryz.underlying67,run_underlying]
theorem qW (d:Nat) (a b:List Int) (W:World):(Op.equalIn (d+3) 65 (.agg #[.int .i64 (nth a 0),.int .i64 (nth a 1),.int .i64 (nth a 2),.int .i64 (nth a 3),.int .i64 (nth a 4),.int .i64 (nth a 5)]) (.agg #[.int .i64 (nth b 0),.int .i64 (nth b 1),.int .i64 (nth b 2),.int .i64 (nth b 3),.int .i64 (nth b 4),.int .i64 (nth b 5)])).run Tryz.prog W=.ok (eqN 6 a b) W:=by
 have hF : (Tryz.prog.fieldsOf 65).toList.map (fun f => (f.name, f.type, f.offset)) = [("N", 3, 0), ("Hears", 63, 1)] := by kernel_rfl
 rw[run_equalIn_struct W (d+2) 65 _ _ (by kernel_rfl) (by kernel_rfl)]
 obtain ⟨x0,x1,hab⟩:∃x0 x1,(Tryz.prog.fieldsOf 65).toList=[x0,x1]:=by
  have:=congrArg List.length hF
  simp only[List.length_map,List.length_cons,List.length_nil]at this
  match h:(Tryz.prog.fieldsOf 65).toList,this with
  | [x0,x1],_=>exact ⟨x0,x1,rfl⟩
 rw[hab]at hF ⊢
 simp only[List.map_cons,List.map_nil,List.cons.injEq,Prod.mk.injEq,and_true]at hF
 obtain ⟨⟨n0,t0,o0⟩,n1,t1,o1⟩:=hF
 have q0:∀(W:World) (a:List Int),(part 3 #[.int .i64 (nth a 0),.int .i64 (nth a 1),.int .i64 (nth a 2),.int .i64 (nth a 3),.int .i64 (nth a 4),.int .i64 (nth a 5)] 0).run Tryz.prog W=.ok (.int .i64 (nth a 0)) W:=fun W a=>zP W [.int .i64 (nth a 0),.int .i64 (nth a 1),.int .i64 (nth a 2),.int .i64 (nth a 3),.int .i64 (nth a 4),.int .i64 (nth a 5)] 0 _ rfl
 have h5:=fun W=>Yp d (fun i=>nth a (i+1)) (fun i=>nth b (i+1)) W
 simp only[Nat.zero_add,Nat.reduceAdd]at h5
 have he:∀(W:World) (a b:Int),(Op.equalIn (d+2) 3 (.int .i64 a) (.int .i64 b)).run Tryz.prog W=.ok (a==b) W:=fun W a b=>run_equalIn_int W (d+1) _ _ _ a b Tryz.underlying3
 simp only[Op.eqFields,n0,t0,o0,q0,n1,t1,o1,zey,h5,Sem.run_ite,Sem.run_bind,he,Result.andThen_ok,Sem.run_pure,ne_eq,String.reduceEq,not_false_eq_true,if_true]
 simp only[eqN,allN,Bool.true_and]
 cases nth a 0==nth b 0<;>cases nth a 1==nth b 1<;>cases nth a 2==nth b 2<;>cases nth a 3==nth b 3<;>cases nth a 4==nth b 4<;>cases nth a 5==nth b 5<;>rfl
theorem xE (d:Nat) (a b:List Int) (W:World):(Op.equalIn (d+3) 134 (.agg #[.int .i64 (nth a 0),.int .i64 (nth a 1),.int .i64 (nth a 2),.int .i64 (nth a 3),.int .i64 (nth a 4),.int .i64 (nth a 5),.int .i64 (nth a 6),.int .i64 (nth a 7)]) (.agg #[.int .i64 (nth b 0),.int .i64 (nth b 1),.int .i64 (nth b 2),.int .i64 (nth b 3),.int .i64 (nth b 4),.int .i64 (nth b 5),.int .i64 (nth b 6),.int .i64 (nth b 7)])).run Tryz.prog W=.ok (eqN 8 a b) W:=by
 have hF : (Tryz.prog.fieldsOf 134).toList.map (fun f => (f.name, f.type, f.offset)) = [("Proc", 3, 0), ("Round", 3, 1), ("Input", 3, 2), ("Heard", 63, 3)] := by kernel_rfl
 rw[run_equalIn_struct W (d+2) 134 _ _ (by kernel_rfl) (by kernel_rfl)]
 obtain ⟨x0,x1,x2,x3,hab⟩:∃x0 x1 x2 x3,(Tryz.prog.fieldsOf 134).toList=[x0,x1,x2,x3]:=by
  have:=congrArg List.length hF
  simp only[List.length_map,List.length_cons,List.length_nil]at this
  match h:(Tryz.prog.fieldsOf 134).toList,this with
  | [x0,x1,x2,x3],_=>exact ⟨x0,x1,x2,x3,rfl⟩
 rw[hab]at hF ⊢
 simp only[List.map_cons,List.map_nil,List.cons.injEq,Prod.mk.injEq,and_true]at hF
 obtain ⟨⟨n0,t0,o0⟩,⟨n1,t1,o1⟩,⟨n2,t2,o2⟩,n3,t3,o3⟩:=hF
 have q0:∀(W:World) (a:List Int),(part 3 #[.int .i64 (nth a 0),.int .i64 (nth a 1),.int .i64 (nth a 2),.int .i64 (nth a 3),.int .i64 (nth a 4),.int .i64 (nth a 5),.int .i64 (nth a 6),.int .i64 (nth a 7)] 0).run Tryz.prog W=.ok (.int .i64 (nth a 0)) W:=fun W a=>zP W [.int .i64 (nth a 0),.int .i64 (nth a 1),.int .i64 (nth a 2),.int .i64 (nth a 3),.int .i64 (nth a 4),.int .i64 (nth a 5),.int .i64 (nth a 6),.int .i64 (nth a 7)] 0 _ rfl
 have q1:∀(W:World) (a:List Int),(part 3 #[.int .i64 (nth a 0),.int .i64 (nth a 1),.int .i64 (nth a 2),.int .i64 (nth a 3),.int .i64 (nth a 4),.int .i64 (nth a 5),.int .i64 (nth a 6),.int .i64 (nth a 7)] 1).run Tryz.prog W=.ok (.int .i64 (nth a 1)) W:=fun W a=>zP W [.int .i64 (nth a 0),.int .i64 (nth a 1),.int .i64 (nth a 2),.int .i64 (nth a 3),.int .i64 (nth a 4),.int .i64 (nth a 5),.int .i64 (nth a 6),.int .i64 (nth a 7)] 1 _ rfl
 have q2:∀(W:World) (a:List Int),(part 3 #[.int .i64 (nth a 0),.int .i64 (nth a 1),.int .i64 (nth a 2),.int .i64 (nth a 3),.int .i64 (nth a 4),.int .i64 (nth a 5),.int .i64 (nth a 6),.int .i64 (nth a 7)] 2).run Tryz.prog W=.ok (.int .i64 (nth a 2)) W:=fun W a=>zP W [.int .i64 (nth a 0),.int .i64 (nth a 1),.int .i64 (nth a 2),.int .i64 (nth a 3),.int .i64 (nth a 4),.int .i64 (nth a 5),.int .i64 (nth a 6),.int .i64 (nth a 7)] 2 _ rfl
 have h5:=fun W=>Yp d (fun i=>nth a (i+3)) (fun i=>nth b (i+3)) W
 simp only[Nat.zero_add,Nat.reduceAdd]at h5
 have he:∀(W:World) (a b:Int),(Op.equalIn (d+2) 3 (.int .i64 a) (.int .i64 b)).run Tryz.prog W=.ok (a==b) W:=fun W a b=>run_equalIn_int W (d+1) _ _ _ a b Tryz.underlying3
 simp only[Op.eqFields,n0,t0,o0,q0,n1,t1,o1,q1,n2,t2,o2,q2,n3,t3,o3,zef,h5,Sem.run_ite,Sem.run_bind,he,Result.andThen_ok,Sem.run_pure,ne_eq,String.reduceEq,not_false_eq_true,if_true]
 simp only[eqN,allN,Bool.true_and]
 simp only[Bool.and_assoc]
 generalize (nth a 3==nth b 3&&(nth a 4==nth b 4&&(nth a 5==nth b 5&&(nth a 6==nth b 6&&nth a 7==nth b 7))))=c
 cases nth a 0==nth b 0<;>cases nth a 1==nth b 1<;>cases nth a 2==nth b 2<;>cases c<;>rfl
theorem yW (d:Nat) (a b:List Int) (W:World):(Op.equalIn (d+4) 67 (.agg #[.int .i64 (nth a 0),.int .i64 (nth a 1),.int .i64 (nth a 2),.int .i64 (nth a 3),.int .i64 (nth a 4),.int .i64 (nth a 5),.int .i64 (nth a 6)]) (.agg #[.int .i64 (nth b 0),.int .i64 (nth b 1),.int .i64 (nth b 2),.int .i64 (nth b 3),.int .i64 (nth b 4),.int .i64 (nth b 5),.int .i64 (nth b 6)])).run Tryz.prog W=.ok (eqN 7 a b) W:=by
 have hF : (Tryz.prog.fieldsOf 67).toList.map (fun f => (f.name, f.type, f.offset)) = [("Graph", 65, 0), ("Faulty", 3, 6)] := by kernel_rfl
 rw[run_equalIn_struct W (d+3) 67 _ _ (by kernel_rfl) (by kernel_rfl)]
 obtain ⟨x0,x1,hab⟩:∃x0 x1,(Tryz.prog.fieldsOf 67).toList=[x0,x1]:=by
  have:=congrArg List.length hF
  simp only[List.length_map,List.length_cons,List.length_nil]at this
  match h:(Tryz.prog.fieldsOf 67).toList,this with
  | [x0,x1],_=>exact ⟨x0,x1,rfl⟩
 rw[hab]at hF ⊢
 simp only[List.map_cons,List.map_nil,List.cons.injEq,Prod.mk.injEq,and_true]at hF
 obtain ⟨⟨n0,t0,o0⟩,n1,t1,o1⟩:=hF
 have h5:=fun W=>qW d a b W
 have q1:∀(W:World) (a:List Int),(part 3 #[.int .i64 (nth a 0),.int .i64 (nth a 1),.int .i64 (nth a 2),.int .i64 (nth a 3),.int .i64 (nth a 4),.int .i64 (nth a 5),.int .i64 (nth a 6)] 6).run Tryz.prog W=.ok (.int .i64 (nth a 6)) W:=fun W a=>zP W [.int .i64 (nth a 0),.int .i64 (nth a 1),.int .i64 (nth a 2),.int .i64 (nth a 3),.int .i64 (nth a 4),.int .i64 (nth a 5),.int .i64 (nth a 6)] 6 _ rfl
 have he:∀(W:World) (a b:Int),(Op.equalIn (d+3) 3 (.int .i64 a) (.int .i64 b)).run Tryz.prog W=.ok (a==b) W:=fun W a b=>run_equalIn_int W (d+2) _ _ _ a b Tryz.underlying3
 simp only[Op.eqFields,n0,t0,o0,zeG,h5,n1,t1,o1,q1,Sem.run_ite,Sem.run_bind,he,Result.andThen_ok,Sem.run_pure,ne_eq,String.reduceEq,not_false_eq_true,if_true]
 simp only[eqN,allN,Bool.true_and]
 cases nth a 0==nth b 0<;>cases nth a 1==nth b 1<;>cases nth a 2==nth b 2<;>cases nth a 3==nth b 3<;>cases nth a 4==nth b 4<;>cases nth a 5==nth b 5<;>cases nth a 6==nth b 6<;>rfl
theorem zbH (d:Nat) (a b:List Int) (W:World):(Op.equalIn (d+5) 69 (.agg #[.int .i64 (nth a 0),.int .i64 (nth a 1),.int .i64 (nth a 2),.int .i64 (nth a 3),.int .i64 (nth a 4),.int .i64 (nth a 5),.int .i64 (nth a 6),.int .i64 (nth a 7)]) (.agg #[.int .i64 (nth b 0),.int .i64 (nth b 1),.int .i64 (nth b 2),.int .i64 (nth b 3),.int .i64 (nth b 4),.int .i64 (nth b 5),.int .i64 (nth b 6),.int .i64 (nth b 7)])).run Tryz.prog W=.ok (eqN 8 a b) W:=by
 have hF : (Tryz.prog.fieldsOf 69).toList.map (fun f => (f.name, f.type, f.offset)) = [("Round", 67, 0), ("To", 3, 7)] := by kernel_rfl
 rw[run_equalIn_struct W (d+4) 69 _ _ (by kernel_rfl) (by kernel_rfl)]
 obtain ⟨x0,x1,hab⟩:∃x0 x1,(Tryz.prog.fieldsOf 69).toList=[x0,x1]:=by
  have:=congrArg List.length hF
  simp only[List.length_map,List.length_cons,List.length_nil]at this
  match h:(Tryz.prog.fieldsOf 69).toList,this with
  | [x0,x1],_=>exact ⟨x0,x1,rfl⟩
 rw[hab]at hF ⊢
 simp only[List.map_cons,List.map_nil,List.cons.injEq,Prod.mk.injEq,and_true]at hF
 obtain ⟨⟨n0,t0,o0⟩,n1,t1,o1⟩:=hF
 have h5:=fun W=>yW d a b W
 have q1:∀(W:World) (a:List Int),(part 3 #[.int .i64 (nth a 0),.int .i64 (nth a 1),.int .i64 (nth a 2),.int .i64 (nth a 3),.int .i64 (nth a 4),.int .i64 (nth a 5),.int .i64 (nth a 6),.int .i64 (nth a 7)] 7).run Tryz.prog W=.ok (.int .i64 (nth a 7)) W:=fun W a=>zP W [.int .i64 (nth a 0),.int .i64 (nth a 1),.int .i64 (nth a 2),.int .i64 (nth a 3),.int .i64 (nth a 4),.int .i64 (nth a 5),.int .i64 (nth a 6),.int .i64 (nth a 7)] 7 _ rfl
 have he:∀(W:World) (a b:Int),(Op.equalIn (d+4) 3 (.int .i64 a) (.int .i64 b)).run Tryz.prog W=.ok (a==b) W:=fun W a b=>run_equalIn_int W (d+3) _ _ _ a b Tryz.underlying3
 simp only[Op.eqFields,n0,t0,o0,zee,h5,n1,t1,o1,q1,Sem.run_ite,Sem.run_bind,he,Result.andThen_ok,Sem.run_pure,ne_eq,String.reduceEq,not_false_eq_true,if_true]
 simp only[eqN,allN,Bool.true_and]
 cases (((((((nth a 0==nth b 0&&nth a 1==nth b 1)&&nth a 2==nth b 2)&&nth a 3==nth b 3)&&nth a 4==nth b 4)&&nth a 5==nth b 5)&&nth a 6==nth b 6))<;>cases nth a 7==nth b 7<;>simp_all
end Go.Proofs.YtjpakklplhabdaaGreat
