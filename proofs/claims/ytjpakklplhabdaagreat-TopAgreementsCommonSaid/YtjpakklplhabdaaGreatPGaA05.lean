/- Part of the proof that the laws answer true for every input. -/
import Derived.Test.YtjpakklplhabdaaGreatPGaA04
set_option linter.unusedSimpArgs false
set_option linter.unnecessarySimpa false
set_option linter.unusedVariables false
set_option maxRecDepth 100000
set_option maxHeartbeats 40000000
namespace Go.Proofs.YtjpakklplhabdaaGreat
open Go.RowKit
attribute [local go_sem ↓] Go.wp_at_zero Go.wp_at_succ
def QW (w w':World):Prop:=∃n,w'=w.drewN n
theorem QW.refl (w:World):QW w w:=⟨0,rfl⟩
theorem QW.drewN {a b:World} (h:QW a b) (n:Nat):QW a (b.drewN n):=by obtain ⟨k,rfl⟩:=h;exact ⟨_,World.drewN_drewN _ _ _⟩
theorem QW.trans {a b c:World} (h:QW a b) (k:QW b c):QW a c:=by obtain ⟨n,rfl⟩:=k;exact h.drewN n
theorem QW.ext {a b:World} (h:QW a b):Below a.heap.size a b:=by obtain ⟨n,rfl⟩:=h;exact zh _ _ _
theorem QuietP.fin {w w':World} {u v:Value} (h:u=v) (q:QW w w'):QuietP w v (.returned u) w':=⟨by rw[h],q⟩
theorem QuietP.take {w:World} {v:Value} {e:Ending} {w':World} (h:QuietP w v e w'):∃u,e=.returned u∧QW w w'∧u=v:=⟨v,h.1,h.2,rfl⟩
def without (a b:Nat):Nat:=a ^^^ (a&&&b)
theorem yh (a b i:Nat):(without a b).testBit i=(a.testBit i&& !b.testBit i):=by
 unfold without
 rw[Nat.testBit_xor,Nat.testBit_and]
 cases a.testBit i<;>cases b.testBit i<;>rfl
theorem Yd {a b:Nat} (ha:a<4294967296):without a b<4294967296:=by
 have h1:a&&&b<2 ^ 32:=Nat.lt_of_le_of_lt Nat.and_le_left (by omega)
 exact Nat.xor_lt_two_pow (n:=32) (by omega) h1
theorem Yk {a b:Nat} (ha:a<4294967296) (hb:b<4294967296):bits .andNot .i64 (a:Int) (b:Int)=((without a b:Nat):Int):=by
 have hx:=Yd (b:=b) ha
 have key:(BitVec.ofInt 64 (a:Int)&&& ~~~BitVec.ofInt 64 (b:Int)).toNat=without a b:=by
  have e1:BitVec.ofInt 64 (a:Int)=BitVec.ofNat 64 a:=BitVec.ofInt_natCast ..
  have e2:BitVec.ofInt 64 (b:Int)=BitVec.ofNat 64 b:=BitVec.ofInt_natCast ..
  apply Nat.eq_of_testBit_eq
  intro i
  rw[yh,e1,e2,BitVec.testBit_toNat,BitVec.getLsbD_and,BitVec.getLsbD_not,BitVec.getLsbD_ofNat,BitVec.getLsbD_ofNat]
  by_cases hi:i<64
  ·simp[hi]
  ·have:a.testBit i=false:=Nat.testBit_lt_two_pow (Nat.lt_of_lt_of_le ha (Nat.le_trans (by decide:4294967296≤2 ^ 64) (Nat.pow_le_pow_right (by decide) (by omega))))
   simp[hi,this]
 show IntKind.i64.wrap ((BitVec.ofInt 64 (a:Int)&&& ~~~BitVec.ofInt 64 (b:Int)).toNat:Int)=_
 rw[key,IntKind.wrap_i64]
 omega
theorem zaH (a p:Nat):(bits .and .i64 ((a:Int) / 2 ^ p) 1==1)=a.testBit p:=by
 have h1:(BitVec.ofInt 64 1).toNat=2 ^ 1 - 1:=by decide
 have h2:((a:Int) / 2 ^ p)=((a / 2 ^ p:Nat):Int):=by simp
 have key:bits .and .i64 ((a / 2 ^ p:Nat):Int) 1=((a / 2 ^ p % 2:Nat):Int):=by
  show IntKind.i64.wrap ((BitVec.ofInt 64 ((a / 2 ^ p:Nat):Int)&&&BitVec.ofInt 64 1).toNat:Nat)=_
  rw[BitVec.toNat_and,h1,Nat.and_two_pow_sub_one_eq_mod,BitVec.ofInt_natCast,BitVec.toNat_ofNat,IntKind.wrap_i64]
  omega
 rw[h2,key,Nat.testBit_eq_decide_div_mod_eq]
 rcases Nat.mod_two_eq_zero_or_one (a / 2 ^ p) with e | e<;>rw[e]<;>rfl
theorem yS {p:Nat} (hp:p≤5):2 ^ p≤32∧1≤2 ^ p:=by
 have:p=0∨p=1∨p=2∨p=3∨p=4∨p=5:=by omega
 rcases this with rfl | rfl | rfl | rfl | rfl | rfl<;>decide
def gC (n:Int) (f:Nat→Int):List Value:=[.int .i64 n,.int .i64 (f 0),.int .i64 (f 1),.int .i64 (f 2),.int .i64 (f 3),.int .i64 (f 4)]
def gV (n:Int) (f:Nat→Int):Value:=.agg #[.int .i64 n,.int .i64 (f 0),.int .i64 (f 1),.int .i64 (f 2),.int .i64 (f 3),.int .i64 (f 4)]
theorem five {p:Nat} (h:p<5):p=0∨p=1∨p=2∨p=3∨p=4:=by omega
theorem ze0 {n:Int} {f:Nat→Int} {p:Nat} (hp:p<5):(gC n f)[1+p]? =some (.int .i64 (f p)):=by
 rcases five hp with rfl | rfl | rfl | rfl | rfl<;>rfl
theorem Row.six {w:World} {g:Nat} {e:TypeId} {n:Int} {f:Nat→Int} (h:Row w g e (gC n f)):
  w.cell? ⟨g,0,none⟩=some (.int .i64 n)∧w.cell? ⟨g,1,none⟩=some (.int .i64 (f 0))∧w.cell? ⟨g,2,none⟩=some (.int .i64 (f 1))∧w.cell? ⟨g,3,none⟩=some (.int .i64 (f 2))∧w.cell? ⟨g,4,none⟩=some (.int .i64 (f 3))∧w.cell? ⟨g,5,none⟩=some (.int .i64 (f 4)):=
 ⟨h.cell rfl,h.cell rfl,h.cell rfl,h.cell rfl,h.cell rfl,h.cell rfl⟩
theorem Row.graph (w:World) (n:Int) (f:Nat→Int):Row (w.alloc (.cells #[.int .i64 n,.int .i64 (f 0),.int .i64 (f 1),.int .i64 (f 2),.int .i64 (f 3),.int .i64 (f 4)] 65)) w.heap.size 65 (gC n f):=ze w (gC n f) _
theorem Row.hear {w:World} {g:Nat} {e:TypeId} {n:Int} {f:Nat→Int} (h:Row w g e (gC n f)) {p:Nat} (hp:p<5):w.cell? ⟨g,1+p,none⟩=some (.int .i64 (f p)):=h.cell (ze0 hp)
theorem qg (b:Nat) {p:Nat} (hp:p<5) (W:World):
  (Instr.indexAt 63 (.pointer (some ⟨b,1,none⟩)) (.int .i64 p)).run Tryz.prog W=.ok (.pointer (some ⟨b,1+p,none⟩)) W:=by
 obtain ⟨i,hi,hz1,hz2,hz3⟩:=info_parts zC
 have hA:=Tryz.underlying63
 have hE:Tryz.prog.elem 63=3:=by simp[Program.elem,hA]
 have hL:Tryz.prog.arrayLen 63=5:=by simp[Program.arrayLen,hA]
 rw[run_indexAt_array W _ _ _ _ (by rw[hE,hL];exact hA),hL,hE,if_pos (by omega)]
 simp[sizeOf,typeInfo,hi,hz2,Result.andThen,Addr.add]
abbrev hV (n:Nat) (h:Nat→Nat):Value:=gV n fun p=>(h p:Int)
theorem qR (w:World) {n:Nat} (hn:n≤5):Calls Tryz.prog 82 #[.int .i64 n] w (QuietP w (.int .i64 ((2 ^ n:Nat):Int))):=by
 go_enter Tryz.func82,Tryz.ntmps82
 go_wp2
 go_loopw [3,4] (fun o i wr=>∃k z:Nat,k≤n∧i=.int .i64 k∧o=.int .i64 z∧Hid (z=2 ^ k)∧QW w wr) (fun _ i _=>n - (intOf i).toNat)
 case atStart=>exact ⟨0,1,Nat.zero_le _,rfl,rfl,zhd rfl,.refl _⟩
 case round=>
  obtain ⟨k,z,hk,rfl,rfl,HZ,hQ⟩:=hrel
  have hz:z≤32:=by rw[HZ.out];exact (yS (by omega)).1
  by_cases hlt:k<n
  ·go_wp2
   go_roundw
   case rel=>exact ⟨k+1,z * 2,by omega,by go_num,by go_num,zhd (by rw[HZ.out,Nat.pow_succ]),hQ⟩
   case measure=>simp[intOf];omega
  ·obtain rfl:k=n:=by omega
   go_wp2
   go_ret
   exact .fin (by rw[HZ.out];rfl) hQ
theorem Zo (w:World) {n:Nat} (hn:n≤5):Calls Tryz.prog 83 #[.int .i64 n] w (QuietP w (.int .i64 ((2 ^ n:Nat) - 1:Int))):=by
 have K:=zhd ((qR w hn).mono fun _ _ h=>h.take)
 have hz:=yS hn
 obtain ⟨z,hzz⟩:∃z,z=2 ^ n:=⟨_,rfl⟩
 rw[←hzz]at K hz ⊢
 clear hzz
 obtain ⟨hz0,hz1⟩:=hz
 go_enter Tryz.func83,Tryz.ntmps83
 go_wp2_with fail
 refine K.out.mono ?_
 rintro _ w1 ⟨_,rfl,hq1,rfl⟩
 go_wp2
 go_ret
 exact .fin rfl hq1
theorem yE (w:World) {a p:Nat} (ha:a<4294967296) (hp:p≤5):Calls Tryz.prog 42 #[.int .i64 a,.int .i64 p] w (QuietP w (.bool (a.testBit p))):=by
 have K:=zhd ((qR w hp).mono fun _ _ h=>h.take)
 have hz:=yS hp
 rw[Nat.testBit_eq_decide_div_mod_eq]
 obtain ⟨z,hzz⟩:∃z,z=2 ^ p:=⟨_,rfl⟩
 rw[←hzz]at K hz ⊢
 clear hzz
 obtain ⟨hz0,hz1⟩:=hz
 have e1:Int.tdiv (a:Int) (z:Int)=((a / z:Nat):Int):=by simp
 have e2:Int.tmod ((a / z:Nat):Int) 2=((a / z % 2:Nat):Int):=by rw[Int.tmod_eq_emod_of_nonneg (Int.natCast_nonneg _)];simp
 have hle:a / z≤a:=Nat.div_le_self _ _
 obtain ⟨y,hy⟩:∃y,y=a / z:=⟨_,rfl⟩
 rw[←hy]at e1 e2 hle ⊢
 clear hy
 have hz3:(z:Int)≠0:=by omega
 go_enter Tryz.func42,Tryz.ntmps42
 go_wp2_with fail
 refine K.out.mono ?_
 rintro _ w1 ⟨_,rfl,hq1,rfl⟩
 go_wp2
 go_ret
 exact .fin (by simp[e1,e2];rw[Bool.eq_iff_iff];simp;omega) hq1
end Go.Proofs.YtjpakklplhabdaaGreat
