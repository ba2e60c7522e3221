/- Part of the proof that the laws answer true for every input. -/
import Derived.Test.YtaijafjfafbcfaaGreatPXb45
set_option linter.unusedSimpArgs false
set_option linter.unnecessarySimpa false
set_option linter.unusedVariables false
set_option maxRecDepth 100000
set_option maxHeartbeats 40000000
namespace Go.Proofs.YtaijafjfafbcfaaGreat
def e25P:ProbD:=⟨2,2,1,[([0,0],[[0,0]],[]),([0,1],[[0,0]],[])],2,[[[2,1,3,0,0,0,0,0],[2,3,3,0,0,0,0,0]]],1⟩
def e25S:SysF:=e25P.full
theorem e25_build:buildE e25P=0:=by decide+kernel
theorem e25_ver:verE e25S=0:=by decide+kernel
theorem e25_len:e25S.ex.length=4:=by decide+kernel
theorem e25_N:e25S.N=2:=by decide+kernel
theorem e25_th02:thE e25S 0 2=0:=by decide+kernel
theorem e25_th13:thE e25S 1 3=0:=by decide+kernel
theorem e25_lnk:lnkA e25S 0 2=1:=by decide+kernel
theorem e25_cl0:clsL e25S 0=[0,1,0,2]:=by decide+kernel
theorem e25_cl1:clsL e25S 1=[0,0,1,1]:=by decide+kernel
theorem e25_ce0:clE e25S 0=0:=by decide+kernel
theorem e25_ce1:clE e25S 1=0:=by decide+kernel
theorem e25_dst:dstV e25S 3 1=3:=by decide+kernel
theorem e25_wlk:wlkL e25S 3 1=[[1, -1],[0,1],[2,0],[3,1]]:=by decide+kernel
theorem e25_chk:verW e25S [[1, -1],[0,1],[2,0],[3,1]]=0:=by decide+kernel
theorem e25_nil:verW e25S []=16:=by decide+kernel
theorem e25_few:FewP e25P:=⟨by refine ⟨by decide,fun k hk=>?_⟩;match k,hk with | 0,_=>exact ⟨by decide,⟨by decide,by decide⟩,⟨by decide,by decide⟩⟩ | 1,_=>exact ⟨by decide,⟨by decide,by decide⟩,⟨by decide,by decide⟩⟩ | k+2,h=>exact absurd h (by simp[e25P]),by decide+kernel,by decide,fun _=>.inl (by decide+kernel)⟩
theorem e25_cmp:cmpL e25S 1=[0,0,0,0]:=by
 rw[cmpL_succ,show cmpL e25S 0=clsL e25S 0 from rfl,e25_cl0,e25_cl1]
 have a:∀i j,i<4→j<4→nth [0,1,0,2] i=nth [0,1,0,2] j→Gen [0,1,0,2] [0,0,1,1] i j:=fun i j hi hj h=>.base hi hj (.inl h)
 have b:∀i j,i<4→j<4→nth [0,0,1,1] i=nth [0,0,1,1] j→Gen [0,1,0,2] [0,0,1,1] i j:=fun i j hi hj h=>.base hi hj (.inr h)
 have g0:∀i,i<4→Gen [0,1,0,2] [0,0,1,1] i 0:=fun i hi=>by
  match i,hi with
  | 0,_=>exact a 0 0 (by decide) (by decide) rfl
  | 1,_=>exact b 1 0 (by decide) (by decide) rfl
  | 2,_=>exact a 2 0 (by decide) (by decide) rfl
  | 3,_=>exact (b 3 2 (by decide) (by decide) rfl).trans (a 2 0 (by decide) (by decide) rfl)
 have h:=joinS_of (a:=[0,1,0,2]) (b:=[0,0,1,1]) (r:=[0,0,0,0]) rfl (fun i j hi hj=>⟨fun _=>(g0 i hi).trans (g0 j hj).symm,fun _=>by
  have:∀i,i<4→nth [0,0,0,0] i=0:=by decide
  rw[this i hi,this j hj]⟩)
 rw[←h]
 decide+kernel
end Go.Proofs.YtaijafjfafbcfaaGreat
