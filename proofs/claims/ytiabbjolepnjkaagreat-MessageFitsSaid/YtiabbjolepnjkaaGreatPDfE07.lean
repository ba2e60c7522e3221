/- Part of the proof that the laws answer true for every input. -/
import Derived.Test.YtiabbjolepnjkaaGreatPDfE06
set_option linter.unusedSimpArgs false
set_option linter.unnecessarySimpa false
set_option linter.unusedVariables false
set_option maxRecDepth 100000
set_option maxHeartbeats 40000000
namespace Go.Proofs.YtiabbjolepnjkaaGreat
theorem Z0 {l:List Int} {a x:Int} {k:Nat} (h:l.length=k):(l++[a]).set k x=l++[x]:=by
 subst h;simp
theorem zc2 {s:SysF} {cl sy:List Int} {r f t:Nat} (hp:plcE s cl r f t=0) (hl:sy.length=mN cl)
  (h:∀c,c<mN cl→(0≤nth sy c↔sndB s.tab cl r f c=true)∧ -1≤nth sy c∧nth sy c≤1048576):
  vsyE s cl sy r f t=0↔∀a b,a<mN cl→b<a→enoP s.tab cl sy t a b:=by
 unfold vsyE;rw[if_pos hp,if_pos hl,Int.toNat_natCast,Int.toNat_natCast,Int.toNat_natCast];have h1:firstE (sfmE s.tab cl sy r f) sy.length=0:=yJ.2 fun c hc=>by
  obtain ⟨a,b,d⟩:=h c (by omega);unfold sfmE;rw[if_pos ⟨by rw[Bool.eq_iff_iff,decide_eq_true_iff];exact a,b,d⟩]
 rw[if_pos h1,←hl,←zgO];cases enoB s.tab cl sy t<;>simp
def allV (T:List (List Int)) (cl:List Int) (r f t c:Nat):Int:=if 0≤symV T cl r f t c then (c:Int) else -1
def allL (T:List (List Int)) (cl:List Int) (r f t k:Nat):List Int:=(List.range k).map (allV T cl r f t)
def merL (T:List (List Int)) (cl:List Int) (r f t n j k:Nat):List Int:=(List.range k).map (merV T cl r f t n j)
theorem Zj (T:List (List Int)) (cl:List Int) (r f t k:Nat):(allL T cl r f t k).length=k:=by simp[allL]
theorem Zn (T:List (List Int)) (cl:List Int) (r f t n j k:Nat):(merL T cl r f t n j k).length=k:=by simp[merL]
theorem zcQ {T:List (List Int)} {cl:List Int} {r f t m c:Nat} (h:c<m):nth (allL T cl r f t m) c=allV T cl r f t c:=by simp[allL,nth,h]
theorem YT {T:List (List Int)} {cl:List Int} {r f t n j m c:Nat} (h:c<m):nth (merL T cl r f t n j m) c=merV T cl r f t n j c:=by simp[merL,nth,h]
theorem zg0 (T:List (List Int)) (cl:List Int) (r f t k:Nat):allL T cl r f t (k+1)=allL T cl r f t k++[allV T cl r f t k]:=by unfold allL;rw[List.range_succ,List.map_append];rfl
theorem zfD (T:List (List Int)) (cl:List Int) (r f t n j k:Nat):merL T cl r f t n j (k+1)=merL T cl r f t n j k++[merV T cl r f t n j k]:=by unfold merL;rw[List.range_succ,List.map_append];rfl
section
variable {s:SysF} {cl:List Int} {r f t:Nat}
theorem zbm (hg:GoodS s s.N s.K) (hgd:Good cl) (hl:cl.length=s.tab.length) (hm:s.tab.length≤120) {c:Nat} (hc:c<mN cl):
  (0≤symV s.tab cl r f t c↔sndB s.tab cl r f c=true)∧ -1≤symV s.tab cl r f t c∧symV s.tab cl r f t c<manyN s.tab cl r f t (mN cl)∧manyN s.tab cl r f t (mN cl)≤120:=by
 obtain ⟨a,b,d⟩:=yE (r:=r) (f:=f) (t:=t) hg.tab hg.nodup (yl hgd hl) hc;have:=xP (r:=r) (f:=f) (t:=t) hg.tab hg.nodup (yl hgd hl) (mN cl) (Nat.le_refl _);have:=zdB hgd;exact ⟨d,a,b,by omega⟩
theorem zi6 (hg:GoodS s s.N s.K) (hgd:Good cl) (hl:cl.length=s.tab.length) (hm:s.tab.length≤120) (hp:plcE s cl r f t=0):vsyE s cl (symL s.tab cl r f t (mN cl)) r f t=0:=by
 refine (zc2 hp (yS _ _ _ _ _ _) fun c hc=>?_).2 fun a b ha hb h0 he=>zeB (r:=r) hg.tab hg.nodup (yl hgd hl) a b (by rw[yS];exact ha) hb h0 he;rw[YI _ _ _ _ _ hc];obtain ⟨x,y,z,u⟩:=zbm (r:=r) (f:=f) (t:=t) hg hgd hl hm hc;exact ⟨x,y,by omega⟩
theorem ziM (hg:GoodS s s.N s.K) (hgd:Good cl) (hl:cl.length=s.tab.length) (hm:s.tab.length≤120) (hp:plcE s cl r f t=0):vsyE s cl (allL s.tab cl r f t (mN cl)) r f t=0:=by
 refine (zc2 hp (Zj _ _ _ _ _ _) fun c hc=>?_).2 fun a b ha hb h0 he=>?_
 ·rw[zcQ hc];obtain ⟨x,_⟩:=zbm (r:=r) (f:=f) (t:=t) hg hgd hl hm hc;have:=zdB hgd;unfold allV;split
  ·rename_i h;exact ⟨⟨fun _=>x.1 h,fun _=>by omega⟩,by omega,by omega⟩
  ·rename_i h;exact ⟨⟨fun h=>by omega,fun h2=>absurd (x.2 h2) h⟩,by omega,by omega⟩
 ·rw[zcQ ha]at h0 he;rw[zcQ (by omega)]at he;unfold allV at h0 he;split at h0
  case isFalse=>omega
  split at he<;>omega
theorem ziz (hg:GoodS s s.N s.K) (hgd:Good cl) (hl:cl.length=s.tab.length) (hm:s.tab.length≤120) {j:Nat} (hj:j<manyN s.tab cl r f t (mN cl)) {c:Nat} (hc:c<mN cl):
  (0≤merV s.tab cl r f t (manyN s.tab cl r f t (mN cl)) j c↔sndB s.tab cl r f c=true)∧ -1≤merV s.tab cl r f t (manyN s.tab cl r f t (mN cl)) j c∧merV s.tab cl r f t (manyN s.tab cl r f t (mN cl)) j c≤120:=by
 obtain ⟨x,y,z,u⟩:=zbm (r:=r) (f:=f) (t:=t) hg hgd hl hm hc;unfold merV;split
 ·rename_i h;exact ⟨⟨fun _=>x.1 (by omega),fun _=>by omega⟩,by omega,by omega⟩
 ·exact ⟨x,y,by omega⟩
theorem zi2 (hg:GoodS s s.N s.K) (hgd:Good cl) (hl:cl.length=s.tab.length) (hm:s.tab.length≤120) (hp:plcE s cl r f t=0) {j:Nat} (hj:j<manyN s.tab cl r f t (mN cl)):
  vsyE s cl (merL s.tab cl r f t (manyN s.tab cl r f t (mN cl)) j (mN cl)) r f t=0↔(j:Int)=(manyN s.tab cl r f t (mN cl):Int) - 1:=by
 rw[zc2 hp (Zn _ _ _ _ _ _ _ _) fun c hc=>by
  rw[YT hc];obtain ⟨x,y,z⟩:=ziz hg hgd hl hm hj hc;exact ⟨x,y,by omega⟩,←ziX hg.tab hg.nodup (yl hgd hl) hj]
 unfold enoP;constructor
 ·intro h a b ha hb h0 he;exact h a b ha hb (by rw[YT ha];exact h0) (by rw[YT ha,YT (by omega)];exact he)
 ·intro h a b ha hb h0 he;rw[YT ha]at h0 he;rw[YT (by omega)]at he;exact h a b ha hb h0 he
theorem zhY (hg:GoodS s s.N s.K) (hgd:Good cl) (hl:cl.length=s.tab.length) (hm:s.tab.length≤120) {c:Nat} (hc:c<mN cl):sndN s.tab cl r f (c+1)=sndN s.tab cl r f c+if 0≤symV s.tab cl r f t c then 1 else 0:=by
 obtain ⟨x,_⟩:=zbm (r:=r) (f:=f) (t:=t) hg hgd hl hm hc;rw[zcv];cases h:sndB s.tab cl r f c with
 | true=>rw[if_pos rfl,if_pos (x.2 h)]
 | false=>rw[if_neg (by simp),if_neg fun h2=>by rw[x.1 h2]at h;cases h]
theorem zj1 {k:Nat} (hk:k≤60000):∀x∈allL s.tab cl r f t k,WF x:=fun x hx=>by
 unfold allL at hx;obtain ⟨c,hc,rfl⟩:=List.mem_map.1 hx;have hc:=List.mem_range.1 hc;unfold allV;split<;>exact WF.small (by omega)
theorem zjP (hg:GoodS s s.N s.K) (hgd:Good cl) (hl:cl.length=s.tab.length) (hm:s.tab.length≤120) {j:Nat} (hj:j<manyN s.tab cl r f t (mN cl)):∀x∈merL s.tab cl r f t (manyN s.tab cl r f t (mN cl)) j (mN cl),WF x:=fun x hx=>by
 unfold merL at hx;obtain ⟨c,hc,rfl⟩:=List.mem_map.1 hx;have:=ziz hg hgd hl hm hj (List.mem_range.1 hc);exact WF.small (by omega)
end
end Go.Proofs.YtiabbjolepnjkaaGreat
