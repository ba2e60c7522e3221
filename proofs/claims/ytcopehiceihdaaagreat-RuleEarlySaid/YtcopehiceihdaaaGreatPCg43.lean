/- Part of the proof that the laws of chapter 45 answer true for every input. -/
import Derived.Test.YtcopehiceihdaaaGreatPCg42
set_option linter.unusedSimpArgs false
set_option linter.unnecessarySimpa false
set_option linter.unusedVariables false
set_option maxRecDepth 100000
set_option maxHeartbeats 40000000
namespace Go.Proofs.YtcopehiceihdaaaGreat
end Go.Proofs.YtcopehiceihdaaaGreat
namespace Go.Proofs.YtcopehiceihdaaaGreat
theorem TabOK.prev {N K:Nat} {T:List (List Int)} (hT:TabOK N K T) {v q k:Nat} (hv:v<T.length) (h:TabV N K T v q k):(k=0∧befV T v= -1)∨∃u:Nat,0<k∧u<v∧befV T v=u∧TabV N K T u q (k - 1):=by
  rcases h.bef hT.1 with h0 | ⟨u,h1,h2,h3,_,h4,h5⟩
  · exact .inl h0
  · obtain ⟨q',k',h'⟩:=hT.2 u (by omega)
    have e1:q'=q:=by have:=h'.q0;omega
    have e2:k'=k - 1:=by have:=h'.k0;omega
    subst e1 e2
    exact .inr ⟨u,h1,h2,h3,h'⟩
theorem ancL_head (T:List (List Int)):∀k v,v∈ancL T k v
  | 0,v=>by simp[ancL]
  | k+1,v=>by simp[ancL]
theorem anc_up {N K:Nat} {T:List (List Int)} (hT:TabOK N K T) {q:Nat}:∀k x,x<T.length→TabV N K T x q k→∀v∈ancL T k x,(∃k',k'≤k∧v≤x∧TabV N K T v q k'∧(k'=k→v=x))∧∀u:Nat,befV T v=u→u∈ancL T k x
  | 0,x,hx,h,v,hv=>by
    have e:v=x:=by simpa[ancL] using hv
    subst e
    refine ⟨⟨0,Nat.le_refl _,Nat.le_refl _,h,fun _=>rfl⟩,fun u hu=>?_⟩
    rcases hT.prev hx h with ⟨_,h1⟩ | ⟨u',h1,_⟩<;>omega
  | k+1,x,hx,h,v,hv=>by
    rcases hT.prev hx h with ⟨h0,_⟩ | ⟨y,_,h2,h3,h4⟩
    · omega
    · rw[Nat.add_sub_cancel]at h4
      have ih:=anc_up hT k y (by omega) h4
      have et:(befV T x).toNat=y:=by rw[h3];exact Int.toNat_natCast y
      unfold ancL at hv ⊢
      rw[et]at hv ⊢
      rcases List.mem_cons.1 hv with e | hv
      · subst e
        refine ⟨⟨k+1,Nat.le_refl _,Nat.le_refl _,h,fun _=>rfl⟩,fun u hu=>?_⟩
        have:u=y:=by omega
        subst this
        exact List.mem_cons_of_mem _ (ancL_head T k u)
      · obtain ⟨⟨k',g1,g2,g3,g4⟩,g5⟩:=ih v hv
        exact ⟨⟨k',by omega,by omega,g3,fun e=>by omega⟩,fun u hu=>List.mem_cons_of_mem _ (g5 u hu)⟩
theorem early_at (T:List (List Int)) (D ch:List Int) {v:Nat}:∀{n:Nat},v<n→nth (earlyTo T D ch n) v=valueL T ch (earlyTo T D ch v) (laterL T D v) v
  | 0,h=>by omega
  | n+1,h=>by
    have hl:=earlyTo_len T D ch n
    rw[show earlyTo T D ch (n+1)=earlyTo T D ch n++[valueL T ch (earlyTo T D ch n) (laterL T D n) n] from rfl]
    by_cases e:v<n
    · rw[nth_app (by omega)];exact early_at T D ch e
    · have e2:v=n:=by omega
      subst e2
      have:=nth_last (l:=earlyTo T D ch v) (x:=valueL T ch (earlyTo T D ch v) (laterL T D v) v)
      rw[hl]at this;exact this
theorem early_pre (T:List (List Int)) (D ch:List Int) {u k n:Nat} (hu:u<k) (hk:k≤n):nth (earlyTo T D ch k) u=nth (earlyTo T D ch n) u:=by
  rw[early_at T D ch hu,early_at T D ch (by omega:u<n)]
def Chosen (s:SysF) (ch:List Int):Prop:=∀x∈decL s s.N s.K,0≤nth ch x.toNat∧nth ch x.toNat<s.p.outs
def earlyL (s:SysF) (ch:List Int):List Int:=earlyTo s.tab (decL s s.N s.K) ch s.tab.length
theorem earlyL_len (s:SysF) (ch:List Int):(earlyL s ch).length=s.tab.length:=earlyTo_len _ _ _ _
theorem earlyL_at (s:SysF) (ch:List Int) {v:Nat} (hv:v<s.tab.length):nth (earlyL s ch) v=valueL s.tab ch (earlyTo s.tab (decL s s.N s.K) ch v) (laterL s.tab (decL s s.N s.K) v) v:=early_at _ _ _ hv
theorem earlyL_none {s:SysF} {ch:List Int} {v:Nat} (hv:v<s.tab.length) (h:laterL s.tab (decL s s.N s.K) v=[]) {u:Nat} (hb:befV s.tab v=u) (hu:u<v):nth (earlyL s ch) v=nth (earlyL s ch) u:=by
  rw[earlyL_at s ch hv,h]
  unfold valueL
  rw[if_pos (show ([]:List Int).length=0 from rfl),if_neg (by omega),hb,Int.toNat_natCast]
  exact early_pre _ _ _ hu (by omega)
theorem earlyL_some {s:SysF} {ch:List Int} {v:Nat} (hv:v<s.tab.length) (h:laterL s.tab (decL s s.N s.K) v≠[]):
    nth (laterL s.tab (decL s s.N s.K) v) 0∈laterL s.tab (decL s s.N s.K) v∧((∀x∈laterL s.tab (decL s s.N s.K) v,nth ch x.toNat=nth ch (nth (laterL s.tab (decL s s.N s.K) v) 0).toNat)∧nth (earlyL s ch) v=nth ch (nth (laterL s.tab (decL s s.N s.K) v) 0).toNat∨¬(∀x∈laterL s.tab (decL s s.N s.K) v,nth ch x.toNat=nth ch (nth (laterL s.tab (decL s s.N s.K) v) 0).toNat)∧nth (earlyL s ch) v= -1):=by
  have hl:0<(laterL s.tab (decL s s.N s.K) v).length:=List.length_pos_iff.2 h
  refine ⟨nth_mem hl,?_⟩
  rw[earlyL_at s ch hv]
  unfold valueL
  rw[if_neg (by omega)]
  by_cases h1:∀x∈laterL s.tab (decL s s.N s.K) v,nth ch x.toNat=nth ch (nth (laterL s.tab (decL s s.N s.K) v) 0).toNat
  · rw[if_pos h1];exact .inl ⟨h1,rfl⟩
  · rw[if_neg h1];exact .inr ⟨h1,rfl⟩
theorem laterL_mem {T:List (List Int)} {D:List Int} {v:Nat} {x:Int}:x∈laterL T D v↔x∈D∧v∈anc T x.toNat:=by
  unfold laterL
  rw[List.mem_filter,decide_eq_true_iff]
theorem early_val {s:SysF} {ch:List Int} (hT:TabOK s.N s.K s.tab) (hc:Chosen s ch):∀(n v:Nat),v<n→v<s.tab.length→nth (earlyL s ch) v= -1∨0≤nth (earlyL s ch) v∧nth (earlyL s ch) v<s.p.outs
  | 0,v,h,_=>by omega
  | n+1,v,h,hv=>by
    by_cases h0:laterL s.tab (decL s s.N s.K) v=[]
    · rcases hT.bef hv with hb | ⟨u,hu,hb⟩
      · left
        rw[earlyL_at s ch hv,h0]
        unfold valueL
        rw[if_pos (show ([]:List Int).length=0 from rfl),if_pos (by omega)]
      · rw[earlyL_none hv h0 hb hu]
        exact early_val hT hc n u (by omega) (by omega)
    · obtain ⟨h1,h2⟩:=earlyL_some (ch:=ch) hv h0
      rcases h2 with ⟨_,h2⟩ | ⟨_,h2⟩
      · right;rw[h2];exact hc _ (laterL_mem.1 h1).1
      · exact .inl h2
theorem decL_final {s:SysF} (hg:GoodS s s.N s.K) {x:Int} (hx:x∈decL s s.N s.K):∃z q:Nat,x=z∧z<s.tab.length∧TabV s.N s.K s.tab z q s.K:=by
  obtain ⟨z,h1,h2,h3⟩:=passL_mem.1 hx
  obtain ⟨e,he,q,hq,h4⟩:=relB_iff.1 h3
  obtain ⟨v,hv,h5,h6⟩:=hg.view he (Nat.le_refl _) hq
  unfold relE at h4
  rw[Bool.and_eq_true,beq_iff_eq]at h4
  have:v=z:=by have:=h4.1;omega
  subst this
  exact ⟨v,q,h1,h2,h6⟩
theorem later_up {s:SysF} (hg:GoodS s s.N s.K) {v u:Nat} (hb:befV s.tab v=u) {x:Int} (hx:x∈laterL s.tab (decL s s.N s.K) v):x∈laterL s.tab (decL s s.N s.K) u:=by
  obtain ⟨h1,h2⟩:=laterL_mem.1 hx
  obtain ⟨z,q,rfl,hz,ht⟩:=decL_final hg h1
  refine laterL_mem.2 ⟨h1,?_⟩
  rw[Int.toNat_natCast]at h2 ⊢
  unfold anc at h2 ⊢
  rw[ht.rnd]at h2 ⊢
  exact (anc_up hg.tab s.K z hz ht v h2).2 u hb
theorem early_keep {s:SysF} {ch:List Int} (hg:GoodS s s.N s.K) {v u:Nat} (hv:v<s.tab.length) (hb:befV s.tab v=u) (hu:u<v) (h0:0≤nth (earlyL s ch) u):nth (earlyL s ch) u=nth (earlyL s ch) v:=by
  by_cases hn:laterL s.tab (decL s s.N s.K) v=[]
  · exact (earlyL_none hv hn hb hu).symm
  · obtain ⟨h1,h2⟩:=earlyL_some (ch:=ch) hv hn
    have hu1:=later_up hg hb h1
    have hun:laterL s.tab (decL s s.N s.K) u≠[]:=fun e=>by rw[e]at hu1;cases hu1
    obtain ⟨h3,h4⟩:=earlyL_some (ch:=ch) (by omega:u<s.tab.length) hun
    rcases h4 with ⟨h5,h6⟩ | ⟨_,h6⟩
    · rcases h2 with ⟨_,h7⟩ | ⟨h7,_⟩
      · rw[h6,h7];exact (h5 _ hu1).symm
      · exact absurd (fun x hx=>by rw[h5 x (later_up hg hb hx),h5 _ hu1]) h7
    · omega
theorem early_rel {s:SysF} {ch:List Int} (hg:GoodS s s.N s.K) {x:Int} (hx:x∈decL s s.N s.K):nth (earlyL s ch) x.toNat=nth ch x.toNat:=by
  obtain ⟨z,q,rfl,hz,ht⟩:=decL_final hg hx
  rw[Int.toNat_natCast]
  have hin:(z:Int)∈laterL s.tab (decL s s.N s.K) z:=laterL_mem.2 ⟨hx,by rw[Int.toNat_natCast];exact ancL_head _ _ _⟩
  have hall:∀y∈laterL s.tab (decL s s.N s.K) z,y=(z:Int):=fun y hy=>by
    obtain ⟨h1,h2⟩:=laterL_mem.1 hy
    obtain ⟨y',q',rfl,hy',ht'⟩:=decL_final hg h1
    rw[Int.toNat_natCast]at h2
    unfold anc at h2
    rw[ht'.rnd]at h2
    obtain ⟨⟨k',_,_,g3,g4⟩,_⟩:=anc_up hg.tab s.K y' hy' ht' z h2
    have:k'=s.K:=by have a1:=g3.k0;have a2:=ht.k0;omega
    rw[g4 this]
  obtain ⟨h1,h2⟩:=earlyL_some (ch:=ch) hz fun e=>by rw[e]at hin;cases hin
  rcases h2 with ⟨_,h3⟩ | ⟨h3,_⟩
  · rw[h3,hall _ h1,Int.toNat_natCast]
  · exact absurd (fun y hy=>by rw[hall y hy,hall _ h1]) h3
theorem early_form {s:SysF} {ch:List Int} (hv:verE s=0) (hg:GoodS s s.N s.K) (hc:Chosen s ch):ruleE s (earlyL s ch)=0:=by
  unfold ruleE formE
  rw[if_pos hv,if_pos (earlyL_len s ch)]
  refine firstE_zero fun v hvl=>?_
  rw[earlyL_len]at hvl
  have hval:=early_val hg.tab hc (v+1) v (by omega) hvl
  have ho:1≤s.p.outs:=by
    have:=hg.pok.t
    have h2:=checkT_zero this
    omega
  unfold frmV
  rw[if_neg (by omega)]
  rcases hg.tab.bef hvl with hb | ⟨u,hu,hb⟩
  · rw[if_neg (by omega)]
  · rw[if_neg]
    rw[hb,Int.toNat_natCast]
    rintro ⟨_,h0,h1⟩
    exact h1 (early_keep hg hvl hb hu h0)
theorem early_earE {s:SysF} {ch:List Int} (hv:verE s=0) (hl:ch.length=s.tab.length) (hc:Chosen s ch):earE s ch=0:=by
  unfold earE
  rw[if_pos hv,if_pos hl]
  refine firstE_zero fun i hi=>?_
  have:=hc _ (nth_mem hi)
  unfold chkV
  rw[if_neg (by omega),if_neg (by omega)]
theorem fin_rel {s:SysF} (hg:GoodS s s.N s.K) {e q f:Nat} (he:e<s.ex.length) (hq:q<s.N) (hf:fltyW (nthX s.ex e).word=f) (hb:f.testBit q=false):nth (finL s e) q∈decL s s.N s.K:=by
  obtain ⟨v,hv,h5,h6⟩:=hg.view he (Nat.le_refl _) hq
  refine passL_mem.2 ⟨v,h5,hv,relB_iff.2 ⟨e,he,q,hq,?_⟩⟩
  unfold relE
  rw[h5,oblB_is hf hq,hb];simp
theorem agrB_congr {f:Nat} {a b v:List Int} (h:∀p,p<v.length→f.testBit p=false→nth a p=nth b p):agrB f a v=agrB f b v:=by
  unfold agrB
  rw[Bool.eq_iff_iff]
  simp only[List.all_eq_true,List.mem_range,Bool.or_eq_true,decide_eq_true_iff]
  constructor<;>intro h1 p hp
  · rcases h1 p hp with h2 | h2
    · exact .inl h2
    · cases hb:f.testBit p with
      | true=>exact .inl rfl
      | false=>right;rw[←h p hp hb];exact h2
  · rcases h1 p hp with h2 | h2
    · exact .inl h2
    · cases hb:f.testBit p with
      | true=>exact .inl rfl
      | false=>right;rw[h p hp hb];exact h2
theorem early_ok {s:SysF} {ch:List Int} (hg:GoodS s s.N s.K) {e:Nat} (he:e<s.ex.length):okE s (earlyL s ch) e=okE s ch e:=by
  obtain ⟨f,hf,_⟩:=hg.flty he
  obtain ⟨c,hx⟩:=hg.ex e he
  have hfl:=(hg.fin he).1
  unfold okE mayB
  rw[hf,Int.toNat_natCast,hx.case,Int.toNat_natCast]
  rw[Bool.eq_iff_iff]
  simp only[List.any_eq_true]
  have key:∀v∈vecsOf (nthC s.p.cs c) f,agrB f (valsL (earlyL s ch) (finL s e)) v=agrB f (valsL ch (finL s e)) v:=fun v hv=>agrB_congr fun p hp hb=>by
    have hl:=(hg.pok.vecs hx.clt v hv).1
    rw[valsL_at (by omega),valsL_at (by omega)]
    exact early_rel hg (fin_rel hg he (by omega) hf hb)
  constructor<;>rintro ⟨v,hv,h⟩
  · exact ⟨v,hv,by rw[←key v hv];exact h⟩
  · exact ⟨v,hv,by rw[key v hv];exact h⟩
theorem minT_congr {f g:Nat→Bool}:∀(n k:Nat),(∀i,k≤i→i<k+n→f i=g i)→minT f k n=minT g k n
  | 0,_,_=>rfl
  | n+1,k,h=>by
    unfold minT
    rw[h k (by omega) (by omega),minT_congr n (k+1) fun i h1 h2=>h i (by omega) (by omega)]
theorem early_sol {s:SysF} {ch:List Int} (hv:verE s=0) (hg:GoodS s s.N s.K) (hc:Chosen s ch):solT s (earlyL s ch)=if failE s ch<0 then (true,0,0) else (false,failE s ch,0):=by
  have h:failE s (earlyL s ch)=failE s ch:=minT_congr _ _ fun i _ hi=>by rw[early_ok hg (by omega)]
  unfold solT
  rw[if_pos (early_form hv hg hc),h]
theorem minT_snoc (f:Nat→Bool):∀(n k:Nat),minT f k (n+1)=if 0≤minT f k n then minT f k n else if f (k+n) then ((k+n:Nat):Int) else -1
  | 0,k=>by
    simp[minT]
  | n+1,k=>by
    rw[show minT f k (n+1+1)=if f k then (k:Int) else minT f (k+1) (n+1) from rfl,show minT f k (n+1)=if f k then (k:Int) else minT f (k+1) n from rfl]
    by_cases h:f k=true
    · rw[if_pos h,if_pos h,if_pos (by omega)]
    · rw[if_neg h,if_neg h,minT_snoc f n (k+1),show k+1+n=k+(n+1) by omega]
def vAt (s:SysF) (e k q:Nat):Nat:=(nth (nthL (nthX s.ex e).vs k) q).toNat
theorem vAt_lt {s:SysF} (hg:GoodS s s.N s.K) {e k q:Nat} (he:e<s.ex.length) (hk:k≤s.K) (hq:q<s.N):nth (nthL (nthX s.ex e).vs k) q=vAt s e k q∧vAt s e k q<s.tab.length:=by
  obtain ⟨v,hv,h5,h6⟩:=hg.view he hk hq
  unfold vAt
  rw[h5,Int.toNat_natCast];exact ⟨rfl,hv⟩
end Go.Proofs.YtcopehiceihdaaaGreat
