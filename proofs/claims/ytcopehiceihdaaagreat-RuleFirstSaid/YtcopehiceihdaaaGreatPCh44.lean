/- Part of the proof that the laws of chapter 45 answer true for every input. -/
import Derived.Test.YtcopehiceihdaaaGreatPCh43
set_option linter.unusedSimpArgs false
set_option linter.unnecessarySimpa false
set_option linter.unusedVariables false
set_option maxRecDepth 100000
set_option maxHeartbeats 40000000
namespace Go.Proofs.YtcopehiceihdaaaGreat
theorem soonB_iff {s:SysF} {a b:List Int}:soonB s a b=true↔∀e,e<s.ex.length→∀q,q<s.N→badB s a b e q=false:=by
  unfold soonB soonTo soonE
  simp only[List.all_eq_true,List.mem_range,Bool.not_eq_true']
theorem badB_no {s:SysF} {a b:List Int} {e q:Nat}:badB s a b e q=false↔(oblB s e q=true→0≤rdV s b e q→0≤rdV s a e q∧rdV s a e q≤rdV s b e q):=by
  unfold badB
  cases oblB s e q
  · simp
  · simp only[Bool.true_and,Bool.and_eq_false_iff,decide_eq_false_iff_not,Bool.or_eq_false_iff]
    constructor
    · intro h _ h0;rcases h with h | h
      · exact absurd h0 h
      · omega
    · intro h
      by_cases h0:0≤rdV s b e q
      · right;have:=h trivial h0;omega
      · left;exact h0
theorem meaP_some {ob:Nat→Bool} {rd:Nat→Int} (ab:Int×Int):∀j,(meaP ob rd j ab).isSome=true↔∀q,q<j→ob q=true→0≤rd q
  | 0=>by simp[meaP]
  | j+1=>by
    have ih:=meaP_some (ob:=ob) (rd:=rd) ab j
    unfold meaP
    cases hm:meaP ob rd j ab with
    | none=>
      rw[hm]at ih
      simp only[Option.bind_none]
      constructor
      · intro h;simp at h
      · intro h;exact ih.2 fun q hq=>h q (by omega)
    | some x=>
      rw[hm]at ih
      have ih':=ih.1 rfl
      simp only[Option.bind_some]
      unfold stepM
      cases ho:ob j with
      | false=>
        rw[if_neg (by simp)]
        refine ⟨fun _ q hq hoq=>?_,fun _=>rfl⟩
        by_cases e:q=j
        · subst e;rw[ho]at hoq;cases hoq
        · exact ih' q (by omega) hoq
      | true=>
        rw[if_pos rfl]
        by_cases h0:rd j<0
        · rw[if_pos h0]
          constructor
          · intro h;simp at h
          · intro h;have:=h j (by omega) ho;omega
        · rw[if_neg h0]
          refine ⟨fun _ q hq hoq=>?_,fun _=>rfl⟩
          by_cases e:q=j
          · subst e;omega
          · exact ih' q (by omega) hoq
theorem meaE_some {OB:Nat→Nat→Bool} {RD:Nat→Nat→Int} {N:Nat}:∀k,(meaE OB RD N k).isSome=true↔∀e,e<k→∀q,q<N→OB e q=true→0≤RD e q
  | 0=>by simp[meaE]
  | k+1=>by
    have ih:=meaE_some (OB:=OB) (RD:=RD) (N:=N) k
    unfold meaE
    cases hm:meaE OB RD N k with
    | none=>
      rw[hm]at ih
      simp only[Option.bind_none]
      constructor
      · intro h;simp at h
      · intro h;exact ih.2 fun e he=>h e (by omega)
    | some x=>
      rw[hm]at ih
      have ih':=ih.1 rfl
      simp only[Option.bind_some]
      rw[meaP_some]
      constructor
      · intro h e he q hq ho
        by_cases ee:e=k
        · subst ee;exact h q hq ho
        · exact ih' e (by omega) q hq ho
      · intro h q hq ho;exact h k (by omega) q hq ho
theorem measT_ok {s:SysF} {ch:List Int} (h:ruleE s ch=0):(measT s ch).2.2=0↔∀e,e<s.ex.length→∀q,q<s.N→oblB s e q=true→0≤rdV s ch e q:=by
  rw[←meaE_some]
  unfold measT meaS
  rw[if_pos h]
  cases meaE (oblB s) (rdV s ch) s.N s.ex.length<;>simp
theorem soon_meas {s:SysF} {a b:List Int} (ha:ruleE s a=0) (hb:ruleE s b=0) (h:soonB s a b=true) (hm:(measT s b).2.2=0):(measT s a).2.2=0:=(measT_ok ha).2 fun e he q hq ho=>
  (badB_no.1 (soonB_iff.1 h e he q hq) ho ((measT_ok hb).1 hm e he q hq ho)).1
theorem earlT_ok {s:SysF} {a b:List Int} (ha:ruleE s a=0) (hb:ruleE s b=0):earlT s a b=(soonB s a b,0):=by
  unfold earlT
  rw[if_pos ha,if_pos (ruleE_ok hb).2.2]
end Go.Proofs.YtcopehiceihdaaaGreat
namespace Go.Proofs.YtcopehiceihdaaaGreat
theorem TabOK.prev {N K:Nat} {T:List (List Int)} (hT:TabOK N K T) {v q k:Nat} (hv:v<T.length) (h:TabV N K T v q k):(k=0∧befV T v= -1)∨∃u:Nat,0<k∧u<v∧befV T v=u∧TabV N K T u q (k - 1):=by
  rcases h.bef hT.1 with h0 | ⟨u,h1,h2,h3,_,h4,h5⟩
  · exact .inl h0
  · obtain ⟨q',k',h'⟩:=hT.2 u (by omega)
    have e1:q'=q:=by have:=h'.q0;omega
    have e2:k'=k - 1:=by have:=h'.k0;omega
    subst e1 e2
    exact .inr ⟨u,h1,h2,h3,h'⟩
theorem ancL_head (T:List (List Int)):∀k v,v∈ancL T k v
  | 0,v=>by simp[ancL]
  | k+1,v=>by simp[ancL]
theorem anc_up {N K:Nat} {T:List (List Int)} (hT:TabOK N K T) {q:Nat}:∀k x,x<T.length→TabV N K T x q k→∀v∈ancL T k x,(∃k',k'≤k∧v≤x∧TabV N K T v q k'∧(k'=k→v=x))∧∀u:Nat,befV T v=u→u∈ancL T k x
  | 0,x,hx,h,v,hv=>by
    have e:v=x:=by simpa[ancL] using hv
    subst e
    refine ⟨⟨0,Nat.le_refl _,Nat.le_refl _,h,fun _=>rfl⟩,fun u hu=>?_⟩
    rcases hT.prev hx h with ⟨_,h1⟩ | ⟨u',h1,_⟩<;>omega
  | k+1,x,hx,h,v,hv=>by
    rcases hT.prev hx h with ⟨h0,_⟩ | ⟨y,_,h2,h3,h4⟩
    · omega
    · rw[Nat.add_sub_cancel]at h4
      have ih:=anc_up hT k y (by omega) h4
      have et:(befV T x).toNat=y:=by rw[h3];exact Int.toNat_natCast y
      unfold ancL at hv ⊢
      rw[et]at hv ⊢
      rcases List.mem_cons.1 hv with e | hv
      · subst e
        refine ⟨⟨k+1,Nat.le_refl _,Nat.le_refl _,h,fun _=>rfl⟩,fun u hu=>?_⟩
        have:u=y:=by omega
        subst this
        exact List.mem_cons_of_mem _ (ancL_head T k u)
      · obtain ⟨⟨k',g1,g2,g3,g4⟩,g5⟩:=ih v hv
        exact ⟨⟨k',by omega,by omega,g3,fun e=>by omega⟩,fun u hu=>List.mem_cons_of_mem _ (g5 u hu)⟩
theorem early_at (T:List (List Int)) (D ch:List Int) {v:Nat}:∀{n:Nat},v<n→nth (earlyTo T D ch n) v=valueL T ch (earlyTo T D ch v) (laterL T D v) v
  | 0,h=>by omega
  | n+1,h=>by
    have hl:=earlyTo_len T D ch n
    rw[show earlyTo T D ch (n+1)=earlyTo T D ch n++[valueL T ch (earlyTo T D ch n) (laterL T D n) n] from rfl]
    by_cases e:v<n
    · rw[nth_app (by omega)];exact early_at T D ch e
    · have e2:v=n:=by omega
      subst e2
      have:=nth_last (l:=earlyTo T D ch v) (x:=valueL T ch (earlyTo T D ch v) (laterL T D v) v)
      rw[hl]at this;exact this
theorem early_pre (T:List (List Int)) (D ch:List Int) {u k n:Nat} (hu:u<k) (hk:k≤n):nth (earlyTo T D ch k) u=nth (earlyTo T D ch n) u:=by
  rw[early_at T D ch hu,early_at T D ch (by omega:u<n)]
def Chosen (s:SysF) (ch:List Int):Prop:=∀x∈decL s s.N s.K,0≤nth ch x.toNat∧nth ch x.toNat<s.p.outs
def earlyL (s:SysF) (ch:List Int):List Int:=earlyTo s.tab (decL s s.N s.K) ch s.tab.length
theorem earlyL_len (s:SysF) (ch:List Int):(earlyL s ch).length=s.tab.length:=earlyTo_len _ _ _ _
theorem earlyL_at (s:SysF) (ch:List Int) {v:Nat} (hv:v<s.tab.length):nth (earlyL s ch) v=valueL s.tab ch (earlyTo s.tab (decL s s.N s.K) ch v) (laterL s.tab (decL s s.N s.K) v) v:=early_at _ _ _ hv
theorem earlyL_none {s:SysF} {ch:List Int} {v:Nat} (hv:v<s.tab.length) (h:laterL s.tab (decL s s.N s.K) v=[]) {u:Nat} (hb:befV s.tab v=u) (hu:u<v):nth (earlyL s ch) v=nth (earlyL s ch) u:=by
  rw[earlyL_at s ch hv,h]
  unfold valueL
  rw[if_pos (show ([]:List Int).length=0 from rfl),if_neg (by omega),hb,Int.toNat_natCast]
  exact early_pre _ _ _ hu (by omega)
theorem earlyL_some {s:SysF} {ch:List Int} {v:Nat} (hv:v<s.tab.length) (h:laterL s.tab (decL s s.N s.K) v≠[]):
    nth (laterL s.tab (decL s s.N s.K) v) 0∈laterL s.tab (decL s s.N s.K) v∧((∀x∈laterL s.tab (decL s s.N s.K) v,nth ch x.toNat=nth ch (nth (laterL s.tab (decL s s.N s.K) v) 0).toNat)∧nth (earlyL s ch) v=nth ch (nth (laterL s.tab (decL s s.N s.K) v) 0).toNat∨¬(∀x∈laterL s.tab (decL s s.N s.K) v,nth ch x.toNat=nth ch (nth (laterL s.tab (decL s s.N s.K) v) 0).toNat)∧nth (earlyL s ch) v= -1):=by
  have hl:0<(laterL s.tab (decL s s.N s.K) v).length:=List.length_pos_iff.2 h
  refine ⟨nth_mem hl,?_⟩
  rw[earlyL_at s ch hv]
  unfold valueL
  rw[if_neg (by omega)]
  by_cases h1:∀x∈laterL s.tab (decL s s.N s.K) v,nth ch x.toNat=nth ch (nth (laterL s.tab (decL s s.N s.K) v) 0).toNat
  · rw[if_pos h1];exact .inl ⟨h1,rfl⟩
  · rw[if_neg h1];exact .inr ⟨h1,rfl⟩
theorem laterL_mem {T:List (List Int)} {D:List Int} {v:Nat} {x:Int}:x∈laterL T D v↔x∈D∧v∈anc T x.toNat:=by
  unfold laterL
  rw[List.mem_filter,decide_eq_true_iff]
theorem early_val {s:SysF} {ch:List Int} (hT:TabOK s.N s.K s.tab) (hc:Chosen s ch):∀(n v:Nat),v<n→v<s.tab.length→nth (earlyL s ch) v= -1∨0≤nth (earlyL s ch) v∧nth (earlyL s ch) v<s.p.outs
  | 0,v,h,_=>by omega
  | n+1,v,h,hv=>by
    by_cases h0:laterL s.tab (decL s s.N s.K) v=[]
    · rcases hT.bef hv with hb | ⟨u,hu,hb⟩
      · left
        rw[earlyL_at s ch hv,h0]
        unfold valueL
        rw[if_pos (show ([]:List Int).length=0 from rfl),if_pos (by omega)]
      · rw[earlyL_none hv h0 hb hu]
        exact early_val hT hc n u (by omega) (by omega)
    · obtain ⟨h1,h2⟩:=earlyL_some (ch:=ch) hv h0
      rcases h2 with ⟨_,h2⟩ | ⟨_,h2⟩
      · right;rw[h2];exact hc _ (laterL_mem.1 h1).1
      · exact .inl h2
theorem decL_final {s:SysF} (hg:GoodS s s.N s.K) {x:Int} (hx:x∈decL s s.N s.K):∃z q:Nat,x=z∧z<s.tab.length∧TabV s.N s.K s.tab z q s.K:=by
  obtain ⟨z,h1,h2,h3⟩:=passL_mem.1 hx
  obtain ⟨e,he,q,hq,h4⟩:=relB_iff.1 h3
  obtain ⟨v,hv,h5,h6⟩:=hg.view he (Nat.le_refl _) hq
  unfold relE at h4
  rw[Bool.and_eq_true,beq_iff_eq]at h4
  have:v=z:=by have:=h4.1;omega
  subst this
  exact ⟨v,q,h1,h2,h6⟩
theorem later_up {s:SysF} (hg:GoodS s s.N s.K) {v u:Nat} (hb:befV s.tab v=u) {x:Int} (hx:x∈laterL s.tab (decL s s.N s.K) v):x∈laterL s.tab (decL s s.N s.K) u:=by
  obtain ⟨h1,h2⟩:=laterL_mem.1 hx
  obtain ⟨z,q,rfl,hz,ht⟩:=decL_final hg h1
  refine laterL_mem.2 ⟨h1,?_⟩
  rw[Int.toNat_natCast]at h2 ⊢
  unfold anc at h2 ⊢
  rw[ht.rnd]at h2 ⊢
  exact (anc_up hg.tab s.K z hz ht v h2).2 u hb
theorem early_keep {s:SysF} {ch:List Int} (hg:GoodS s s.N s.K) {v u:Nat} (hv:v<s.tab.length) (hb:befV s.tab v=u) (hu:u<v) (h0:0≤nth (earlyL s ch) u):nth (earlyL s ch) u=nth (earlyL s ch) v:=by
  by_cases hn:laterL s.tab (decL s s.N s.K) v=[]
  · exact (earlyL_none hv hn hb hu).symm
  · obtain ⟨h1,h2⟩:=earlyL_some (ch:=ch) hv hn
    have hu1:=later_up hg hb h1
    have hun:laterL s.tab (decL s s.N s.K) u≠[]:=fun e=>by rw[e]at hu1;cases hu1
    obtain ⟨h3,h4⟩:=earlyL_some (ch:=ch) (by omega:u<s.tab.length) hun
    rcases h4 with ⟨h5,h6⟩ | ⟨_,h6⟩
    · rcases h2 with ⟨_,h7⟩ | ⟨h7,_⟩
      · rw[h6,h7];exact (h5 _ hu1).symm
      · exact absurd (fun x hx=>by rw[h5 x (later_up hg hb hx),h5 _ hu1]) h7
    · omega
theorem early_rel {s:SysF} {ch:List Int} (hg:GoodS s s.N s.K) {x:Int} (hx:x∈decL s s.N s.K):nth (earlyL s ch) x.toNat=nth ch x.toNat:=by
  obtain ⟨z,q,rfl,hz,ht⟩:=decL_final hg hx
  rw[Int.toNat_natCast]
  have hin:(z:Int)∈laterL s.tab (decL s s.N s.K) z:=laterL_mem.2 ⟨hx,by rw[Int.toNat_natCast];exact ancL_head _ _ _⟩
  have hall:∀y∈laterL s.tab (decL s s.N s.K) z,y=(z:Int):=fun y hy=>by
    obtain ⟨h1,h2⟩:=laterL_mem.1 hy
    obtain ⟨y',q',rfl,hy',ht'⟩:=decL_final hg h1
    rw[Int.toNat_natCast]at h2
    unfold anc at h2
    rw[ht'.rnd]at h2
    obtain ⟨⟨k',_,_,g3,g4⟩,_⟩:=anc_up hg.tab s.K y' hy' ht' z h2
    have:k'=s.K:=by have a1:=g3.k0;have a2:=ht.k0;omega
    rw[g4 this]
  obtain ⟨h1,h2⟩:=earlyL_some (ch:=ch) hz fun e=>by rw[e]at hin;cases hin
  rcases h2 with ⟨_,h3⟩ | ⟨h3,_⟩
  · rw[h3,hall _ h1,Int.toNat_natCast]
  · exact absurd (fun y hy=>by rw[hall y hy,hall _ h1]) h3
theorem early_form {s:SysF} {ch:List Int} (hv:verE s=0) (hg:GoodS s s.N s.K) (hc:Chosen s ch):ruleE s (earlyL s ch)=0:=by
  unfold ruleE formE
  rw[if_pos hv,if_pos (earlyL_len s ch)]
  refine firstE_zero fun v hvl=>?_
  rw[earlyL_len]at hvl
  have hval:=early_val hg.tab hc (v+1) v (by omega) hvl
  have ho:1≤s.p.outs:=by
    have:=hg.pok.t
    have h2:=checkT_zero this
    omega
  unfold frmV
  rw[if_neg (by omega)]
  rcases hg.tab.bef hvl with hb | ⟨u,hu,hb⟩
  · rw[if_neg (by omega)]
  · rw[if_neg]
    rw[hb,Int.toNat_natCast]
    rintro ⟨_,h0,h1⟩
    exact h1 (early_keep hg hvl hb hu h0)
theorem early_earE {s:SysF} {ch:List Int} (hv:verE s=0) (hl:ch.length=s.tab.length) (hc:Chosen s ch):earE s ch=0:=by
  unfold earE
  rw[if_pos hv,if_pos hl]
  refine firstE_zero fun i hi=>?_
  have:=hc _ (nth_mem hi)
  unfold chkV
  rw[if_neg (by omega),if_neg (by omega)]
theorem fin_rel {s:SysF} (hg:GoodS s s.N s.K) {e q f:Nat} (he:e<s.ex.length) (hq:q<s.N) (hf:fltyW (nthX s.ex e).word=f) (hb:f.testBit q=false):nth (finL s e) q∈decL s s.N s.K:=by
  obtain ⟨v,hv,h5,h6⟩:=hg.view he (Nat.le_refl _) hq
  refine passL_mem.2 ⟨v,h5,hv,relB_iff.2 ⟨e,he,q,hq,?_⟩⟩
  unfold relE
  rw[h5,oblB_is hf hq,hb];simp
theorem form_keep {s:SysF} {ch:List Int} (h:formE s ch=0) {v u:Nat} (hv:v<s.tab.length) (hb:befV s.tab v=u) (h0:0≤nth ch u):nth ch u=nth ch v:=by
  have hl:=formE_len h
  unfold formE at h
  rw[if_pos hl]at h
  have:=firstE_iff.1 h v (by omega)
  unfold frmV at this
  split at this
  · cases this
  · split at this
    · cases this
    · rename_i h2
      rw[hb,Int.toNat_natCast]at h2
      apply Decidable.byContradiction
      intro hne
      exact h2 ⟨by omega,h0,hne⟩
def vAt (s:SysF) (e k q:Nat):Nat:=(nth (nthL (nthX s.ex e).vs k) q).toNat
theorem vAt_lt {s:SysF} (hg:GoodS s s.N s.K) {e k q:Nat} (he:e<s.ex.length) (hk:k≤s.K) (hq:q<s.N):nth (nthL (nthX s.ex e).vs k) q=vAt s e k q∧vAt s e k q<s.tab.length:=by
  obtain ⟨v,hv,h5,h6⟩:=hg.view he hk hq
  unfold vAt
  rw[h5,Int.toNat_natCast];exact ⟨rfl,hv⟩
theorem vAt_bef {s:SysF} (hg:GoodS s s.N s.K) {e k q:Nat} (he:e<s.ex.length) (hk:k<s.K) (hq:q<s.N):befV s.tab (vAt s e (k+1) q)=vAt s e k q:=by
  obtain ⟨c,hx⟩:=hg.ex e he
  have hN:=hg.pok.n1
  obtain ⟨v,hv,h1,h2⟩:=hx.at' (k+1) (by omega) q hq
  have e1:vAt s e (k+1) q=v:=by unfold vAt;rw[h1];exact Int.toNat_natCast v
  obtain ⟨d0,d1,_⟩:=vwE_head s.N (nthC s.p.cs c).inn (nthX s.ex e).word (nthX s.ex e).vs (k+1) q
  rw[←h2]at d0 d1
  rw[e1]
  unfold befV
  rw[d1,if_neg (by omega),d0,Int.toNat_natCast]
  have e2:nth (nthL s.tab v) (3+q)=heardV (nthL (nthX s.ex e).word k) s.N q (nthL (nthX s.ex e).vs k) q:=by rw[h2];exact nth_seenV (by omega)
  have hb:=((hg.words e he k (by omega)).big q (by omega)).1
  rw[e2]
  unfold heardV
  rw[if_pos ⟨hq,hb⟩]
  exact (vAt_lt hg he (by omega) hq).1
theorem keep_up {s:SysF} {ch:List Int} (hg:GoodS s s.N s.K) (h:formE s ch=0) {e q k:Nat} (he:e<s.ex.length) (hq:q<s.N) (h0:0≤nth ch (vAt s e k q)):∀m,k+m≤s.K→nth ch (vAt s e (k+m) q)=nth ch (vAt s e k q)
  | 0,_=>rfl
  | m+1,hm=>by
    have ih:=keep_up hg h he hq h0 m (by omega)
    rw[←ih]
    exact (form_keep h (vAt_lt hg he (by omega:k+m+1≤s.K) hq).2 (vAt_bef hg he (by omega) hq) (by rw[ih];exact h0)).symm
theorem minT_spec {f:Nat→Bool}:∀(n k:Nat),(minT f k n= -1∧∀i,k≤i→i<k+n→f i=false)∨∃t:Nat,minT f k n=t∧k≤t∧t<k+n∧f t=true∧∀i,k≤i→i<t→f i=false
  | 0,k=>.inl ⟨rfl,fun i h1 h2=>by omega⟩
  | n+1,k=>by
    rw[show minT f k (n+1)=if f k then (k:Int) else minT f (k+1) n from rfl]
    by_cases h:f k=true
    · rw[if_pos h];exact .inr ⟨k,rfl,Nat.le_refl _,by omega,h,fun i h1 h2=>by omega⟩
    · rw[if_neg h]
      have hf:f k=false:=by simpa using h
      rcases minT_spec (f:=f) n (k+1) with ⟨h1,h2⟩ | ⟨t,h1,h2,h3,h4,h5⟩
      · refine .inl ⟨h1,fun i h3 h4=>?_⟩
        by_cases e:i=k
        · subst e;exact hf
        · exact h2 i (by omega) (by omega)
      · refine .inr ⟨t,h1,by omega,by omega,h4,fun i h6 h7=>?_⟩
        by_cases e:i=k
        · subst e;exact hf
        · exact h5 i (by omega) (by omega)
theorem times_law {s:SysF} {ch:List Int} (hg:GoodS s s.N s.K) (h:formE s ch=0) {e q:Nat} (he:e<s.ex.length) (hq:q<s.N):
    (∀k,k≤s.K→((0≤nth ch (vAt s e k q)↔0≤rdV s ch e q∧rdV s ch e q≤k)∧(0≤nth ch (vAt s e k q)→nth ch (vAt s e k q)=nth ch (vAt s e s.K q))))∧ -1≤rdV s ch e q∧rdV s ch e q≤s.K∧(rdV s ch e q<0↔nth ch (vAt s e s.K q)<0):=by
  have hd:∀k,decAt ch (nthX s.ex e).vs q k=decide (0≤nth ch (vAt s e k q)):=fun k=>rfl
  have hs:=minT_spec (f:=decAt ch (nthX s.ex e).vs q) (s.K+1) 0
  have hup:∀k,k≤s.K→0≤nth ch (vAt s e k q)→nth ch (vAt s e k q)=nth ch (vAt s e s.K q):=fun k hk h0=>by
    have:=keep_up hg h he hq h0 (s.K - k) (by omega)
    rw[show k+(s.K - k)=s.K by omega]at this
    exact this.symm
  rcases hs with ⟨h1,h2⟩ | ⟨t,h1,h2,h3,h4,h5⟩
  · have hr:rdV s ch e q= -1:=h1
    rw[hr]
    refine ⟨fun k hk=>⟨?_,hup k hk⟩,by omega,by omega,?_⟩
    · have:=h2 k (by omega) (by omega)
      rw[hd,decide_eq_false_iff_not]at this
      constructor
      · intro h0;exact absurd h0 this
      · intro h0;omega
    · have:=h2 s.K (by omega) (by omega)
      rw[hd,decide_eq_false_iff_not]at this
      constructor
      · intro _;omega
      · intro _;omega
  · have hr:rdV s ch e q=t:=h1
    rw[hr]
    rw[hd,decide_eq_true_iff]at h4
    refine ⟨fun k hk=>⟨?_,hup k hk⟩,by omega,by omega,?_⟩
    · constructor
      · intro h0
        refine ⟨by omega,?_⟩
        apply Decidable.byContradiction
        intro hlt
        have:=h5 k (by omega) (by omega)
        rw[hd,decide_eq_false_iff_not]at this
        exact this h0
      · intro h0
        have:=keep_up hg h he hq h4 (k - t) (by omega)
        rw[show t+(k - t)=k by omega]at this
        rw[this];exact h4
    · have:=hup t (by omega) h4
      omega
theorem meaP_le {ob:Nat→Bool} {rd rd':Nat→Int}:∀(j:Nat) (ab ab' x y:Int×Int),(∀q,q<j→ob q=true→0≤rd q∧rd q≤rd' q)→ab.1≤ab'.1→ab.2≤ab'.2→meaP ob rd j ab=some x→meaP ob rd' j ab'=some y→x.1≤y.1∧x.2≤y.2
  | 0,ab,ab',x,y,_,h1,h2,hx,hy=>by
    cases hx;cases hy;exact ⟨h1,h2⟩
  | j+1,ab,ab',x,y,h,h1,h2,hx,hy=>by
    unfold meaP at hx hy
    cases e1:meaP ob rd j ab with
    | none=>rw[e1]at hx;cases hx
    | some x'=>
      cases e2:meaP ob rd' j ab' with
      | none=>rw[e2]at hy;cases hy
      | some y'=>
        have ih:=meaP_le j ab ab' x' y' (fun q hq=>h q (by omega)) h1 h2 e1 e2
        rw[e1]at hx
        rw[e2]at hy
        simp only[Option.bind_some]at hx hy
        unfold stepM at hx hy
        cases ho:ob j with
        | false=>
          rw[ho]at hx hy
          rw[if_neg (by simp)]at hx hy
          cases hx;cases hy;exact ih
        | true=>
          have hj:=h j (by omega) ho
          rw[ho]at hx hy
          rw[if_pos rfl,if_neg (by omega)]at hx hy
          cases hx;cases hy
          refine ⟨?_,by dsimp only;omega⟩
          dsimp only
          split<;>split<;>omega
theorem meaE_le {OB:Nat→Nat→Bool} {RD RD':Nat→Nat→Int} {N:Nat}:∀(k:Nat) (x y:Int×Int),(∀e,e<k→∀q,q<N→OB e q=true→0≤RD e q∧RD e q≤RD' e q)→meaE OB RD N k=some x→meaE OB RD' N k=some y→x.1≤y.1∧x.2≤y.2
  | 0,x,y,_,hx,hy=>by cases hx;cases hy;exact ⟨Int.le_refl _,Int.le_refl _⟩
  | k+1,x,y,h,hx,hy=>by
    unfold meaE at hx hy
    cases e1:meaE OB RD N k with
    | none=>rw[e1]at hx;cases hx
    | some x'=>
      cases e2:meaE OB RD' N k with
      | none=>rw[e2]at hy;cases hy
      | some y'=>
        have ih:=meaE_le k x' y' (fun e he=>h e (by omega)) e1 e2
        rw[e1]at hx
        rw[e2]at hy
        simp only[Option.bind_some]at hx hy
        exact meaP_le N x' y' x y (fun q hq=>h k (by omega) q hq) ih.1 ih.2 hx hy
theorem meas_le {s:SysF} {a b:List Int} (ha:ruleE s a=0) (hb:ruleE s b=0) (h:soonB s a b=true) (hm:(measT s b).2.2=0):(measT s a).1≤(measT s b).1∧(measT s a).2.1≤(measT s b).2.1:=by
  have h1:=meaE_some (OB:=oblB s) (RD:=rdV s a) (N:=s.N) s.ex.length
  have h2:=meaE_some (OB:=oblB s) (RD:=rdV s b) (N:=s.N) s.ex.length
  have hob:=(measT_ok hb).1 hm
  have hso:∀e,e<s.ex.length→∀q,q<s.N→oblB s e q=true→0≤rdV s a e q∧rdV s a e q≤rdV s b e q:=fun e he q hq ho=>badB_no.1 (soonB_iff.1 h e he q hq) ho (hob e he q hq ho)
  have i1:=h1.2 fun e he q hq ho=>(hso e he q hq ho).1
  have i2:=h2.2 hob
  unfold measT meaS
  rw[if_pos ha,if_pos hb]
  cases e1:meaE (oblB s) (rdV s a) s.N s.ex.length with
  | none=>rw[e1]at i1;cases i1
  | some x=>
    cases e2:meaE (oblB s) (rdV s b) s.N s.ex.length with
    | none=>rw[e2]at i2;cases i2
    | some y=>exact meaE_le _ x y hso e1 e2
theorem early_late {s:SysF} {ch lt:List Int} (hv:verE s=0) (hg:GoodS s s.N s.K) (hc:Chosen s ch) (hl:∀v,v<s.tab.length→nth lt v=nth (earlyL s ch) v∨nth lt v= -1) (hf:∀x∈decL s s.N s.K,nth lt x.toNat=nth (earlyL s ch) x.toNat) (hr:ruleE s lt=0):
    soonB s (earlyL s ch) lt=true∧(measT s (earlyL s ch)).2.2=0∧(measT s lt).2.2=0:=by
  have he:=early_form hv hg hc
  have f1:=(ruleE_ok he).2.2
  have f2:=(ruleE_ok hr).2.2
  have hfin:∀e,e<s.ex.length→∀q,q<s.N→oblB s e q=true→0≤nth (earlyL s ch) (vAt s e s.K q)∧nth lt (vAt s e s.K q)=nth (earlyL s ch) (vAt s e s.K q):=fun e hee q hq ho=>by
    obtain ⟨f,hfl,_⟩:=hg.flty hee
    unfold oblB at ho
    rw[oblB_is hfl hq,Bool.not_eq_true']at ho
    have hm:=fin_rel hg hee hq hfl ho
    have h1:=early_rel (ch:=ch) hg hm
    have h2:=hf _ hm
    have h3:=hc _ hm
    exact ⟨by show 0≤nth (earlyL s ch) (nth (finL s e) q).toNat;rw[h1];exact h3.1,h2⟩
  refine ⟨soonB_iff.2 fun e hee q hq=>badB_no.2 fun ho h0=>?_,(measT_ok he).2 fun e hee q hq ho=>?_,(measT_ok hr).2 fun e hee q hq ho=>?_⟩
  · obtain ⟨a1,a2,a3,_⟩:=times_law hg f2 hee hq
    obtain ⟨b1,_⟩:=times_law hg f1 hee hq
    obtain ⟨t,ht⟩:∃t:Nat,rdV s lt e q=t:=⟨(rdV s lt e q).toNat,by omega⟩
    have h1:=(a1 t (by omega)).1.2 ⟨h0,by omega⟩
    have h2:=hl (vAt s e t q) (vAt_lt hg hee (by omega) hq).2
    have h3:0≤nth (earlyL s ch) (vAt s e t q):=by rcases h2 with h2 | h2<;>omega
    have:=(b1 t (by omega)).1.1 h3
    omega
  · obtain ⟨b1,b2,b3,b4⟩:=times_law hg f1 hee hq
    have:=(hfin e hee q hq ho).1
    omega
  · obtain ⟨b1,b2,b3,b4⟩:=times_law hg f2 hee hq
    have:=hfin e hee q hq ho
    omega
end Go.Proofs.YtcopehiceihdaaaGreat
