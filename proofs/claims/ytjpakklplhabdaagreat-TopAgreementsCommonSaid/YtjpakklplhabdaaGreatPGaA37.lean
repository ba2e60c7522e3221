/- Part of the proof that the laws answer true for every input. -/
import Derived.Test.YtjpakklplhabdaaGreatPGaA36
set_option linter.unusedSimpArgs false
set_option linter.unnecessarySimpa false
set_option linter.unusedVariables false
set_option maxRecDepth 100000
set_option maxHeartbeats 40000000
namespace Go.Proofs.YtjpakklplhabdaaGreat
open Go.RowKit
attribute [local go_sem ↓] Go.wp_at_zero Go.wp_at_succ
def agrB (f:Nat) (outs v:List Int):Bool:=(List.range v.length).all fun p=>f.testBit p||decide (nth outs p=nth v p)
def agrTo (f:Nat) (outs v:List Int) (k:Nat):Bool:=(List.range k).all fun p=>f.testBit p||decide (nth outs p=nth v p)
theorem Yq (f:Nat) (outs v:List Int) (k:Nat):agrTo f outs v (k+1)=(agrTo f outs v k&&(f.testBit k||decide (nth outs k=nth v k))):=by unfold agrTo;rw[List.range_succ,List.all_append];simp
theorem zar {f:Nat} {outs v:List Int} {k:Nat} (hk:k<v.length) (h:(f.testBit k||decide (nth outs k=nth v k))=false):agrB f outs v=false:=by
 cases hb:agrB f outs v with
 | false=>rfl
 | true=>rw[List.all_eq_true.1 hb k (List.mem_range.2 hk)]at h;cases h
def vecsOf (c:CaseD) (f:Nat):List (List Int):=if f=0∧0<c.calm.length then c.calm else c.out
def mayB (c:CaseD) (f:Nat) (outs:List Int):Bool:=(vecsOf c f).any (agrB f outs)
theorem zdg {S S2:Nat→Prop} {w:World} {vv vo:Value} {v outs:List Int} {f:Nat} (h:Ints S w vv v) (ho:Ints S2 w vo outs) (hl:v.length≤outs.length) (h5:v.length≤5):
  Calls Tryz.prog 73 #[vv,vo,.int .i64 f] w (QuietP w (.bool (agrB f outs v))):=by
 obtain ⟨va,vc,rfl,_⟩:=h.form
 obtain ⟨oa,oc,rfl,_⟩:=ho.form
 have HV:=zhd h
 have HO:=zhd ho
 have HB:Hid (agrB f outs v=agrTo f outs v v.length):=zhd rfl
 have HN:Hid (∀k,k<v.length→(f.testBit k||decide (nth outs k=nth v k))=false→agrB f outs v=false):=zhd fun k hk h=>zar hk h
 have HS:=zhd (Yq f outs v)
 obtain ⟨r,hr⟩:∃r,r=agrB f outs v:=⟨_,rfl⟩
 rw[←hr]at HB HN ⊢
 have hqw:QW w w:=⟨0,rfl⟩
 clear h ho hr
 go_enter Tryz.func73,Tryz.ntmps73
 go_wp2
 go_loopw [7,8,11] (fun _ _ i wr=>∃k:Nat,k≤v.length∧i=.int .i64 k∧QW w wr∧Hid (agrTo f outs v k=true)) (fun _ _ i _=>v.length - (intOf i).toNat)
 case atStart=>exact ⟨0,Nat.zero_le _,rfl,hqw,zhd rfl⟩
 case round=>
  clear hqw
  obtain ⟨k,hk,rfl,hqw,HT⟩:=hrel
  by_cases hlt:k<v.length
  case neg=>
   obtain rfl:k=v.length:=by omega
   have RR:Hid (r=true):=zhd (by rw[HB.out,HT.out])
   go_wp2
   go_ret
   exact .fin (by rw[RR.out];rfl) hqw
  have hko:k<outs.length:=by omega
  have q1:=HV.out.idx hlt
  have q2:=HO.out.idx hko
  have cv:=(HV.out.ext hqw.ext).cellN hlt
  have co:=(HO.out.ext hqw.ext).cellN hko
  have bv:=World.block_lt_of_cell? _ _ cv
  have bo:=World.block_lt_of_cell? _ _ co
  have HK:=zhd (HN.out k hlt)
  have HSK:=zhd (HS.out k)
  obtain ⟨x,hx⟩:∃x,x=nth v k:=⟨_,rfl⟩
  obtain ⟨y,hy⟩:∃y,y=nth outs k:=⟨_,rfl⟩
  rw[←hx,←hy]at HK HSK
  rw[←hx]at cv
  rw[←hy]at co
  have DB:=zb8 (a:=f) (p:=k)
  have hk64:(k:Int)<64:=by omega
  obtain ⟨bt,hbt⟩:∃bt,bt=f.testBit k:=⟨_,rfl⟩
  rw[←hbt]at DB HK HSK
  clear hx hy hbt hko
  cases bt with
  | true=>
   rw[Bool.not_true]at DB
   have HT2:Hid (agrTo f outs v (k+1)=true):=zhd (by rw[HSK.out,HT.out];rfl)
   go_wp2
   go_roundw
   case rel=>exact ⟨k+1,by omega,by go_num,hqw,HT2⟩
   case measure=>simp[intOf];omega
  | false=>
   rw[Bool.not_false]at DB
   by_cases he:y=x
   ·have d1:(y !=x)=false:=by simp[he]
    have HT2:Hid (agrTo f outs v (k+1)=true):=zhd (by rw[HSK.out,HT.out,decide_eq_true he];rfl)
    clear he
    go_wp2
    go_roundw
    case rel=>exact ⟨k+1,by omega,by go_num,hqw,HT2⟩
    case measure=>simp[intOf];omega
   ·have d1:(y !=x)=true:=by simp[he]
    have RR:Hid (r=false):=zhd (HK.out (by rw[decide_eq_false he];rfl))
    clear he
    go_wp2
    go_ret
    exact .fin (by rw[RR.out];rfl) hqw
theorem zcp {S S2:Nat→Prop} {w:World} {vv vo:Value} {v outs:List Int} {f:Nat} (h:Ints S w vv v) (ho:Ints S2 w vo outs) (hl:v.length≤outs.length) (h5:v.length≤5) (hf:f<4294967296):
  Calls Tryz.prog 85 #[vv,.int .i64 f,vo] w (QuietP w (.bool (agrB f outs v))):=by
 obtain ⟨va,vc,rfl,_⟩:=h.form
 obtain ⟨oa,oc,rfl,_⟩:=ho.form
 have HV:=zhd h
 have HO:=zhd ho
 have HB:Hid (agrB f outs v=agrTo f outs v v.length):=zhd rfl
 have HN:Hid (∀k,k<v.length→(f.testBit k||decide (nth outs k=nth v k))=false→agrB f outs v=false):=zhd fun k hk h=>zar hk h
 have HS:=zhd (Yq f outs v)
 obtain ⟨r,hr⟩:∃r,r=agrB f outs v:=⟨_,rfl⟩
 rw[←hr]at HB HN ⊢
 have hqw:QW w w:=⟨0,rfl⟩
 clear h ho hr
 go_enter Tryz.func85,Tryz.ntmps85
 go_wp2
 go_loopw [7] (fun i wr=>∃k:Nat,k≤v.length∧i=.int .i64 k∧QW w wr∧Hid (agrTo f outs v k=true)) (fun i _=>v.length - (intOf i).toNat)
 case atStart=>exact ⟨0,Nat.zero_le _,rfl,hqw,zhd rfl⟩
 case round=>
  clear hqw
  obtain ⟨k,hk,rfl,hqw,HT⟩:=hrel
  by_cases hlt:k<v.length
  case neg=>
   obtain rfl:k=v.length:=by omega
   have RR:Hid (r=true):=zhd (by rw[HB.out,HT.out])
   go_wp2
   go_ret
   exact .fin (by rw[RR.out];rfl) hqw
  have hko:k<outs.length:=by omega
  have q1:=HV.out.idx hlt
  have q2:=HO.out.idx hko
  have cv:=(HV.out.ext hqw.ext).cellN hlt
  have co:=(HO.out.ext hqw.ext).cellN hko
  have HK:=zhd (HN.out k hlt)
  have HSK:=zhd (HS.out k)
  obtain ⟨x,hx⟩:∃x,x=nth v k:=⟨_,rfl⟩
  obtain ⟨y,hy⟩:∃y,y=nth outs k:=⟨_,rfl⟩
  rw[←hx,←hy]at HK HSK
  rw[←hx]at cv
  rw[←hy]at co
  have KH:=zhd fun W=>(yE W hf (show k≤5 by omega)).mono fun _ _ h=>h.take
  have KEEP:Hid (∀w',Below wr.heap.size wr w'→(fun w':World=>w'.cell? (adr va k)=some (.int .i64 x)∧w'.cell? (adr oa k)=some (.int .i64 y)) w'):=zhd fun w' hw=>⟨zm cv hw,zm co hw⟩
  obtain ⟨bt,hbt⟩:∃bt,bt=f.testBit k:=⟨_,rfl⟩
  rw[←hbt]at KH HK HSK
  clear hx hy hbt hko cv co
  go_wp2
  cases bt with
  | true=>
   have HT2:Hid (agrTo f outs v (k+1)=true):=zhd (by rw[HSK.out,HT.out];rfl)
   refine zH (fun w':World=>w'.cell? (adr va k)=some (.int .i64 x)∧w'.cell? (adr oa k)=some (.int .i64 y)) (fun i=>false) (by kernel_rfl) ?_ (fun hHeld=>?_)
   ·exact KEEP.out _ (zh _ _ 1)
   refine anyE_take 0 (v:=?_) rfl (by kernel_rfl) (fun _ _ _ h=>h) (by rfl) ?hy0a hHeld ?r0a
   case hy0a=>(intro w hSw;(try dsimp only at hSw);go_simp;try with_reducible rfl)
   try simp only[Act.put,zsa,zsz,zss]
   refine anyE_take 1 (v:=?_) rfl (by kernel_rfl) (fun _ _ _ h=>h) (by rfl) ?hy1a hHeld ?r1a
   case hy1a=>(intro w hSw;(try dsimp only at hSw);go_simp;try with_reducible rfl)
   try simp only[Act.put,zsa,zsz,zss]
   refine anyE_one 2 rfl (by kernel_rfl) (fun K hK=>?_)
   (go_simp;go_at_call 42;refine (KH.out wr.drew).mono ?_;rintro _ w5 ⟨_,rfl,hq5,rfl⟩;have y5:=za (zh wr.heap.size wr 1) hq5.ext;have z5:=QW.trans ⟨1,rfl⟩ hq5;clear hq5)
   refine hK.out _ _ (fun _=>KEEP.out _ y5) (fun hHeld=>?_);replace hHeld:=hHeld rfl
   clear hK K
   try simp only[Act.put,zsa,zsz,zss]
   refine anyE_take 3 (v:=?_) rfl (by kernel_rfl) (fun _ _ _ h=>h) (by rfl) ?hy3a hHeld ?r3a
   case hy3a=>(intro w hSw;(try dsimp only at hSw);go_simp;try with_reducible rfl)
   try simp only[Act.put,zsa,zsz,zss]
   refine anyE_take 4 (v:=?_) rfl (by kernel_rfl) (fun _ _ _ h=>h) (by rfl) ?hy4a hHeld ?r4a
   case hy4a=>(intro w hSw;(try dsimp only at hSw);go_simp;try with_reducible rfl)
   try simp only[Act.put,zsa,zsz,zss]
   refine zG 5 rfl (by kernel_rfl) (fun _ _ _ h=>h) (by rfl) hHeld ?_
   try simp only[Act.put,zsa,zsz,zss]
   refine zG 6 rfl (by kernel_rfl) (fun _ _ _ h=>h) (by rfl) hHeld ?_
   try simp only[Act.put,zsa,zsz,zss]
   refine zG 7 rfl (by kernel_rfl) (fun _ _ _ h=>h) (by rfl) hHeld ?_
   try simp only[Act.put,zsa,zsz,zss]
   refine zG 8 rfl (by kernel_rfl) (fun _ _ _ h=>h) (by rfl) hHeld ?_
   try simp only[Act.put,zsa,zsz,zss]
   refine zG 9 rfl (by kernel_rfl) (fun _ _ _ h=>h) (by rfl) hHeld ?_
   try simp only[Act.put,zsa,zsz,zss]
   refine zG 10 rfl (by kernel_rfl) (fun _ _ _ h=>h) (by rfl) hHeld ?_
   try simp only[Act.put,zsa,zsz,zss]
   refine zG 11 rfl (by kernel_rfl) (fun _ _ _ h=>h) (by rfl) hHeld ?_
   try simp only[Act.put,zsa,zsz,zss]
   refine zG 12 rfl (by kernel_rfl) (fun _ _ _ h=>h) (by rfl) hHeld ?_
   try simp only[Act.put,zsa,zsz,zss]
   refine zG 13 rfl (by kernel_rfl) (fun _ _ _ h=>h) (by rfl) hHeld ?_
   try simp only[Act.put,zsa,zsz,zss]
   refine anyE_take 14 (v:=?_) rfl (by kernel_rfl) (fun _ _ _ h=>h) (by rfl) ?hy14a hHeld ?r14a
   case hy14a=>(intro w hSw;(try dsimp only at hSw);go_simp;try with_reducible rfl)
   try simp only[Act.put,zsa,zsz,zss]
   refine zy (by kernel_rfl) ?_ _
   have hq6:=QW.trans hqw z5
   clear hHeld KEEP KH y5 z5 hqw
   go_wp2
   go_roundw
   case rel=>exact ⟨k+1,by omega,by go_num,hq6,HT2⟩
   case measure=>simp[intOf];omega
  | false=>
   by_cases he:y=x
   ·have d1:(y !=x)=false:=by simp[he]
    have HT2:Hid (agrTo f outs v (k+1)=true):=zhd (by rw[HSK.out,HT.out,decide_eq_true he];rfl)
    clear he
    refine zH (fun w':World=>w'.cell? (adr va k)=some (.int .i64 x)∧w'.cell? (adr oa k)=some (.int .i64 y)) (fun i=>false) (by kernel_rfl) ?_ (fun hHeld=>?_)
    ·exact KEEP.out _ (zh _ _ 1)
    refine anyE_take 0 (v:=?_) rfl (by kernel_rfl) (fun _ _ _ h=>h) (by rfl) ?hy0b hHeld ?r0b
    case hy0b=>(intro w hSw;(try dsimp only at hSw);go_simp;try with_reducible rfl)
    try simp only[Act.put,zsa,zsz,zss]
    refine anyE_take 1 (v:=?_) rfl (by kernel_rfl) (fun _ _ _ h=>h) (by rfl) ?hy1b hHeld ?r1b
    case hy1b=>(intro w hSw;(try dsimp only at hSw);go_simp;try with_reducible rfl)
    try simp only[Act.put,zsa,zsz,zss]
    refine anyE_one 2 rfl (by kernel_rfl) (fun K hK=>?_)
    (go_simp;go_at_call 42;refine (KH.out wr.drew).mono ?_;rintro _ w5 ⟨_,rfl,hq5,rfl⟩;have y5:=za (zh wr.heap.size wr 1) hq5.ext;have z5:=QW.trans ⟨1,rfl⟩ hq5;clear hq5)
    refine hK.out _ _ (fun _=>KEEP.out _ y5) (fun hHeld=>?_);replace hHeld:=hHeld rfl
    clear hK K
    try simp only[Act.put,zsa,zsz,zss]
    refine anyE_take 3 (v:=?_) rfl (by kernel_rfl) (fun _ _ _ h=>h) (by rfl) ?hy3b hHeld ?r3b
    case hy3b=>(intro w hSw;(try dsimp only at hSw);go_simp;try with_reducible rfl)
    try simp only[Act.put,zsa,zsz,zss]
    refine anyE_take 4 (v:=?_) rfl (by kernel_rfl) (fun _ _ _ h=>h) (by rfl) ?hy4b hHeld ?r4b
    case hy4b=>(intro w hSw;(try dsimp only at hSw);go_simp;try with_reducible rfl)
    try simp only[Act.put,zsa,zsz,zss]
    refine anyE_take 5 (v:=?_) rfl (by kernel_rfl) (fun _ _ _ h=>h) (by rfl) ?hy5b hHeld ?r5b
    case hy5b=>(intro w hSw;(try dsimp only at hSw);go_simp;try with_reducible rfl)
    try simp only[Act.put,zsa,zsz,zss]
    refine anyE_take 6 (v:=?_) rfl (by kernel_rfl) (fun _ _ _ h=>h) (by rfl) ?hy6b hHeld ?r6b
    case hy6b=>(intro w hSw;(try dsimp only at hSw);go_simp;try with_reducible rfl)
    try simp only[Act.put,zsa,zsz,zss]
    refine anyE_take 7 (v:=?_) rfl (by kernel_rfl) (fun _ _ _ h=>h) (by rfl) ?hy7b hHeld ?r7b
    case hy7b=>(intro w hSw;(try dsimp only at hSw);go_simp;try with_reducible rfl)
    try simp only[Act.put,zsa,zsz,zss]
    refine anyE_take 8 (v:=?_) rfl (by kernel_rfl) (fun _ _ _ h=>h) (by rfl) ?hy8b hHeld ?r8b
    case hy8b=>(intro w hSw;(try dsimp only at hSw);go_simp;try with_reducible rfl)
    try simp only[Act.put,zsa,zsz,zss]
    refine anyE_take 9 (v:=?_) rfl (by kernel_rfl) (fun _ _ _ h=>h) (by rfl) ?hy9b hHeld ?r9b
    case hy9b=>(intro w hSw;(try dsimp only at hSw);go_simp;try with_reducible rfl)
    try simp only[Act.put,zsa,zsz,zss]
    refine anyE_take 10 (v:=?_) rfl (by kernel_rfl) (fun _ _ _ h=>h) (by rfl) ?hy10b hHeld ?r10b
    case hy10b=>(intro w hSw;(try dsimp only at hSw);go_simp;try with_reducible rfl)
    try simp only[Act.put,zsa,zsz,zss]
    refine anyE_take 11 (v:=?_) rfl (by kernel_rfl) (fun _ _ _ h=>h) (by rfl) ?hy11b hHeld ?r11b
    case hy11b=>(intro w hSw;(try dsimp only at hSw);go_simp;try with_reducible rfl)
    try simp only[Act.put,zsa,zsz,zss]
    refine anyE_take 12 (v:=?_) rfl (by kernel_rfl) (fun _ _ _ h=>h) (by rfl) ?hy12b hHeld ?r12b
    case hy12b=>(intro w hSw;(try dsimp only at hSw);go_simp;try with_reducible rfl)
    try simp only[Act.put,zsa,zsz,zss]
    refine anyE_take 13 (v:=?_) rfl (by kernel_rfl) (fun _ _ _ h=>h) (by rfl) ?hy13b hHeld ?r13b
    case hy13b=>(intro w hSw;(try dsimp only at hSw);go_simp;try with_reducible rfl)
    try simp only[Act.put,zsa,zsz,zss]
    refine anyE_take 14 (v:=?_) rfl (by kernel_rfl) (fun _ _ _ h=>h) (by rfl) ?hy14b hHeld ?r14b
    case hy14b=>(intro w hSw;(try dsimp only at hSw);go_simp;try with_reducible rfl)
    try simp only[Act.put,zsa,zsz,zss]
    refine zy (by kernel_rfl) ?_ _
    have hq6:=QW.trans hqw z5
    clear hHeld KEEP KH y5 z5 hqw
    go_wp2
    go_roundw
    case rel=>exact ⟨k+1,by omega,by go_num,hq6,HT2⟩
    case measure=>simp[intOf];omega
   ·have d1:(y !=x)=true:=by simp[he]
    have RR:Hid (r=false):=zhd (HK.out (by rw[decide_eq_false he];rfl))
    clear he
    refine zH (fun w':World=>w'.cell? (adr va k)=some (.int .i64 x)∧w'.cell? (adr oa k)=some (.int .i64 y)) (fun i=>false) (by kernel_rfl) ?_ (fun hHeld=>?_)
    ·exact KEEP.out _ (zh _ _ 1)
    refine anyE_take 0 (v:=?_) rfl (by kernel_rfl) (fun _ _ _ h=>h) (by rfl) ?hy0c hHeld ?r0c
    case hy0c=>(intro w hSw;(try dsimp only at hSw);go_simp;try with_reducible rfl)
    try simp only[Act.put,zsa,zsz,zss]
    refine anyE_take 1 (v:=?_) rfl (by kernel_rfl) (fun _ _ _ h=>h) (by rfl) ?hy1c hHeld ?r1c
    case hy1c=>(intro w hSw;(try dsimp only at hSw);go_simp;try with_reducible rfl)
    try simp only[Act.put,zsa,zsz,zss]
    refine anyE_one 2 rfl (by kernel_rfl) (fun K hK=>?_)
    (go_simp;go_at_call 42;refine (KH.out wr.drew).mono ?_;rintro _ w5 ⟨_,rfl,hq5,rfl⟩;have y5:=za (zh wr.heap.size wr 1) hq5.ext;have z5:=QW.trans ⟨1,rfl⟩ hq5;clear hq5)
    refine hK.out _ _ (fun _=>KEEP.out _ y5) (fun hHeld=>?_);replace hHeld:=hHeld rfl
    clear hK K
    try simp only[Act.put,zsa,zsz,zss]
    refine anyE_take 3 (v:=?_) rfl (by kernel_rfl) (fun _ _ _ h=>h) (by rfl) ?hy3c hHeld ?r3c
    case hy3c=>(intro w hSw;(try dsimp only at hSw);go_simp;try with_reducible rfl)
    try simp only[Act.put,zsa,zsz,zss]
    refine anyE_take 4 (v:=?_) rfl (by kernel_rfl) (fun _ _ _ h=>h) (by rfl) ?hy4c hHeld ?r4c
    case hy4c=>(intro w hSw;(try dsimp only at hSw);go_simp;try with_reducible rfl)
    try simp only[Act.put,zsa,zsz,zss]
    refine anyE_take 5 (v:=?_) rfl (by kernel_rfl) (fun _ _ _ h=>h) (by rfl) ?hy5c hHeld ?r5c
    case hy5c=>(intro w hSw;(try dsimp only at hSw);go_simp;try with_reducible rfl)
    try simp only[Act.put,zsa,zsz,zss]
    refine anyE_take 6 (v:=?_) rfl (by kernel_rfl) (fun _ _ _ h=>h) (by rfl) ?hy6c hHeld ?r6c
    case hy6c=>(intro w hSw;(try dsimp only at hSw);go_simp;try with_reducible rfl)
    try simp only[Act.put,zsa,zsz,zss]
    refine anyE_take 7 (v:=?_) rfl (by kernel_rfl) (fun _ _ _ h=>h) (by rfl) ?hy7c hHeld ?r7c
    case hy7c=>(intro w hSw;(try dsimp only at hSw);go_simp;try with_reducible rfl)
    try simp only[Act.put,zsa,zsz,zss]
    refine anyE_take 8 (v:=?_) rfl (by kernel_rfl) (fun _ _ _ h=>h) (by rfl) ?hy8c hHeld ?r8c
    case hy8c=>(intro w hSw;(try dsimp only at hSw);go_simp;try with_reducible rfl)
    try simp only[Act.put,zsa,zsz,zss]
    refine anyE_take 9 (v:=?_) rfl (by kernel_rfl) (fun _ _ _ h=>h) (by rfl) ?hy9c hHeld ?r9c
    case hy9c=>(intro w hSw;(try dsimp only at hSw);go_simp;try with_reducible rfl)
    try simp only[Act.put,zsa,zsz,zss]
    refine anyE_take 10 (v:=?_) rfl (by kernel_rfl) (fun _ _ _ h=>h) (by rfl) ?hy10c hHeld ?r10c
    case hy10c=>(intro w hSw;(try dsimp only at hSw);go_simp;try with_reducible rfl)
    try simp only[Act.put,zsa,zsz,zss]
    refine anyE_take 11 (v:=?_) rfl (by kernel_rfl) (fun _ _ _ h=>h) (by rfl) ?hy11c hHeld ?r11c
    case hy11c=>(intro w hSw;(try dsimp only at hSw);go_simp;try with_reducible rfl)
    try simp only[Act.put,zsa,zsz,zss]
    refine anyE_take 12 (v:=?_) rfl (by kernel_rfl) (fun _ _ _ h=>h) (by rfl) ?hy12c hHeld ?r12c
    case hy12c=>(intro w hSw;(try dsimp only at hSw);go_simp;try with_reducible rfl)
    try simp only[Act.put,zsa,zsz,zss]
    refine anyE_take 13 (v:=?_) rfl (by kernel_rfl) (fun _ _ _ h=>h) (by rfl) ?hy13c hHeld ?r13c
    case hy13c=>(intro w hSw;(try dsimp only at hSw);go_simp;try with_reducible rfl)
    try simp only[Act.put,zsa,zsz,zss]
    refine anyE_take 14 (v:=?_) rfl (by kernel_rfl) (fun _ _ _ h=>h) (by rfl) ?hy14c hHeld ?r14c
    case hy14c=>(intro w hSw;(try dsimp only at hSw);go_simp;try with_reducible rfl)
    try simp only[Act.put,zsa,zsz,zss]
    refine zy (by kernel_rfl) ?_ _
    have hq6:=zhd (QW.trans hqw z5)
    clear hHeld KEEP KH y5 z5 hqw
    go_wp2
    go_ret
    exact .fin (by rw[RR.out];rfl) hq6.out
theorem ZX {S:Nat→Prop} {w:World} {v1 v2 v3:Value} {c:CaseD} {f:Nat} (h1:Ints S w v1 c.inn) (h2:Lists S w v2 c.out) (h3:Lists S w v3 c.calm):
  Calls Tryz.prog 71 #[.agg #[v1,v2,v3],.int .i64 f] w (Post w fun w' r=>Lists S w' r (vecsOf c f)):=by
 obtain ⟨a1,c1,rfl,_⟩:=h1.form
 obtain ⟨a2,c2,rfl,_⟩:=h2.form
 obtain ⟨a3,c3,rfl,_⟩:=h3.form
 have ex:=zb w (.cells #[.slice a1 c.inn.length c1,.slice a2 c.out.length c2,.slice a3 c.calm.length c3] 62)
 have R:=ze w [.slice a1 c.inn.length c1,.slice a2 c.out.length c2,.slice a3 c.calm.length c3] 62
 have r1:=R.zc 1 rfl
 have r2:=R.zc 2 rfl
 have l:=R.lt
 have HC:=zhd (h2.ext ex)
 have HA:=zhd (h3.ext ex)
 have HX:=zhd ex
 by_cases h0:f=0
 ·have d1:((f:Int)==0)=true:=by simp[h0]
  by_cases hc:0<c.calm.length
  ·have d2:decide (0<c.calm.length)=true:=decide_eq_true hc
   have RR:Hid (vecsOf c f=c.calm):=zhd (if_pos ⟨h0,hc⟩)
   clear h0 hc h1 h2 h3
   go_enter Tryz.func71,Tryz.ntmps71
   go_wp2
   go_ret
   exact .mk HX.out (by rw[RR.out];exact HA.out)
  ·have d2:decide (0<c.calm.length)=false:=decide_eq_false hc
   have RR:Hid (vecsOf c f=c.out):=zhd (if_neg fun h=>hc h.2)
   clear h0 hc h1 h2 h3
   go_enter Tryz.func71,Tryz.ntmps71
   go_wp2
   go_ret
   exact .mk HX.out (by rw[RR.out];exact HC.out)
 ·have d1:((f:Int)==0)=false:=by simp[h0]
  have RR:Hid (vecsOf c f=c.out):=zhd (if_neg fun h=>h0 h.1)
  clear h0 h1 h2 h3
  go_enter Tryz.func71,Tryz.ntmps71
  go_wp2
  go_ret
  exact .mk HX.out (by rw[RR.out];exact HC.out)
theorem ZR {S:Nat→Prop} {w:World} {v1 v2 v3:Value} {c:CaseD} {f:Nat} (h1:Ints S w v1 c.inn) (h2:Lists S w v2 c.out) (h3:Lists S w v3 c.calm):
  Calls Tryz.prog 84 #[.agg #[v1,v2,v3],.int .i64 f] w (Post w fun w' r=>Lists S w' r (vecsOf c f)):=by
 obtain ⟨a1,c1,rfl,_⟩:=h1.form
 obtain ⟨a2,c2,rfl,_⟩:=h2.form
 obtain ⟨a3,c3,rfl,_⟩:=h3.form
 have ex:=zb w (.cells #[.slice a1 c.inn.length c1,.slice a2 c.out.length c2,.slice a3 c.calm.length c3] 62)
 have R:=ze w [.slice a1 c.inn.length c1,.slice a2 c.out.length c2,.slice a3 c.calm.length c3] 62
 have r1:=R.zc 1 rfl
 have r2:=R.zc 2 rfl
 have l:=R.lt
 have HC:=zhd (h2.ext ex)
 have HA:=zhd (h3.ext ex)
 have HX:=zhd ex
 by_cases h0:f=0
 ·have d1:((f:Int)==0)=true:=by simp[h0]
  by_cases hc:0<c.calm.length
  ·have d2:decide (0<c.calm.length)=true:=decide_eq_true hc
   have RR:Hid (vecsOf c f=c.calm):=zhd (if_pos ⟨h0,hc⟩)
   clear h0 hc h1 h2 h3
   go_enter Tryz.func84,Tryz.ntmps84
   go_wp2
   go_ret
   exact .mk HX.out (by rw[RR.out];exact HA.out)
  ·have d2:decide (0<c.calm.length)=false:=decide_eq_false hc
   have RR:Hid (vecsOf c f=c.out):=zhd (if_neg fun h=>hc h.2)
   clear h0 hc h1 h2 h3
   go_enter Tryz.func84,Tryz.ntmps84
   go_wp2
   go_ret
   exact .mk HX.out (by rw[RR.out];exact HC.out)
 ·have d1:((f:Int)==0)=false:=by simp[h0]
  have RR:Hid (vecsOf c f=c.out):=zhd (if_neg fun h=>h0 h.1)
  clear h0 h1 h2 h3
  go_enter Tryz.func84,Tryz.ntmps84
  go_wp2
  go_ret
  exact .mk HX.out (by rw[RR.out];exact HC.out)
theorem YQ {p:List Int→Bool} {l:List (List Int)} {k:Nat} (hk:k<l.length) (h0:∀j,j<k→p (nthL l j)=false) (h1:p (nthL l k)=false):∀j,j<k+1→p (nthL l j)=false:=fun j hj=>by
 by_cases e:j=k
 ·rw[e];exact h1
 ·exact h0 j (by omega)
theorem zeo {p:List Int→Bool} {l:List (List Int)} (h:∀j,j<l.length→p (nthL l j)=false):l.any p=false:=by
 rw[List.any_eq_false]
 intro x hx
 obtain ⟨j,hj,e⟩:=List.getElem_of_mem hx
 have:=h j hj
 rw[zM hj,e]at this
 rw[this];simp
theorem zdZ {p:List Int→Bool} {l:List (List Int)} {k:Nat} (hk:k<l.length) (h:p (nthL l k)=true):l.any p=true:=by
 rw[List.any_eq_true]
 exact ⟨l[k],List.getElem_mem hk,by rw[←zM hk];exact h⟩
theorem zbL {S S2:Nat→Prop} {w:World} {v1 v2 v3 vo:Value} {c:CaseD} {f:Nat} {outs:List Int} (h1:Ints S w v1 c.inn) (h2:Lists S w v2 c.out) (h3:Lists S w v3 c.calm) (ho:Ints S2 w vo outs) (hv:∀l∈vecsOf c f,l.length≤outs.length) (h5:outs.length≤5) (hf:f<4294967296):
  Calls Tryz.prog 44 #[.agg #[v1,v2,v3],.int .i64 f,vo] w (Post w fun _ r=>r=.bool (mayB c f outs)):=by
 have KV:Hid (∀W,Below w.heap.size w W→Calls Tryz.prog 84 #[.agg #[v1,v2,v3],.int .i64 f] W (Post W fun w' r=>Lists S w' r (vecsOf c f))):=zhd fun W hW=>ZR (h1.ext hW) (h2.ext hW) (h3.ext hW)
 obtain ⟨a1,c1,rfl,_⟩:=h1.form
 obtain ⟨a2,c2,rfl,_⟩:=h2.form
 obtain ⟨a3,c3,rfl,_⟩:=h3.form
 obtain ⟨oa,oc,rfl,_⟩:=ho.form
 have ex:=zb w (.cells #[.slice a1 c.inn.length c1,.slice a2 c.out.length c2,.slice a3 c.calm.length c3] 62)
 have R:=ze w [.slice a1 c.inn.length c1,.slice a2 c.out.length c2,.slice a3 c.calm.length c3] 62
 have r0:=R.zc 0 rfl
 have r1:=R.zc 1 rfl
 have r2:=R.zc 2 rfl
 have l0:=R.lt
 have HO:=zhd ho
 have HV5:=zhd hv
 have HMB:Hid (mayB c f outs=(vecsOf c f).any (agrB f outs)):=zhd rfl
 obtain ⟨r,hr⟩:∃r,r=mayB c f outs:=⟨_,rfl⟩
 rw[←hr]at HMB ⊢
 obtain ⟨L,hL⟩:∃L,L=vecsOf c f:=⟨_,rfl⟩
 rw[←hL]at KV HV5 HMB
 clear h1 h2 h3 ho hv hr hL
 go_enter Tryz.func44,Tryz.ntmps44
 go_wp2_with fail
 refine (KV.out _ ex).mono ?_
 rintro _ w1 ⟨vl,rfl,hb1,hl⟩
 replace ex:=za ex hb1
 obtain ⟨la,lc,rfl,lad,hlc1⟩:=hl.form
 have hLm:L.length≤9223372036854775807:=by have h2:=hlc1;unfold maxLen at h2;omega
 obtain ⟨i0,hi,_,hz1,_⟩:=info_parts zF
 have HQ:=zhd (zz Tryz.underlying47 hi hz1 lad)
 have HL:=zhd hl
 clear r0 r1 r2 l0 R KV hb1 hl lad hi hz1
 go_wp2
 go_loopw [8] (fun i wr=>∃k:Nat,k≤L.length∧i=.int .i64 k∧Below w.heap.size w wr∧Below w1.heap.size w1 wr∧Hid (∀j,j<k→agrB f outs (nthL L j)=false)) (fun i _=>L.length - (intOf i).toNat)
 case atStart=>exact ⟨0,Nat.zero_le _,rfl,ex,.refl _ _,zhd fun j hj=>by omega⟩
 case round=>
  clear ex
  obtain ⟨k,hk,rfl,hb,hb1,HJ⟩:=hrel
  by_cases hlt:k<L.length
  case neg=>
   obtain rfl:k=L.length:=by omega
   have RR:Hid (r=false):=zhd (by rw[HMB.out];exact zeo HJ.out)
   go_wp2
   go_ret
   exact .mk hb (zv RR.out.symm)
  have HLT:=zhd hlt
  have q1:=HQ.out k hlt
  obtain ⟨u,cu,iu⟩:=(HL.out.ext hb1).at (.refl _ _) hlt
  obtain ⟨ua,uc,rfl,_⟩:=iu.form
  have bu:=World.block_lt_of_cell? _ _ cu
  have hul:(nthL L k).length≤outs.length:=HV5.out _ (by rw[zM hlt];exact List.getElem_mem hlt)
  have KA:=zhd (zcp (f:=f) iu (HO.out.ext hb) hul (by omega) hf)
  have HNX:=zhd fun h=>YQ (p:=agrB f outs) hlt HJ.out h
  have HYE:=zhd fun h=>zdZ (p:=agrB f outs) hlt h
  obtain ⟨bt,hbt⟩:∃bt,bt=agrB f outs (nthL L k):=⟨_,rfl⟩
  rw[←hbt]at KA HNX HYE
  clear hul iu hbt
  go_wp2_with fail
  refine (KA.out.mono fun _ _ h=>h.take).mono ?_
  rintro _ w2 ⟨_,rfl,hq2,rfl⟩
  have hb2:=za hb hq2.ext
  have hb12:=za hb1 hq2.ext
  clear KA cu bu q1 hb hb1 hq2
  cases bt with
  | true=>
   have RR:Hid (r=true):=zhd (by rw[HMB.out];exact HYE.out rfl)
   go_wp2
   go_ret
   exact .mk hb2 (zv RR.out.symm)
  | false=>
   have HJ2:=zhd (HNX.out rfl)
   go_wp2
   go_roundw
   case rel=>exact ⟨k+1,HLT.out,by go_num,hb2,hb12,HJ2⟩
   case measure=>have:=HLT.out;simp[intOf];omega
end Go.Proofs.YtjpakklplhabdaaGreat
