/- payrollgen: scales. -/
import Derived.Test.YtcefhgomkehokaaGreatA11
import Derived.Test.YtcefhgomkehokaaGreatA08
import Derived.Test.YtcefhgomkehokaaGreatA13
import Derived.Test.YtcefhgomkehokaaGreatA09
set_option linter.unusedSimpArgs false
set_option linter.unusedVariables false
set_option maxRecDepth 100000
namespace Go.Proofs.YtcefhgomkehokaaGreat
abbrev dE:En:=(0,0,0)
structure EnOk (E:List En) (key:Int):Prop where
  asc:E.Pairwise (fun a b=>a.1 < b.1)
  all:∀ e,e ∈ E→0≤e.1∧e.1 < key∧e.2 ∈ decL
theorem EnOk.snoc {E:List En} {key:Int} (h:EnOk E key) (h0:0≤key) {x:Int×Int} (hx:x ∈ decL) {k' : Int} (hk:key < k'):EnOk (E ++ [(key,x)]) k':=by
  refine ⟨List.pairwise_append.2 ⟨h.asc,by simp,fun a ha b hb=>?_⟩,fun e he=>?_⟩
  · obtain rfl:b=(key,x):=by simpa using hb
    exact (h.all a ha).2.1
  · rcases List.mem_append.1 he with he|he
    · have:=h.all e he;exact ⟨this.1,by omega,this.2.2⟩
    · obtain rfl:e=(key,x):=by simpa using he
      exact ⟨h0,hk,hx⟩
theorem dec_ok:∀ x ∈ decL,-9223372036854775808≤x.1∧x.1≤9223372036854775807∧decS x.1 x.2=true:=by decide +kernel
theorem EnOk.ents {E:List En} {key:Int} (h:EnOk E key) (hk:key≤1000000) (h1:1≤E.length) (h2:E.length≤64):entsS E.length (lF dE E)=true:=by
  have hg:∀ i (hi:i < E.length),lF dE E i=E[i]:=fun i hi=>by unfold lF;rw [List.getD_eq_getElem?_getD,List.getElem?_eq_getElem hi];rfl
  unfold entsS
  rw [decide_eq_true (by omega:1≤E.length∧E.length≤64),Bool.true_and,allK_iff]
  intro i hi
  have ha:=h.all _ (List.getElem_mem hi)
  have hd:=(dec_ok _ ha.2.2).2.2
  rw [hg i hi,hd,Bool.and_true,decide_eq_true_eq]
  refine ⟨?_,by omega⟩
  by_cases h0:i=0
  · rw [if_pos h0];omega
  · rw [if_neg h0,hg (i - 1) (by omega)]
    exact List.pairwise_iff_getElem.1 h.asc (i - 1) i (by omega) hi (by omega)
structure ScOk (nm:ByteArray) (t:Ty) (day:Int) (d:Df):Prop where
  eq:d=⟨2,nm,t,day,d.ne,d.ef,.nil,0,0,0⟩
  en:entsS d.ne d.ef=true
  ef:∀ i,i < d.ne→-9223372036854775808≤(d.ef i).2.1∧(d.ef i).2.1≤9223372036854775807
  ne:d.ne≤64
  dl:∀ i,i < d.ne→(d.ef i).2 ∈ decL∧-1000000000000≤(d.ef i).1∧(d.ef i).1≤1000000000000
abbrev rScl (nm:ByteArray) (t:Ty) (day:Int) (k l:Nat):List PV:=[vi 2,vs nm,vb t.b,vi t.m,vi t.h,vi t.d,vi day,slP k l,vi 0,vi 0,vi 0,vi 0,vi 0,vi 0,vs ⟨#[]⟩,vi 0,vi 0,.val (.slice none 0 0),vi 0,vi 0,vi 0]
abbrev zD:List PV:=[vi 0,vs ⟨#[]⟩,vb false,vi 0,vi 0,vi 0,vi 0,.val (.slice none 0 0),vi 0,vi 0,vi 0,vi 0,vi 0,vi 0,vs ⟨#[]⟩,vi 0,vi 0,.val (.slice none 0 0),vi 0,vi 0,vi 0]
theorem argSc19 {mem:List Row} {L:List Nat} {nm:ByteArray} {t:Ty} {day:Int} {p:PV} {ne:Nat} {ef:Nat→En} (h:ArgOk mem L p (.vsl ne 3 (tF cN3 ef))):ArgOk mem L (.agg 21 (nthP [vi 2,vs nm,vb t.b,vi t.m,vi t.h,vi t.d,vi day,p,vi 0,vi 0,vi 0,vi 0,vi 0,vi 0,vs ⟨#[]⟩,vi 0,vi 0,.val (.slice none 0 0),vi 0,vi 0,vi 0])) (vD ⟨2,nm,t,day,ne,ef,.nil,0,0,0⟩):=argAggL fun i hi=>by
  rcases (by omega:i=0∨i=1∨i=2∨i=3∨i=4∨i=5∨i=6∨i=7∨i=8∨i=9∨i=10∨i=11∨i=12∨i=13∨i=14∨i=15∨i=16∨i=17∨i=18∨i=19∨i=20) with rfl|rfl|rfl|rfl|rfl|rfl|rfl|rfl|rfl|rfl|rfl|rfl|rfl|rfl|rfl|rfl|rfl|rfl|rfl|rfl|rfl
  · exact argVal
  · exact argVal
  · exact argVal
  · exact argVal
  · exact argVal
  · exact argVal
  · exact argVal
  · exact h
  · exact argVal
  · exact argVal
  · exact argVal
  · exact argVal
  · exact argVal
  · exact argVal
  · exact argVal
  · exact argVal
  · exact argVal
  · exact argNil
  · exact argVal
  · exact argVal
  · exact argVal
set_option maxHeartbeats 4000000 in
theorem scale_t (nm:ByteArray) (t:Ty) (day:Int):TapC G.P 20 [vs nm,vT t,vi day] (fun r=>∃ d:Df,r=vD d∧ScOk nm t day d):=by
  intro n g at_ hn h1 h2
  refine ptr_of (G:=G.toPg) (fn:=Tryz.f20) Tryz.func20 rfl rfl rfl ?_;intro Γ hk
  repeat' (first|refine gg ?_|exact trivial|with_reducible refine wA ?_ ?_|refine Y2.mk ?_ ?_|(refine tn1 hn ?_;rintro at_ b1 b2 x hx1 hx2)|refine gh ?_|exact qq|fail)
  rename_i key hk1 hk2
  obtain ⟨X,rfl⟩:=Int.eq_ofNat_of_zero_le hx1
  have hw:IntKind.i64.wrap (1+(X:Int))=((X+1:Nat):Int):=by rw [w64 (by omega) (by omega)];omega
  rw [hw]
  refine pcan (can_virt (vRow cN3 3 0 (lF dE [])) rfl) ?_
  refine pcan (st':=⟨[(0,.ptr 0 0 0),(8,.ptr 1 0 0),(9,.ptr 2 0 0),(10,vi key),(11,vi ((X+1:Nat):Int))],[tapeRow n g at_,⟨.own,true,1,21,fun _=>nthP zD⟩,⟨.own,true,1,21,fun _=>nthP (rScl nm t day 0 3)⟩,vRow cN3 3 0 (lF dE [])]⟩) (can_rowsv [0,2,3,4] (k0_sel hk rfl) rfl (.cons rfl (RowEq.cl (tape_cl _ _ _)) (.cons rfl rqq (.cons rfl rqq (.cons rfl (RowEq.cl (v_cl cN3_cl _ _ _)) .nil)))) (by (repeat refine ⟨PEq.refl _,?_⟩);exact trivial)) ?_
  refine ploop (fun q st=>∃ (at' : Int) (i k:Nat) (E:List En) (ky:Int),0≤at'∧at'≤n∧E.length=k∧k+i=X+1∧q=i∧EnOk E ky∧0≤ky∧ky≤1+4 * k∧st=⟨[(0,.ptr 0 0 0),(8,.ptr 1 0 0),(9,.ptr 2 0 0),(10,vi ky),(11,vi i)],[tapeRow n g at',⟨.own,true,1,21,fun _=>nthP zD⟩,⟨.own,true,1,21,fun _=>nthP (rScl nm t day k 3)⟩,vRow cN3 3 k (lF dE E)]⟩) (X+1) ⟨at_,X+1,0,[],key,b1,b2,rfl,by omega,rfl,⟨List.Pairwise.nil,by simp⟩,hk1,by omega,rfl⟩ ?_
  rintro i _ ⟨at',_,k,E,ky,b1,b2,hEk,hki,rfl,hE,hky0,hky1,rfl⟩
  repeat' (first|refine gg ?_|exact trivial|with_reducible refine wA ?_ ?_|refine Y2.mk ?_ ?_|refine gh ?_|exact qq|fail)
  refine pcond rfl ?_ ?_<;>intro hc<;>simp at hc
  · have hwi:IntKind.i64.wrap ((i:Int) - 1)=((i - 1:Nat):Int):=by rw [w64 (by omega) (by omega)];omega
    rcases k with _|k
    · repeat' (first|refine gg ?_|exact trivial|with_reducible refine wA ?_ ?_|refine Y2.mk ?_ ?_|refine xs_startH (id:=6) [1,2] true [.take 0,.take 1,.take 2,.take 3,.one 4,.take 5,.one 6,.one 7,.take 8,.one 9] 0 rfl (by kernel_rfl) ?_|(refine t1 decimal_t hn ?_;rintro at_ _ b1 b2 ⟨y,rfl,hy⟩)|(refine t2 decimal_t hn ?_;rintro at_ _ b1 b2 ⟨y,rfl,hy⟩)|(refine t3 decimal_t hn ?_;rintro at_ _ b1 b2 ⟨y,rfl,hy⟩)|exact ⟨Nat.le_refl _,(by rw [hk];exact Nat.le_of_ble_eq_true rfl),Nat.le_of_eq (Nat.zero_add _),(show (_:Nat) * 24≤140737488355328 from by omega),(show (_:Nat)≤9223372036854775807 from by omega)⟩|(refine tn1 hn ?_;rintro at_ b1 b2 x hx1 hx2)|refine gh ?_|exact qq|fail)
      refine xdone ?_
      have hwz:IntKind.i64.wrap (ky+IntKind.i64.wrap (1+x))=ky+(1+x):=by rw [w64 (n:=1+x) (by omega) (by omega),w64 (by omega) (by omega)]
      rw [hwz,hwi]
      exact kloop_next (st':=⟨[(0,.ptr 0 0 0),(8,.ptr 1 0 0),(9,.ptr 2 0 0),(10,vi (ky+(1+x))),(11,vi ((i - 1:Nat):Int))],[tapeRow n g _,⟨.own,true,1,21,fun _=>nthP zD⟩,⟨.own,true,1,21,fun _=>nthP (rScl nm t day (0+1) 3)⟩,vRow cN3 3 (0+1) (lF dE (E ++ [(ky,y)]))]⟩) (i - 1) (can_rowsv [0,1,2,5] (k0_sel hk rfl) rfl (.cons rfl (RowEq.cl (tape_cl _ _ _)) (.cons rfl rqq (.cons rfl rqq (.cons rfl (by first|exact app_l cN3_cl (by assumption) rfl rfl|exact app_l0 cN3_cl (by assumption) rfl) .nil)))) tmq) (by omega) ⟨_,i - 1,0+1,_,_,b1,b2,by rw [List.length_append,hEk];rfl,by omega,rfl,hE.snoc hky0 hy (by omega),by omega,by omega,rfl⟩
    · repeat' (first|refine gg ?_|exact trivial|with_reducible refine wA ?_ ?_|refine Y2.mk ?_ ?_|refine xs_startH (id:=6) [1,2] true [.take 0,.take 1,.take 2,.take 3,.one 4,.take 5,.one 6,.one 7,.take 8,.one 9] 0 rfl (by kernel_rfl) ?_|(refine t1 decimal_t hn ?_;rintro at_ _ b1 b2 ⟨y,rfl,hy⟩)|(refine t2 decimal_t hn ?_;rintro at_ _ b1 b2 ⟨y,rfl,hy⟩)|(refine t3 decimal_t hn ?_;rintro at_ _ b1 b2 ⟨y,rfl,hy⟩)|exact ⟨Nat.le_refl _,(by rw [hk];exact Nat.le_of_ble_eq_true rfl),Nat.le_of_eq (Nat.zero_add _),(show (_:Nat) * 24≤140737488355328 from by omega),(show (_:Nat)≤9223372036854775807 from by omega)⟩|(refine tn1 hn ?_;rintro at_ b1 b2 x hx1 hx2)|refine gh ?_|exact qq|fail)
      refine xdone ?_
      have hwz:IntKind.i64.wrap (ky+IntKind.i64.wrap (1+x))=ky+(1+x):=by rw [w64 (n:=1+x) (by omega) (by omega),w64 (by omega) (by omega)]
      rw [hwz,hwi]
      exact kloop_next (st':=⟨[(0,.ptr 0 0 0),(8,.ptr 1 0 0),(9,.ptr 2 0 0),(10,vi (ky+(1+x))),(11,vi ((i - 1:Nat):Int))],[tapeRow n g _,⟨.own,true,1,21,fun _=>nthP zD⟩,⟨.own,true,1,21,fun _=>nthP (rScl nm t day ((k+1)+1) 3)⟩,vRow cN3 3 ((k+1)+1) (lF dE (E ++ [(ky,y)]))]⟩) (i - 1) (can_rowsv [0,1,2,5] (k0_sel hk rfl) rfl (.cons rfl (RowEq.cl (tape_cl _ _ _)) (.cons rfl rqq (.cons rfl rqq (.cons rfl (by first|exact app_l cN3_cl (by assumption) rfl rfl|exact app_l0 cN3_cl (by assumption) rfl) .nil)))) tmq) (by omega) ⟨_,i - 1,(k+1)+1,_,_,b1,b2,by rw [List.length_append,hEk];rfl,by omega,rfl,hE.snoc hky0 hy (by omega),by omega,by omega,rfl⟩
  · obtain rfl:i=0:=by omega
    rcases k with _|k
    · omega
    · repeat' (first|refine gg ?_|exact trivial|with_reducible refine wA ?_ ?_|refine Y2.mk ?_ ?_|refine gh ?_|exact qq|fail)
      refine ktapL [3] (qs:=[vD ⟨2,nm,t,day,k+1,lF dE E,.nil,0,0,0⟩]) rfl b1 b2 (by simp) rfl ⟨Nat.zero_lt_one,trivial⟩ ⟨argSc19 (arg_o (s:=.own) cN3_cl rfl trivial (List.Mem.head _)),trivial⟩ ⟨_,rfl,rfl,?_,?_,?_,?_⟩
      · show entsS (k+1) _=true
        rw [← hEk];exact hE.ents (by omega) (by omega) (by omega)
      · intro i hi
        have hi:i < k+1:=hi
        have hm:lF dE E i ∈ E:=by unfold lF;rw [List.getD_eq_getElem?_getD,List.getElem?_eq_getElem (by omega)];exact List.getElem_mem _
        have:=dec_ok _ (hE.all _ hm).2.2
        exact ⟨this.1,this.2.1⟩
      · show k+1≤64;omega
      · intro i hi
        have hi:i < k+1:=hi
        have hm:lF dE E i ∈ E:=by unfold lF;rw [List.getD_eq_getElem?_getD,List.getElem?_eq_getElem (by omega)];exact List.getElem_mem _
        obtain ⟨e1,e2,e3⟩:=hE.all _ hm
        exact ⟨e3,show -1000000000000≤(lF dE E i).1 by omega,show (lF dE E i).1≤1000000000000 by omega⟩
end Go.Proofs.YtcefhgomkehokaaGreat
namespace Go.Proofs.YtcefhgomkehokaaGreat
theorem take_snoc {α:Type} {d:α} {l:List α} {n:Nat} (h:n < l.length):l.take (n+1)=l.take n ++ [lF d l n]:=by
  rw [List.take_succ_eq_append_getElem h]
  unfold lF;rw [List.getD_eq_getElem?_getD,List.getElem?_eq_getElem h];rfl
abbrev cSt (x:ByteArray):List PV:=[vs x]
theorem cSt_cl:CellsCl cSt:=fun _=>⟨trivial,trivial⟩
def dropS:Nat→Code→Code
  | 0,c=>c
  | n+1,.seq _ b=>dropS n b
  | _,c=>c
theorem pcutx {G:Pg} {N:Nat} {Γ:Fr} {st:PSt} {K:Exit→PSt→Prop} {x y:Code} {id:Nat} (M:PSt→Prop) (h:PWp G N Γ x st (Kblock id (Kcut N Γ M K))) (hy:∀ st,M st→PWp G N Γ y st K):PWp G N Γ x st (Kblock id (Kseq G N Γ y K)):=.mk fun ρ I a w hr =>
  wp_mono (h.go ρ I a w hr) fun e a w ⟨h1,st,ρ,I,h2,h3⟩=>by
    have nrm:Kcut N Γ M K .normal st→∃ st ρ I,Kseq G N Γ y K .normal st∧Rel N Γ st ρ I a w:=fun hc=>by
      obtain ⟨st',hc,hm⟩:=hc.go
      obtain ⟨ρ',I',hr'⟩:=hc ρ I a w h3
      exact ⟨st',ρ',I',kseq_normal (hy st' hm),hr'⟩
    have h2:=h2.go
    cases e with
    | normal =>
      obtain ⟨st',ρ',I',h4,h5⟩:=nrm h2
      exact ⟨h1,st',ρ',I',⟨h4⟩,h5⟩
    | exit i =>
      have h2:(bif Nat.beq i id then Kcut N Γ M K .normal st else Kcut N Γ M K (.exit i) st):=h2
      cases hb:Nat.beq i id
      · rw [hb] at h2
        exact ⟨h1,st,ρ,I,⟨show (bif Nat.beq i id then _ else _:Prop) from by rw [hb];exact ⟨h2.go⟩⟩,h3⟩
      · rw [hb] at h2
        obtain ⟨st',ρ',I',h4,h5⟩:=nrm h2
        exact ⟨h1,st',ρ',I',⟨show (bif Nat.beq i id then _ else _:Prop) from by rw [hb];exact h4⟩,h5⟩
    | _=>exact ⟨h1,st,ρ,I,⟨⟨h2.go⟩⟩,h3⟩
section
variable {G:Pg2} {N:Nat} {Γ:Fr} {K:Exit→PSt→Prop} {ops:Array Oper} {H:List Nat} {ni fin:Bool} {m:Nat} {ls:Array Bool} {st:PSt} {o:Oper}
def lsF (L:List Nat) (n:Nat):Array Bool:=((List.range n).map fun i=>L.any (Nat.beq i)).toArray
theorem xs_more {sch:Sched} {m' : Nat} (hok:schOk ops fin sch ls=true) (hm:schLen sch+m'=m) (h:PS G N Γ ops H ni fin sch m' ls st K):PS G N Γ ops H ni false [] m ls st K:=⟨fun hs _=>by
  show PE G N Γ ops H ni (0+m) ls st K
  rw [Nat.zero_add,← hm]
  exact h.go hs hok⟩
def fTm {α:Type} : List (Nat×PV)→(List (Nat×PV)→Option α)→Option α
  | [],k=>k []
  | (d,v) :: l,k=>fTm l fun l'=>k ((d,v) :: l')
def fMem {α:Type} : List Row→(List Row→Option α)→Option α
  | [],k=>k []
  | ⟨s,o,n,sz,f⟩ :: l,k=>fMem l fun l'=>k (⟨s,o,n,sz,f⟩ :: l')
def fSt (st:PSt):Option PSt:=match st with|⟨tm,mem⟩=>fTm tm fun tm=>fMem mem fun mem=>some ⟨tm,mem⟩
theorem fTm_eq {α:Type} : ∀ (l:List (Nat×PV)) (k:List (Nat×PV)→Option α),fTm l k=k l
  | [],_=>rfl
  | (d,v) :: l,k=>by rw [fTm,fTm_eq l]
theorem fMem_eq {α:Type} : ∀ (l:List Row) (k:List Row→Option α),fMem l k=k l
  | [],_=>rfl
  | ⟨s,o,n,sz,f⟩ :: l,k=>by rw [fMem,fMem_eq l]
theorem fSt_eq {st st' : PSt} (h:fSt st=some st'):st'=st:=by
  obtain ⟨tm,mem⟩:=st
  have h:fTm tm (fun tm=>fMem mem fun mem=>some (⟨tm,mem⟩:PSt))=some st':=h
  rw [fTm_eq,fMem_eq] at h
  exact (Option.some.inj h).symm
theorem lsF_set (L:List Nat) (n i:Nat):(lsF L n).setIfInBounds i true=lsF (i :: L) n:=by
  apply Array.ext
  · simp [lsF]
  · intro a h1 h2
    have ha:a < n:=by simpa [lsF] using h2
    rw [Array.getElem_setIfInBounds (by simpa [lsF] using ha)]
    by_cases e:i=a
    · subst e;simp [lsF]
    · have e2:Nat.beq a i=false:=by cases hb:Nat.beq a i;rfl;exact absurd (Nat.eq_of_beq_eq_true hb).symm e
      rw [if_neg e]
      simp [lsF,e2]
def brOk (ops:Array Oper) (ls:Array Bool) (m:Nat) (T:List (Nat×Sched×Bool×Nat)):Bool :=
  (Region.ready .any ops ls == T.map Prod.fst) && (!T.isEmpty && T.all fun x=>schOk ops x.2.2.1 x.2.1 (ls.setIfInBounds x.1 true) && schLen x.2.1+x.2.2.2 == m)
inductive BrAll (G:Pg2) (N:Nat) (Γ:Fr) (ops:Array Oper) (H:List Nat) (ni:Bool) (L:List Nat) (n:Nat) (st:PSt) (K:Exit→PSt→Prop):List (Nat×Sched×Bool×Nat)→Prop where
  | nil:BrAll G N Γ ops H ni L n st K []
  | cons {i:Nat} {sch:Sched} {fin:Bool} {m' : Nat} {T:List (Nat×Sched×Bool×Nat)} (h:∃ o ch nk,opAt ops.toList i=some o∧chB H ch=true∧PStep G N Γ ops o st ch nk (fun st'=>PS G N Γ ops H (ni && nk) fin sch m' (lsF (i :: L) n) st' K)) (ht:BrAll G N Γ ops H ni L n st K T):BrAll G N Γ ops H ni L n st K ((i,sch,fin,m') :: T)
theorem BrAll.at {n:Nat} {L:List Nat} {T:List (Nat×Sched×Bool×Nat)} (h:BrAll G N Γ ops H ni L n st K T):∀ i,i ∈ T.map Prod.fst→∃ x,x ∈ T∧x.1=i∧∃ o ch nk,opAt ops.toList i=some o∧chB H ch=true∧PStep G N Γ ops o st ch nk (fun st'=>PS G N Γ ops H (ni && nk) x.2.2.1 x.2.1 x.2.2.2 (lsF (i :: L) n) st' K):=by
  induction h with
  | nil=>intro i hi;cases hi
  | cons h ht ih =>
    intro i hi
    rw [List.map_cons,List.mem_cons] at hi
    rcases hi with rfl|hi
    · exact ⟨_,List.mem_cons_self ..,rfl,h⟩
    · obtain ⟨x,h1,h2,h3⟩:=ih i hi
      exact ⟨x,List.mem_cons_of_mem _ h1,h2,h3⟩
theorem xs_brT {st1:PSt} {n:Nat} (L:List Nat) (T:List (Nat×Sched×Bool×Nat)) (hls:(ls == lsF L n)=true) (hf:fSt st=some st1) (hok:brOk ops (lsF L n) m T=true) (hH:inB st1.mem.length H=true) (h:BrAll G N Γ ops H ni L n st1 K T):PS G N Γ ops H ni false [] (m+1) ls st K:=by
  have e:=fSt_eq hf
  have e2:ls=lsF L n:=by simpa using hls
  subst e e2
  simp only [brOk,Bool.and_eq_true,beq_iff_eq,List.all_eq_true] at hok
  obtain ⟨h1,h2,h3⟩:=hok
  refine xs_br hH h1 (by cases T;simp at h2;simp) fun i hi=>?_
  obtain ⟨x,hx,rfl,o,ch,nk,g1,g2,g3⟩:=h.at i hi
  obtain ⟨h4,h5⟩:=h3 x hx
  refine ⟨o,ch,nk,g1,g2,.mk fun ρ I a w hrel Q=>?_⟩
  have:=g3.go ρ I a w hrel Q
  split
  · rename_i hw
    rw [if_pos hw] at this
    exact Oper.wp_mono (fun a' w' ⟨st',ρ',I',hk,hr⟩=>⟨st',ρ',I',⟨_,_,_,h4,h5,by rw [lsF_set];exact hk⟩,hr⟩) this
  · rename_i hw
    rw [if_neg hw] at this
    obtain ⟨st',ρ',I',hk,hr⟩:=this
    exact ⟨st',ρ',I',⟨_,_,_,h4,h5,by rw [lsF_set];exact hk⟩,hr⟩
theorem xs_moreF {sch:Sched} {m' n:Nat} (L:List Nat) (hls:(ls == lsF L n)=true) (hok:(schOk ops fin sch (lsF L n) && schLen sch+m' == m)=true) (h:PS G N Γ ops H ni fin sch m' (lsF L n) st K):PS G N Γ ops H ni false [] m ls st K:=by
  have e2:ls=lsF L n:=by simpa using hls
  subst e2
  simp only [Bool.and_eq_true,beq_iff_eq] at hok
  exact xs_more hok.1 hok.2 h
theorem xs_takeR {i d : Nat} {s : Sched} {r : PV} {p : Prop} (hi : opAt ops.toList i = some o) (hg : o.guard = none) (hd : o.dst = some d) (hN : Nat.blt d N = true) (hr : pread G.tab ⟨st.tm, maskM H 0 st.mem⟩ o.op = some (r, p)) (hni : (needI st o.op && !ni) = false) (hp : p)
    (h:PS G N Γ ops H ni fin s m (ls.setIfInBounds i true) (st.put d r) K):PS G N Γ ops H ni fin (.take i :: s) m ls st K:=⟨fun hs hok=>by
  simp only [schOk,Bool.and_eq_true] at hok
  have ht:takeOp G.tab G.eqs N ops H ni st o=some (st.put d r,p):=by
    unfold takeOp
    simp only [hd,hN,hg,hr,hni,cond_true,cond_false]
  have:=pe_take (fuel:=schLen s+m) i (opAt_ops hi) hs hok.1.1 hok.1.2 ht hp (h.go hs hok.2)
  rw [schLen,show schLen s+1+m=schLen s+m+1 by omega]
  · exact this
  · intro _ _ h;cases h⟩
end
end Go.Proofs.YtcefhgomkehokaaGreat
namespace Go.Proofs.YtcefhgomkehokaaGreat
structure PrdE (F:FuncId) (c:Nat→PV) (p:Ex→Bool):Prop where
  c0:Cl (c 0)
  run:∀ x,PureC G.P F [vX x,c 0] (fun r=>r=vb (p x))
theorem PrdE.cl {F:FuncId} {c:Nat→PV} {p:Ex→Bool} (h:PrdE F c p):Cl (.clo F 1 c):=fun i hi=>by
  obtain rfl:i=0:=by omega
  exact h.c0
theorem PrdE.eq {F:FuncId} {c:Nat→PV} {p:Ex→Bool} (h:PrdE F c p) {τ:Nat→Option Nat} : PEq ((PV.clo F 1 c).ren τ) (.clo F 1 c):=PEq.cl _ h.cl
theorem indexFuncE_c (n : Nat) (g : Nat → Ex) (F : FuncId) (c : Nat → PV) (p : Ex → Bool) (hF : PrdE F c p) (hn : n ≤ 1000000000) :
    PureC G.P 91 [.vsl n 10 (tF cX g),.clo F 1 c] (fun r=>∃ i:Nat,i≤n∧(∀ j,j < i→p (g j)=false)∧((i < n∧p (g i)=true∧r=vi i)∨(i=n∧r=vi (-1)))):=by
  refine pure_of (G:=G.toPg) (fn:=Tryz.f91) Tryz.func91 rfl rfl rfl ?_;intro Γ hk
  repeat' (first|refine gg ?_|exact trivial|with_reducible refine wA ?_ ?_|refine Y2.mk ?_ ?_|refine gh ?_|exact qq|fail)
  refine pcan (st':=⟨[(0,.vsl n 10 (tF cX g)),(1,.clo F 1 c),(7,vi n),(8,vi ((0:Nat):Int))],[]⟩) (can_rowsv [] (k0_sel hk rfl) rfl .nil (by exact ⟨PEq.refl _,hF.eq,PEq.refl _,PEq.refl _,trivial⟩)) ?_
  refine ploop (fun q st=>∃ i:Nat,i≤n∧(∀ j,j < i→p (g j)=false)∧q=n - i∧st=⟨[(0,.vsl n 10 (tF cX g)),(1,.clo F 1 c),(7,vi n),(8,vi i)],[]⟩) n ⟨0,by omega,fun j hj=>by omega,rfl,rfl⟩ ?_
  rintro _ _ ⟨i,hi,hv,rfl,rfl⟩
  repeat' (first|refine gg ?_|exact trivial|with_reducible refine wA ?_ ?_|refine Y2.mk ?_ ?_|refine gh ?_|exact qq|fail)
  refine pcond rfl ?_ ?_<;>intro hc<;>simp at hc
  · repeat' (first|refine gg ?_|exact trivial|with_reducible refine wA ?_ ?_|refine Y2.mk ?_ ?_|refine gh ?_|exact qq|fail)
    refine pop_rowsc [] rfl rfl rfl rfl rfl rfl .nil (pure_rows (hF.run (g i))) (by exact ⟨PEq.cl _ (fun i _=>clL_nth _ i (cX_cl _)),PEq.cl _ hF.c0,trivial⟩) ?_
    rintro _ _ ⟨rfl,rfl⟩
    refine ⟨_,_,rfl,trivial,rfl,?_⟩
    cases hp:p (g i) with
    | true =>
      repeat' (first|refine gg ?_|exact trivial|with_reducible refine wA ?_ ?_|refine Y2.mk ?_ ?_|refine gh ?_|exact qq|fail)
      exact kret [] rfl ⟨trivial,trivial⟩ (qs:=[vi i]) ⟨argVal,trivial⟩ ⟨i,by omega,hv,.inl ⟨hc,hp,rfl⟩⟩
    | false =>
      repeat' (first|refine gg ?_|exact trivial|with_reducible refine wA ?_ ?_|refine Y2.mk ?_ ?_|refine gh ?_|exact qq|fail)
      rw [show IntKind.i64.wrap ((i:Int)+1)=((i+1:Nat):Int) from w64 (by omega) (by omega)]
      exact kloop_next (st':=⟨[(0,.vsl n 10 (tF cX g)),(1,.clo F 1 c),(7,vi n),(8,vi ((i+1:Nat):Int))],[]⟩) (n - (i+1)) (can_rowsv [] (k0_sel hk rfl) rfl .nil (by exact ⟨PEq.refl _,hF.eq,PEq.refl _,PEq.refl _,trivial⟩)) (by omega) ⟨i+1,by omega,fun j hj=>by
        by_cases e:j=i
        · subst e;exact hp
        · exact hv j (by omega),rfl,rfl⟩
  · have hin:i=n:=by omega
    subst hin
    repeat' (first|refine gg ?_|exact trivial|with_reducible refine wA ?_ ?_|refine Y2.mk ?_ ?_|refine gh ?_|exact qq|fail)
    exact kret [] rfl ⟨trivial,trivial⟩ (qs:=[vi (-1)]) ⟨argVal,trivial⟩ ⟨i,by omega,hv,.inr ⟨rfl,rfl⟩⟩
theorem lF_getX {l:List Ex} {i:Nat} (h:i < l.length):lF Ex.nil l i=l[i]:=by
  unfold lF;rw [List.getD_eq_getElem?_getD,List.getElem?_eq_getElem h];rfl
theorem containsFuncE_c (L:List Ex) (F:FuncId) (c:Nat→PV) (p:Ex→Bool) (hF:PrdE F c p) (hn:L.length≤1000000000):PureC G.P 76 [.vsl L.length 10 (tF cX (lF .nil L)),.clo F 1 c] (fun r=>r=vb (L.any p)):=by
  have c1:=indexFuncE_c L.length (lF .nil L) F c p hF hn
  refine pure_of (G:=G.toPg) (fn:=Tryz.f76) Tryz.func76 rfl rfl rfl ?_;intro Γ hk
  repeat' (first|refine gg ?_|exact trivial|with_reducible refine wA ?_ ?_|refine Y2.mk ?_ ?_|refine gh ?_|exact qq|fail)
  refine pop_call [] rfl rfl rfl rfl rfl c1 ⟨argVsl,argCl hF.cl,trivial⟩ ?_
  rintro _ ⟨i,hi,hv,⟨hin,hp,rfl⟩|⟨rfl,rfl⟩⟩
  · refine ⟨trivial,?_⟩
    repeat' (first|refine gg ?_|exact trivial|with_reducible refine wA ?_ ?_|refine Y2.mk ?_ ?_|refine gh ?_|exact qq|fail)
    refine kretv rfl ⟨trivial,trivial⟩ rfl (eqB ?_)
    have:L.any p=true:=by
      rw [lF_getX hin] at hp
      exact List.any_eq_true.2 ⟨_,List.getElem_mem hin,hp⟩
    rw [this];simp
  · refine ⟨trivial,?_⟩
    repeat' (first|refine gg ?_|exact trivial|with_reducible refine wA ?_ ?_|refine Y2.mk ?_ ?_|refine gh ?_|exact qq|fail)
    refine kretv rfl ⟨trivial,trivial⟩ rfl (eqB ?_)
    have:L.any p=false:=by
      rw [List.any_eq_false]
      intro x hx
      obtain ⟨j,hj,rfl⟩:=List.getElem_of_mem hx
      have:=hv j hj
      rw [lF_getX hj] at this
      simp [this]
    rw [this];rfl
/-! ### mentions -/
def mentB (s:ByteArray) (r:Ex):Bool:=r.nm.toList == s.toList
def mentS (e:Ex) (s:ByteArray):Bool:=(refsE e).any (mentB s)
theorem named_p (s:ByteArray):PrdE 77 (nthP [.vptr 1 1 (fun _ _=>vs s) 0 0]) (mentB s):=⟨trivial,fun x=>by
  refine pure_of (G:=G.toPg) (fn:=Tryz.f77) Tryz.func77 rfl rfl rfl ?_;intro Γ hk
  repeat' (first|refine gg ?_|exact trivial|with_reducible refine wA ?_ ?_|refine Y2.mk ?_ ?_|refine gh ?_|exact qq|fail)
  exact kretv rfl ⟨trivial,trivial⟩ rfl rfl⟩
theorem mentions_c (e:Ex) (s:ByteArray) (hv:validS 32 e=true) (hw:e.w≤900000):PureC G.P 56 [vX e,vs s] (fun r=>r=vb (mentS e s)):=by
  have rc:=(refs_c 32 e hv hw).nil
  have rl:=refs_len e
  have hX:mentS e s=(refsE e).any (mentB s):=rfl
  rw [hX]
  refine pure_of (G:=G.toPg) (fn:=Tryz.f56) Tryz.func56 rfl rfl rfl ?_;intro Γ hk
  repeat' (first|refine gg ?_|exact trivial|with_reducible refine wA ?_ ?_|refine Y2.mk ?_ ?_|refine gh ?_|exact qq|fail)
  generalize hR:refsE e=R at *
  have cc:=containsFuncE_c R _ _ _ (named_p s) (by omega)
  refine pop_rowsc [] rfl rfl rfl rfl rfl rfl .nil rc (by exact ⟨PEq.refl _,PEq.cl _ (fun i _=>clL_nth _ i (cX_cl _)),trivial⟩) ?_
  rintro r rows ⟨k,hk2,rfl,rfl⟩
  subst hk2
  cases R with
  | nil =>
    refine ⟨_,_,rfl,⟨v_cl cX_cl _ _ _,trivial⟩,rfl,?_⟩
    repeat' (first|refine gg ?_|exact trivial|with_reducible refine wA ?_ ?_|refine Y2.mk ?_ ?_|refine gh ?_|exact qq|fail)
    refine pop_callM [1,2] [] rfl rfl rfl rfl rfl cc (by exact ⟨argM (arg_v (n:=0) (l:=2) cX_cl rfl (List.Mem.tail _ (List.Mem.head _))),argM_clo (fun i hi=>by
      have hi:i < 1:=hi
      obtain rfl:i=0:=by omega
      exact argM_ptr (l:=1) rfl trivial (List.Mem.head _) (Nat.le_refl _) rfl (fun a ha b hb=>by
        obtain rfl:b=0:=by omega
        exact argM (argCl trivial))),trivial⟩) ?_
    rintro _ rfl
    refine ⟨trivial,?_⟩
    repeat' (first|refine gg ?_|exact trivial|with_reducible refine wA ?_ ?_|refine Y2.mk ?_ ?_|refine gh ?_|exact qq|fail)
    exact kretv rfl ⟨trivial,trivial⟩ rfl rfl
  | cons a R =>
    refine ⟨_,_,rfl,⟨v_cl cX_cl _ _ _,trivial⟩,rfl,?_⟩
    repeat' (first|refine gg ?_|exact trivial|with_reducible refine wA ?_ ?_|refine Y2.mk ?_ ?_|refine gh ?_|exact qq|fail)
    refine pop_callM [1,2] [] rfl rfl rfl rfl rfl cc (by exact ⟨argM (arg_v (n:=(R.length+1)) (l:=2) cX_cl rfl (List.Mem.tail _ (List.Mem.head _))),argM_clo (fun i hi=>by
      have hi:i < 1:=hi
      obtain rfl:i=0:=by omega
      exact argM_ptr (l:=1) rfl trivial (List.Mem.head _) (Nat.le_refl _) rfl (fun a ha b hb=>by
        obtain rfl:b=0:=by omega
        exact argM (argCl trivial))),trivial⟩) ?_
    rintro _ rfl
    refine ⟨trivial,?_⟩
    repeat' (first|refine gg ?_|exact trivial|with_reducible refine wA ?_ ?_|refine Y2.mk ?_ ?_|refine gh ?_|exact qq|fail)
    exact kretv rfl ⟨trivial,trivial⟩ rfl rfl
end Go.Proofs.YtcefhgomkehokaaGreat
namespace Go.Proofs.YtcefhgomkehokaaGreat
theorem deleteFunc1_r (n : Nat) (D : List Int) (hD : D.length = n) (F : FuncId) (c : Nat → PV) (p : Int → Bool) (hF : PrdC1 F c p) (hn : n ≤ 1000000000) :
    RowsC G.P 57 [iRow n (lF 0 D)] [.lsl 0 0 n,.clo F 1 c] (fun r rows=>r=.lsl 0 0 (D.filter fun x=>!p x).length∧rows=[iRow (D.filter fun x=>!p x).length (lF 0 (D.filter fun x=>!p x))]):=by
  have c1:=indexFunc1_c n (lF 0 D) F c p hF hn
  refine rows_of (G:=G.toPg) (fn:=Tryz.f57) Tryz.func57 rfl rfl rfl ?_;intro Γ hk
  repeat' (first|refine gg ?_|exact trivial|with_reducible refine wA ?_ ?_|refine Y2.mk ?_ ?_|refine gh ?_|exact qq|fail)
  refine pop_call [0] rfl rfl rfl rfl rfl c1 ⟨argLsl (r:=iRow n (lF 0 D)) rfl trivial (List.Mem.head _) (by show 0+n≤n;omega) (fun a ha b hb=>⟨by rw [Nat.zero_add];rfl,trivial⟩),argCl hF.cl,trivial⟩ ?_
  rintro _ ⟨i,hi,hv,⟨hin,hp,rfl⟩|⟨rfl,rfl⟩⟩
  · refine ⟨trivial,?_⟩
    have hfi:∀ j,j≤i→(D.take j).filter (fun x=>!p x)=D.take j:=fun j hj=>by
      rw [List.filter_eq_self]
      intro x hx
      obtain ⟨q,hq,rfl⟩:=List.getElem_of_mem hx
      have hq2:q < j:=by simp at hq;omega
      have:=hv q (by omega)
      rw [lF_get' (by omega)] at this
      rw [List.getElem_take]
      simp [this]
    have hf1:(D.take (i+1)).filter (fun x=>!p x)=D.take i:=by
      rw [filt_step (by omega),hfi i (Nat.le_refl _),if_neg (by simp [hp])];simp
    have hw0:IntKind.i64.wrap ((i:Int)+1)=((i+1:Nat):Int):=w64 (by omega) (by omega)
    repeat' (first|refine gg ?_|exact trivial|with_reducible refine wA ?_ ?_|refine Y2.mk ?_ ?_|refine gh ?_|exact qq|fail)
    rw [hw0]
    refine pcan (st':=⟨[(0,.lsl 0 0 n),(1,.clo F 1 c),(5,vi i),(6,vi ((i+1:Nat):Int))],[iRow n (lF 0 D)]⟩) (can_rowsv [0] (k0_sel hk rfl) rfl (.cons rfl rqq .nil) (by exact ⟨PEq.refl _,hF.eq,PEq.refl _,PEq.refl _,trivial⟩)) ?_
    refine ploop (fun q st=>∃ (j k:Nat) (f:Nat→Int),j≤n∧k < j∧k=((D.take j).filter fun x=>!p x).length∧(∀ a,a < k→f a=lF 0 ((D.take j).filter fun x=>!p x) a)∧(∀ a,j≤a→f a=lF 0 D a)∧q=n - j∧st=⟨[(0,.lsl 0 0 n),(1,.clo F 1 c),(5,vi k),(6,vi j)],[iRow n f]⟩) (n - (i+1)) ⟨i+1,i,lF 0 D,by omega,by omega,by rw [hf1];simp;omega,fun a ha=>by rw [hf1];rw [lF_get' (by omega),lF_get' (by simp;omega),List.getElem_take],fun a ha=>rfl,rfl,rfl⟩ ?_
    rintro _ _ ⟨j,k,f,hj,hkj,hkl,hf,hg,rfl,rfl⟩
    repeat' (first|refine gg ?_|exact trivial|with_reducible refine wA ?_ ?_|refine Y2.mk ?_ ?_|refine gh ?_|exact qq|fail)
    refine pcond rfl ?_ ?_<;>intro hc<;>simp at hc
    · have hw1:IntKind.i64.wrap ((j:Int)+1)=((j+1:Nat):Int):=w64 (by omega) (by omega)
      have hw2:IntKind.i64.wrap ((k:Int)+1)=((k+1:Nat):Int):=w64 (by omega) (by omega)
      have hst:=filt_step (D:=D) (q:=fun x=>!p x) (j:=j) (by omega)
      repeat' (first|refine gg ?_|exact trivial|with_reducible refine wA ?_ ?_|refine Y2.mk ?_ ?_|refine gh ?_|exact qq|fail)
      refine pop_rowsc [] rfl rfl rfl rfl rfl rfl .nil (pure_rows (hF.run (lF 0 D j))) (by exact ⟨PEq.of (by show vi (f (0+(j:Int).toNat))=_;rw [show 0+(j:Int).toNat=j by omega,hg j (Nat.le_refl _)]),PEq.cl _ hF.c0,trivial⟩) ?_
      rintro _ _ ⟨rfl,rfl⟩
      refine ⟨_,_,rfl,trivial,rfl,?_⟩
      cases hpj:p (lF 0 D j) with
      | true =>
        rw [if_neg (by simp [hpj]),List.append_nil] at hst
        repeat' (first|refine gg ?_|exact trivial|with_reducible refine wA ?_ ?_|refine Y2.mk ?_ ?_|refine gh ?_|exact qq|fail)
        rw [hw1]
        exact kloop_next (st':=⟨[(0,.lsl 0 0 n),(1,.clo F 1 c),(5,vi k),(6,vi ((j+1:Nat):Int))],[iRow n f]⟩) (n - (j+1)) (can_rowsv [0] (k0_sel hk rfl) rfl (.cons rfl rqq .nil) (by exact ⟨PEq.refl _,hF.eq,PEq.refl _,PEq.refl _,trivial⟩)) (by omega) ⟨j+1,k,f,by omega,by omega,by rw [hst];exact hkl,by rw [hst];exact hf,fun a ha=>hg a (by omega),rfl,rfl⟩
      | false =>
        rw [if_pos (by simp [hpj])] at hst
        have hlen:((D.take (j+1)).filter fun x=>!p x).length=k+1:=by rw [hst,List.length_append,← hkl];rfl
        repeat' (first|refine gg ?_|exact trivial|with_reducible refine wA ?_ ?_|refine Y2.mk ?_ ?_|refine gh ?_|exact qq|fail)
        rw [hw1,hw2]
        have hg2:∀ a,k < a→(upd f k (f j)) a=f a:=fun a ha=>if_neg (by omega)
        have hg3:(upd f k (f j)) k=lF 0 D j:=by unfold upd;rw [if_pos rfl,hg j (Nat.le_refl _)]
        have hg4:∀ a,a < k→(upd f k (f j)) a=f a:=fun a ha=>if_neg (by omega)
        refine kloop_next (st':=⟨[(0,.lsl 0 0 n),(1,.clo F 1 c),(5,vi ((k+1:Nat):Int)),(6,vi ((j+1:Nat):Int))],[iRow n (upd f k (f j))]⟩) (n - (j+1)) (can_rowsv [0] (k0_sel hk rfl) rfl (.cons rfl (i_eq (Nat.le_refl _) fun a ha=>?_) .nil) (by exact ⟨PEq.refl _,hF.eq,PEq.refl _,PEq.refl _,trivial⟩)) (by omega) ⟨j+1,k+1,_,by omega,by omega,hlen.symm,fun a ha=>?_,fun a ha=>by rw [hg2 a (by omega)];exact hg a (by omega),rfl,rfl⟩
        · show updR (tI f) (0+(k:Int).toNat) [vi (f (0+(j:Int).toNat))] a 0=_
          rw [show 0+(k:Int).toNat=k by omega,show 0+(j:Int).toNat=j by omega]
          exact upd_eq f k (f j) a 0 rfl
        · by_cases e:a=k
          · subst e
            rw [hg3,hst]
            have:=lF_at (d:=0) (y:=lF 0 D j) (l:=(D.take j).filter fun x=>!p x) (r:=[])
            rw [← hkl] at this;exact this.symm
          · rw [hg4 a (by omega),hf a (by omega),hst,lF_lt (by omega)]
    · have hjn:j=n:=by omega
      subst hjn
      have hT:D.take j=D:=by rw [← hD];simp
      rw [hT] at hkl hf
      rw [← hkl]
      repeat' (first|refine gg ?_|exact trivial|with_reducible refine wA ?_ ?_|refine Y2.mk ?_ ?_|refine gh ?_|exact qq|fail)
      show POps _ _ _ _ (_ :: _) _ _
      refine pop_clear (G:=G.toPg) hu_int hz_int rfl rfl rfl rfl rfl rfl rfl rfl ?_
      repeat' (first|refine gg ?_|exact trivial|with_reducible refine wA ?_ ?_|refine Y2.mk ?_ ?_|refine gh ?_|exact qq|fail)
      · exact ⟨trivial,trivial,by omega,by omega,by omega⟩
      refine xdone ?_
      refine kretr (st':=⟨[(4,.lsl 0 0 k)],[iRow k (lF 0 (D.filter fun x=>!p x))]⟩) (can_rowsv [0] (k0_sel hk rfl) rfl (.cons rfl (i_eq (by show k≤j;omega) fun a ha=>?_) .nil) (by exact ⟨PEq.of (by show PV.lsl 0 0 _=_;congr 1),trivial⟩)) rfl ⟨trivial,trivial⟩ rfl ⟨rfl,rfl⟩
      show clrF _ _ (tI f) a 0=_
      unfold clrF
      rw [if_neg (by omega)]
      · show vi (f a)=_
        rw [hf a ha]
      · exact ⟨trivial,trivial,by omega,by omega,by omega⟩
  · refine ⟨trivial,?_⟩
    have hM:(D.filter fun x=>!p x)=D:=by
      rw [List.filter_eq_self]
      intro x hx
      obtain ⟨j,hj,rfl⟩:=List.getElem_of_mem hx
      have:=hv j (by omega)
      rw [lF_get' hj] at this
      simp [this]
    rw [hM,hD]
    repeat' (first|refine gg ?_|exact trivial|with_reducible refine wA ?_ ?_|refine Y2.mk ?_ ?_|refine gh ?_|exact qq|fail)
    refine xdone ?_
    exact kretr (st':=⟨[(4,.lsl 0 0 i)],[iRow i (lF 0 D)]⟩) (can_rowsv [0] (k0_sel hk rfl) rfl (by (repeat (refine SelV.cons rfl rqq ?_));exact SelV.nil) tmq) rfl ⟨trivial,trivial⟩ rfl ⟨rfl,rfl⟩
end Go.Proofs.YtcefhgomkehokaaGreat
namespace Go.Proofs.YtcefhgomkehokaaGreat
theorem rows_drop {P:Program} {f:FuncId} {rows:List Row} {args:List PV} {post post' : PV→List Row→Prop} (h:RowsC P f rows args post) (hp:∀ r rows',post r rows'→∃ n,rows.length≤n∧n≤rows'.length∧post' r (rows'.take n)∧(∀ x r0,x < n→rows'[x]?=some r0→r0.s≠.mp∧rowCl r0)∧∀ ρ I w v,VRel rows'.length ρ I w r v→VRel n ρ I w r v):RowsC P f rows args post' :=
  ⟨h.1,fun ρ A w vs hm hG hl hv=>(h.2 ρ A w vs hm hG hl hv).mono fun e w' ⟨v,r,rows',ρ',I',he,hpost,hex,hfr,hrv⟩=>by
    obtain ⟨n,h1,h2,h3,h4,h5⟩:=hp r rows' hpost
    have get:∀ {x:Nat} {r0:Row},(rows'.take n)[x]?=some r0→x < n∧rows'[x]?=some r0:=fun {x r0} hx=>by
      rw [List.getElem?_take] at hx
      split at hx
      · exact ⟨by assumption,hx⟩
      · cases hx
    have hlen:(rows'.take n).length=n:=by rw [List.length_take];omega
    refine ⟨v,r,rows'.take n,ρ',I',he,h3,fun x r0 hx hx2 hs=>hex x r0 hx (get hx2).2 hs,⟨⟨fun x r0 hx hs=>?_,fun x y r0 r1 hne hx hy=>hfr.m.apart x y r0 r1 hne (get hx).2 (get hy).2,fun x r0 hx=>hfr.m.mine x r0 (get hx).2,fun x r0 hx=>hfr.m.imm x r0 (get hx).2,hfr.m.lt,fun x r0 hx hs=>absurd hs (h4 x r0 (get hx).1 (get hx).2).1,fun x y r0 r1 hne hx hy hs=>absurd hs (h4 x r0 (get hx).1 (get hx).2).1⟩,hfr.os,hfr.tape,hfr.output,hfr.size,hfr.block,hfr.shape,hfr.old,hfr.new,fun x r0 hx=>hfr.own x r0 (get hx).2,fun x r0 hx=>hfr.fresh x r0 (get hx).2,by rw [hlen];exact h1,hfr.ρ0,fun x r0 hx hs=>absurd hs (h4 x r0 (get hx).1 (get hx).2).1,hfr.gl⟩,by rw [hlen];exact h5 _ _ _ _ hrv⟩
    obtain ⟨g1,cs,T,g2,g3⟩:=hfr.m.row x r0 (get hx).2 hs
    exact ⟨g1,cs,T,g2,fun i hi j hj=>by obtain ⟨u,k1,k2,k3⟩:=g3 i hi j hj;exact ⟨u,k1,k2,VRel.close _ _ _ _ ((h4 x r0 (get hx).1 (get hx).2).2 i hi j hj) k3⟩⟩⟩
theorem gr_rel {k:Nat} {c:PV} {ρ:Nat→Loc} {I:Nat→Prop} {w:World} {v:Value} (h:VRel 2 ρ I w (.tup 2 (nthP [.agg 2 (nthP [slP k 0,.vmap c]),vi 0])) v):VRel 1 ρ I w (.tup 2 (nthP [.agg 2 (nthP [slP k 0,.vmap c]),vi 0])) v:=by
  obtain ⟨vs,h1,h2,h3⟩:=h
  refine ⟨vs,h1,h2,fun i hi=>?_⟩
  obtain rfl|rfl:i=0∨i=1:=by omega
  · obtain ⟨us,g1,g2,g3⟩:=h3 0 (by omega)
    refine ⟨us,g1,g2,fun j hj=>⟨(g3 j hj).1,?_⟩⟩
    obtain rfl|rfl:j=0∨j=1:=by omega
    · cases k with
      | zero=>exact VRel.close (ρ:=ρ) _ _ _ _ trivial (g3 0 (by omega)).2
      | succ k =>
        have:=(g3 0 (by omega)).2
        exact ⟨by omega,this.2⟩
    · exact VRel.close (ρ:=ρ) _ _ _ _ trivial (g3 1 (by omega)).2
  · exact VRel.close (ρ:=ρ) _ _ _ _ trivial (h3 1 (by omega))
theorem newGraph_d (nm:ByteArray) (l:List Df) (day:Int) (h:AgO nm l) (hl:l.length≤1000000) (he:gErr nm l day=0):RowsC G.P 36 [] [vA nm l,vi day] (fun r rows=>∃ k,(nodS l day).length=k∧r=.tup 2 (nthP [.agg 2 (nthP [slP k 0,.vmap (cS (mapS l day))]),vi 0])∧rows=[vRow c1 1 k (lF 0 (nodS l day))]):=rows_drop (newGraph_r nm l day h hl) fun r rows hr=>by
  rcases hr with ⟨h1,_⟩|⟨_,k,hk2,rfl,rfl⟩
  · exact absurd he h1
  · refine ⟨1,Nat.zero_le _,(by show 1≤2;decide),⟨k,hk2,rfl,rfl⟩,fun x r0 hx h0=>?_,fun ρ I w v hv=>gr_rel hv⟩
    obtain rfl:x=0:=by omega
    have h0:some (vRow c1 1 k (lF 0 (nodL l (actL l day))))=some r0:=h0
    injection h0 with h0
    subst h0
    refine ⟨?_,v_cl c1_cl _ _ _⟩
    cases k<;>(intro hh;cases hh)
theorem deleteFunc10_c (F:FuncId) (c:Nat→PV) (p:Int→Bool) (hF:PrdC1 F c p) (f:Nat→Int):PureC G.P 57 [.vsl 0 1 (tI f),.clo F 1 c] (fun r=>r=.vsl 0 1 (tI f)):=by
  have c1:=indexFunc1_c 0 f F c p hF (by decide)
  refine pure_of (G:=G.toPg) (fn:=Tryz.f57) Tryz.func57 rfl rfl rfl ?_;intro Γ hk
  repeat' (first|refine gg ?_|exact trivial|with_reducible refine wA ?_ ?_|refine Y2.mk ?_ ?_|refine gh ?_|exact qq|fail)
  refine pop_call [] rfl rfl rfl rfl rfl c1 ⟨argVsl,argCl hF.cl,trivial⟩ ?_
  rintro _ ⟨i,hi,hv,⟨hin,hp,rfl⟩|⟨rfl,rfl⟩⟩
  · omega
  · refine ⟨trivial,?_⟩
    repeat' (first|refine gg ?_|exact trivial|with_reducible refine wA ?_ ?_|refine Y2.mk ?_ ?_|refine gh ?_|exact qq|fail)
    exact kretv rfl ⟨trivial,trivial⟩ rfl rfl
end Go.Proofs.YtcefhgomkehokaaGreat
namespace Go.Proofs.YtcefhgomkehokaaGreat
open Go.MapKept
def dnStep (L:List (Int×List Int)) (nx:Int) (out:List Int) (i:Int):List Int:=if ¬ i ∈ out∧nx ∈ sget L i then out ++ [i] else out
def dnIn (L:List (Int×List Int)) (nx:Int) (out N:List Int):List Int:=N.foldl (dnStep L nx) out
theorem dnIn_snoc {L:List (Int×List Int)} {nx:Int} {out N:List Int} {i:Int} : dnIn L nx out (N ++ [i])=dnStep L nx (dnIn L nx out N) i:=by
  unfold dnIn;rw [List.foldl_append];rfl
def dnF (N:List Int) (L:List (Int×List Int)):Nat→Nat→List Int→List Int
  | 0,_,out=>out
  | f+1,p,out=>if p < out.length then dnF N L f (p+1) (dnIn L (lF 0 out p) out N) else out
def dn0 (l:List Df) (s:ByteArray) (N:List Int):List Int:=N.filter fun x=>mentS (lF dD l x.toNat).body s
def dnS (l:List Df) (day:Int) (s:ByteArray):List Int:=dnF (nodS l day) (mapS l day) ((nodS l day).length+1) 0 (dn0 l s (nodS l day))
def DwnS (nm:ByteArray) (l:List Df) (day:Int) (s:ByteArray):List Int:=if gErr nm l day≠0 then [] else (nodS l day).filter fun x=>decide (x ∈ dnS l day s)
structure InvN (N out:List Int):Prop where
  nd:out.Nodup
  sub:∀ x,x ∈ out→x ∈ N
theorem InvN.len {N out:List Int} (h:InvN N out):out.length≤N.length:=nd_len h.nd h.sub
theorem InvN.snoc {N out:List Int} {i:Int} (h:InvN N out) (hi:i ∈ N) (hno : ¬ i ∈ out):InvN N (out ++ [i]):=⟨by
  rw [List.nodup_append]
  exact ⟨h.nd,by simp,fun a ha b hb=>by
    have:b=i:=by simpa using hb
    subst this
    exact fun e=>hno (e ▸ ha)⟩,fun x hx=>by
  rcases List.mem_append.1 hx with hx|hx
  · exact h.sub x hx
  · rw [List.mem_singleton.1 hx];exact hi⟩
theorem InvN.step {N out:List Int} {L:List (Int×List Int)} {nx i:Int} (h:InvN N out) (hi:i ∈ N):InvN N (dnStep L nx out i):=by
  unfold dnStep
  split
  · rename_i hc;exact h.snoc hi hc.1
  · exact h
theorem InvN.fold {N:List Int} {L:List (Int×List Int)} {nx:Int} : ∀ (A out:List Int),InvN N out→(∀ x,x ∈ A→x ∈ N)→InvN N (dnIn L nx out A)
  | [],out,h,_=>h
  | a :: A,out,h,hA=>InvN.fold A (dnStep L nx out a) (h.step (hA a (List.mem_cons_self ..))) (fun x hx=>hA x (List.mem_cons_of_mem _ hx))
theorem reached_p (out:List Int):PrdC1 58 (nthP [cLis out]) (fun x=>!decide (x ∈ out)):=⟨trivial,fun x=>by
  refine pure_of (G:=G.toPg) (fn:=Tryz.f58) Tryz.func58 rfl rfl rfl ?_;intro Γ hk
  repeat' (first|refine gg ?_|exact trivial|with_reducible refine wA ?_ ?_|refine Y2.mk ?_ ?_|refine gh ?_|exact qq|fail)
  refine pop_lookvB mapIBd false x rfl rfl rfl rfl rfl rfl ?_
  rw [show (bif false then PV.tup 2 (nthP [.val (bV ((mget (lsM out) x).getD 0)),vb (mget (lsM out) x).isSome]) else .val (bV ((mget (lsM out) x).getD 0)))=vb (decide (x ∈ out)) from lsM_b out x]
  repeat' (first|refine gg ?_|exact trivial|with_reducible refine wA ?_ ?_|refine Y2.mk ?_ ?_|refine gh ?_|exact qq|fail)
  exact kretv rfl ⟨trivial,trivial⟩ rfl rfl⟩
theorem vm1 {l:Nat} {c:PV} : ∀ i,i < 1→∀ j,j < 1→VM l c ((cM1 (.mref l)).f i j) ((cM1 (.vmap c)).f i j):=fun i hi j hj=>VM.ref
theorem gErr_chk {nm:ByteArray} {l:List Df} {day:Int} (h:gErr nm l day=0):chkE nm l day=0:=by
  unfold gErr at h
  by_cases h1:chkE nm l day≠0
  · rw [if_pos h1] at h;exact absurd h h1
  · exact Decidable.not_not.1 h1
theorem dn0_snoc {l:List Df} {s:ByteArray} {A:List Int} {x:Int} : dn0 l s (A ++ [x])=dn0 l s A ++ if mentS (lF dD l x.toNat).body s=true then [x] else []:=by
  unfold dn0
  rw [List.filter_append,List.filter_cons,List.filter_nil]
theorem nodS_nd (l:List Df) (day:Int):(nodS l day).Nodup:=by
  have h:=(actN_asc l day l.length).filter (fun x=>comp (lF dD l x.toNat))
  exact h.imp (fun hab=>by omega)
theorem nodS_in {l:List Df} {day x:Int} (h:x ∈ nodS l day):0≤x∧x < l.length∧comp (lF dD l x.toNat)=true:=by
  obtain ⟨h1,h2⟩:=List.mem_filter.1 h
  have:=actL_in x h1
  exact ⟨this.1,this.2,h2⟩
theorem not_not_dec {N out:List Int} : (N.filter fun x=>!(!decide (x ∈ out)))=N.filter fun x=>decide (x ∈ out):=by
  congr 1;funext x;rw [Bool.not_not]
set_option maxHeartbeats 16000000 in
theorem Downstream_c (nm:ByteArray) (l:List Df) (day:Int) (s:ByteArray) (h:AgO nm l) (hl:l.length≤900000):PureC G.P 34 [vA nm l,vi day,vs s] (fun r=>r=sV (DwnS nm l day s)):=by
  by_cases he:gErr nm l day=0
  · have cg:=newGraph_d nm l day h (by omega) he
    have hNl:=nodS_len l day
    have hvd:=chk_valid (gErr_chk he)
    have hNnd:=nodS_nd l day
    have hNin:=fun x (hx:x ∈ nodS l day)=>nodS_in hx
    have hLb:∀ e,e ∈ mapS l day→e.2.length≤1000000:=fun e he=>Nat.le_trans (mapS_len l day e he) (by omega)
    have hX:DwnS nm l day s=(nodS l day).filter fun x=>decide (x ∈ dnS l day s):=by unfold DwnS;rw [if_neg (fun hh=>hh he)]
    have hD0:dn0 l s (nodS l day)=[]→dnS l day s=[]:=fun e=>by unfold dnS;rw [e,dnF];rfl
    refine pure_of (G:=G.toPg) (fn:=Tryz.f34) Tryz.func34 rfl rfl rfl ?_;intro Γ hk
    repeat' (first|refine gg ?_|exact trivial|with_reducible refine wA ?_ ?_|refine Y2.mk ?_ ?_|refine gh ?_|exact qq|fail)
    refine pop_rowsc [] rfl rfl rfl rfl rfl rfl .nil cg (by exact ⟨PEq.cl (vA nm l) (clA ⟨trivial,trivial,trivial⟩),PEq.refl _,trivial⟩) ?_
    rintro r rows ⟨k,hk2,rfl,rfl⟩
    generalize hN:nodS l day=N at *
    generalize hL:mapS l day=L at *
    rcases k with _|k
    · refine ⟨_,_,rfl,⟨v_cl c1_cl _ _ _,trivial⟩,rfl,?_⟩
      repeat' (first|refine gg ?_|exact trivial|with_reducible refine wA ?_ ?_|refine Y2.mk ?_ ?_|refine gh ?_|exact qq|fail)
      refine pop_mkmapB kI rfl rfl rfl rfl rfl ?_
      repeat' (first|refine gg ?_|exact trivial|with_reducible refine wA ?_ ?_|refine Y2.mk ?_ ?_|refine gh ?_|exact qq|fail)
      refine ploopN 1 ?_
      repeat' (first|refine gg ?_|exact trivial|with_reducible refine wA ?_ ?_|refine Y2.mk ?_ ?_|refine gh ?_|exact qq|fail)
      refine ploopN 1 ?_
      repeat' (first|refine gg ?_|exact trivial|with_reducible refine wA ?_ ?_|refine Y2.mk ?_ ?_|refine gh ?_|exact qq|fail)
      refine ocan0 (st':=⟨[(82,.val (.slice none 0 0)),(83,.clo 58 1 (nthP [cLis []]))],[]⟩) ((((can_rowsv [3,4] (tm:=[(82,.val (.slice none 0 0)),(83,.clo 58 1 (nthP [.ptr 1 0 0]))]) (rows:=[mRowB kI (lsM []),cM1 (.mref 0)]) (k0_sel hk rfl) rfl (.cons rfl m_eqB (.cons rfl (cM1_eq (PEq.refl _)) .nil)) (by exact ⟨PEq.refl _,PEq.clo1 (PEq.refl _),trivial⟩)).trans (can_vmap (one:=false) (n:=0) (f:=fun _ _=>.val (mVB kI (lsM []))) 0 (by rw [hk];exact Nat.zero_le _) rfl trivial (tm:=[(82,.val (.slice none 0 0)),(83,.clo 58 1 (nthP [.ptr 1 0 0]))]) (rows:=[deadR,cM1 (.vmap (.val (mVB kI (lsM []))))]) (by exact ⟨VM.refl,VM.refl,trivial⟩) (by exact ⟨.inl rfl,.inr ⟨trivial,rfl,rfl,rfl,vm1⟩,trivial⟩))).trans (can_frz [1] (by intro l hl;rw [hk];exact Nat.zero_le _) rfl (tm:=[(82,.val (.slice none 0 0)),(83,.clo 58 1 (nthP [cLis []]))]) (by exact ⟨.inl rfl,.inr (argClo1 (argPtr (r:=cM1 (.vmap (.val (mVB kI (lsM []))))) rfl trivial (List.Mem.head _) (Nat.le_refl _) rfl (fun a ha b hb=>argCl trivial))),trivial⟩))).trans (can_rowsv [] (k0_sel hk rfl) rfl .nil (by exact ⟨PEq.refl _,PEq.cl _ (reached_p []).cl,trivial⟩))) ?_
      refine pop_callc [] rfl rfl rfl rfl rfl rfl (fun _ h=>by cases h) (deleteFunc10_c _ _ _ (reached_p []) (lF 0 [])) ⟨argNil,argCl (reached_p []).cl,trivial⟩ ?_
      rintro _ rfl
      repeat' (first|refine gg ?_|exact trivial|with_reducible refine wA ?_ ?_|refine Y2.mk ?_ ?_|refine gh ?_|exact qq|fail)
      refine kretv rfl ⟨trivial,trivial⟩ rfl ?_
      rw [hX,List.length_eq_zero_iff.1 hk2];rfl
    · refine ⟨_,_,rfl,⟨v_cl c1_cl _ _ _,trivial⟩,rfl,?_⟩
      repeat' (first|refine gg ?_|exact trivial|with_reducible refine wA ?_ ?_|refine Y2.mk ?_ ?_|refine gh ?_|exact qq|fail)
      refine pop_mkmapB kI rfl rfl rfl rfl rfl ?_
      repeat' (first|refine gg ?_|exact trivial|with_reducible refine wA ?_ ?_|refine Y2.mk ?_ ?_|refine gh ?_|exact qq|fail)
      refine pcan ((can_virt (vRow c1 1 0 (lF 0 [])) rfl).trans (can_rowsv [0,1,2,3,4,5] (tm:=[(2,vs s),(3,.ptr 0 0 0),(7,.ptr 2 0 0),(9,.ptr 4 0 0),(10,slP (0) 5),(26,.lsl 1 0 (k+1)),(27,vi ((k+1:Nat):Int)),(28,vi ((0:Nat):Int))]) (rows:=[rA1 nm l,vRow c1 1 (k+1) (lF 0 N),cG (.lsl 1 0 (k+1)) (.vmap (cS L)),mRowB kI (lsM ([])),cM1 (.mref 3),vRow c1 1 (0) (lF 0 ([]))]) (k0_sel hk rfl) rfl (.cons rfl (RowEq.cl (rA1_cl _ _)) (.cons rfl (RowEq.cl (v_cl c1_cl _ _ _)) (.cons rfl (cG_eq (PEq.refl _) (PEq.refl _)) (.cons rfl m_eqB (.cons rfl (cM1_eq (PEq.refl _)) (.cons rfl (RowEq.cl (v_cl c1_cl _ _ _)) .nil)))))) tmq)) ?_
      refine ploop (fun q st=>∃ (i m:Nat) (out:List Int),i≤N.length∧out=dn0 l s (N.take i)∧out.length=m∧q=N.length - i∧st=⟨[(2,vs s),(3,.ptr 0 0 0),(7,.ptr 2 0 0),(9,.ptr 4 0 0),(10,slP (m) 5),(26,.lsl 1 0 (k+1)),(27,vi ((k+1:Nat):Int)),(28,vi i)],[rA1 nm l,vRow c1 1 (k+1) (lF 0 N),cG (.lsl 1 0 (k+1)) (.vmap (cS L)),mRowB kI (lsM (out)),cM1 (.mref 3),vRow c1 1 (m) (lF 0 (out))]⟩) N.length ⟨0,0,[],Nat.zero_le _,by rw [List.take_zero];rfl,rfl,rfl,rfl⟩ ?_
      rintro _ _ ⟨i,m,out,hi,ho,hm,rfl,rfl⟩
      have hw1:IntKind.i64.wrap ((i:Int)+1)=((i+1:Nat):Int):=w64 (by omega) (by omega)
      have hmb:m≤1000000:=by rw [← hm,ho];exact Nat.le_trans (List.length_filter_le _ _) (by rw [List.length_take];omega)
      rcases m with _|m
      · --
        repeat' (first|refine gg ?_|exact trivial|with_reducible refine wA ?_ ?_|refine Y2.mk ?_ ?_|refine gh ?_|exact qq|fail)
        refine pcond rfl ?_ ?_<;>intro hc
        · have hc:i < k+1:=by have:=of_decide_eq_true hc;omega
          have hT:N.take (i+1)=N.take i ++ [lF 0 N i]:=by
            unfold lF
            rw [List.take_add_one,List.getD_eq_getElem?_getD,List.getElem?_eq_getElem (by omega)];rfl
          have hxN:lF 0 N i ∈ N:=by rw [lF_get' (by omega)];exact List.getElem_mem (by omega)
          have hx:=hNin _ hxN
          have hx3:(lF 0 N i).toNat < l.length:=by omega
          have hbo:=h.body hvd hx3 hx.2.2
          have hz:0+((i:Nat):Int).toNat=i:=by omega
          have cm:=mentions_c (lF dD l (lF 0 N (0+((i:Nat):Int).toNat)).toNat).body s (by rw [hz];exact hbo.1) (by rw [hz];exact hbo.2)
          rw [show mentS (lF dD l (lF 0 N (0+((i:Nat):Int).toNat)).toNat).body s=mentS (lF dD l (lF 0 N i).toNat).body s by rw [hz]] at cm
          have hS:=dn0_snoc (l:=l) (s:=s) (A:=N.take i) (x:=lF 0 N i)
          rw [← hT,← ho] at hS
          have hnot : ¬ lF 0 N i ∈ out:=fun hh=>by
            rw [ho] at hh
            have h1:=(List.mem_filter.1 hh).1
            have h2:(N.take i ++ [lF 0 N i]).Nodup:=hT ▸ hNnd.sublist (List.take_sublist _ _)
            rw [List.nodup_append] at h2
            exact h2.2.2 _ h1 _ (List.mem_singleton.2 rfl) rfl
          cases hme:mentS (lF dD l (lF 0 N i).toNat).body s with
          | false =>
            rw [hme] at cm
            rw [hme,if_neg (by decide),List.append_nil] at hS
            repeat' (first|refine gg ?_|exact trivial|with_reducible refine wA ?_ ?_|refine Y2.mk ?_ ?_|(rw [hz];exact ⟨hx.1,hx.2.1⟩)|(rw [hz];exact hx3)|refine zz cm ?_|refine gh ?_|exact qq|fail)
            rw [hw1]
            exact kloop_next (st':=⟨[(2,vs s),(3,.ptr 0 0 0),(7,.ptr 2 0 0),(9,.ptr 4 0 0),(10,slP (0) 5),(26,.lsl 1 0 (k+1)),(27,vi ((k+1:Nat):Int)),(28,vi ((i+1:Nat):Int))],[rA1 nm l,vRow c1 1 (k+1) (lF 0 N),cG (.lsl 1 0 (k+1)) (.vmap (cS L)),mRowB kI (lsM (out)),cM1 (.mref 3),vRow c1 1 (0) (lF 0 (out))]⟩) (N.length - (i+1)) (can_rowsv [0,1,2,3,4,5] (k0_sel hk rfl) rfl (.cons rfl (RowEq.cl (rA1_cl _ _)) (.cons rfl (RowEq.cl (v_cl c1_cl _ _ _)) (.cons rfl (cG_eq (PEq.refl _) (PEq.refl _)) (.cons rfl m_eqB (.cons rfl (cM1_eq (PEq.refl _)) (.cons rfl (RowEq.cl (v_cl c1_cl _ _ _)) .nil)))))) tmq) (by omega) ⟨i+1,0,out,by omega,by rw [hS],hm,rfl,rfl⟩
          | true =>
            rw [hme] at cm
            rw [hme,if_pos rfl] at hS
            repeat' (first|refine gg ?_|exact trivial|with_reducible refine wA ?_ ?_|refine Y2.mk ?_ ?_|(rw [hz];exact ⟨hx.1,hx.2.1⟩)|(rw [hz];exact hx3)|refine zz cm ?_|refine gh ?_|exact qq|fail)
            rw [hz]
            refine pop_msetB (l:=3) mapIBd (lF 0 N i) 1 rfl rfl rfl rfl rfl rfl rfl (by rw [hk];exact Nat.zero_le _) rfl rfl ?_
            rw [lsM_set hnot]
            repeat' (first|refine gg ?_|exact trivial|with_reducible refine wA ?_ ?_|refine Y2.mk ?_ ?_|exact ⟨Nat.le_refl _,(by rw [hk];exact Nat.le_of_ble_eq_true rfl),Nat.le_of_eq (Nat.zero_add _),(show (_:Nat) * 8≤140737488355328 from by omega),(show (_:Nat)≤9223372036854775807 from by omega)⟩|refine gh ?_|exact qq|fail)
            rw [hw1]
            exact kloop_next (st':=⟨[(2,vs s),(3,.ptr 0 0 0),(7,.ptr 2 0 0),(9,.ptr 4 0 0),(10,slP (0+1) 5),(26,.lsl 1 0 (k+1)),(27,vi ((k+1:Nat):Int)),(28,vi ((i+1:Nat):Int))],[rA1 nm l,vRow c1 1 (k+1) (lF 0 N),cG (.lsl 1 0 (k+1)) (.vmap (cS L)),mRowB kI (lsM (out ++ [lF 0 N i])),cM1 (.mref 3),vRow c1 1 (0+1) (lF 0 (out ++ [lF 0 N i]))]⟩) (N.length - (i+1)) (can_rowsv [0,1,2,3,4,7] (k0_sel hk rfl) rfl (.cons rfl (RowEq.cl (rA1_cl _ _)) (.cons rfl (RowEq.cl (v_cl c1_cl _ _ _)) (.cons rfl (cG_eq (PEq.refl _) (PEq.refl _)) (.cons rfl m_eqB (.cons rfl (cM1_eq (PEq.refl _)) (.cons rfl (app_l0 c1_cl hm rfl) .nil)))))) tmq) (by omega) ⟨i+1,0+1,out ++ [lF 0 N i],by omega,by rw [hS],by rw [List.length_append,hm];rfl,rfl,rfl⟩
        · have hil:i=k+1:=by have:=of_decide_eq_false hc;omega
          subst hil
          rw [show N.take (k+1)=N from by rw [← hk2];exact List.take_length] at ho
          repeat' (first|refine gg ?_|exact trivial|with_reducible refine wA ?_ ?_|refine Y2.mk ?_ ?_|refine gh ?_|exact qq|fail)
          refine pcan (st':=⟨[(7,.ptr 2 0 0),(9,.ptr 4 0 0),(10,slP 0 5)],[rA1 nm l,vRow c1 1 (k+1) (lF 0 N),cG (.lsl 1 0 (k+1)) (.vmap (cS L)),mRowB kI (lsM (out)),cM1 (.mref 3),vRow c1 1 (0) (lF 0 (out))]⟩) (can_rowsv [0,1,2,3,4,5] (k0_sel hk rfl) rfl (.cons rfl (RowEq.cl (rA1_cl _ _)) (.cons rfl (RowEq.cl (v_cl c1_cl _ _ _)) (.cons rfl (cG_eq (PEq.refl _) (PEq.refl _)) (.cons rfl m_eqB (.cons rfl (cM1_eq (PEq.refl _)) (.cons rfl (RowEq.cl (v_cl c1_cl _ _ _)) .nil)))))) tmq) ?_
          refine ploopN 1 ?_
          have ho0:out=[]:=List.length_eq_zero_iff.1 hm
          subst ho0
          repeat' (first|refine gg ?_|exact trivial|with_reducible refine wA ?_ ?_|refine Y2.mk ?_ ?_|refine gh ?_|exact qq|fail)
          refine ocan0 (st':=⟨[(82,.lsl 0 0 (k+1)),(83,.clo 58 1 (nthP [cLis ([])]))],[iRow (k+1) (lF 0 N)]⟩) (((can_vmap (one:=false) (n:=0) (f:=fun _ _=>.val (mVB kI (lsM ([])))) 3 (by rw [hk];exact Nat.zero_le _) rfl trivial (tm:=[(82,.lsl 1 0 (k+1)),(83,.clo 58 1 (nthP [.ptr 4 0 0]))]) (rows:=[rA1 nm l,vRow c1 1 (k+1) (lF 0 N),cG (.lsl 1 0 (k+1)) (.vmap (cS L)),deadR,cM1 (.vmap (.val (mVB kI (lsM ([]))))),vRow c1 1 (0) (lF 0 ([]))]) (by exact ⟨VM.refl,VM.refl,trivial⟩) (by exact ⟨.inl rfl,.inl rfl,.inl rfl,.inl rfl,.inr ⟨trivial,rfl,rfl,rfl,vm1⟩,.inl rfl,trivial⟩)).trans (can_frz [4] (by intro l hl;rw [hk];exact Nat.zero_le _) rfl (tm:=[(82,.lsl 1 0 (k+1)),(83,.clo 58 1 (nthP [cLis ([])]))]) (by exact ⟨.inl rfl,.inr (argClo1 (argPtr (r:=cM1 (.vmap (.val (mVB kI (lsM ([])))))) rfl trivial (List.Mem.head _) (Nat.le_refl _) rfl (fun a ha b hb=>argCl trivial))),trivial⟩))).trans (can_rowsv [1] (k0_sel hk rfl) rfl (.cons rfl vi_row .nil) (by exact ⟨PEq.refl _,PEq.cl _ (reached_p ([])).cl,trivial⟩))) ?_
          refine pop_rowsc [0] rfl rfl rfl rfl rfl rfl (.cons rfl trivial (RowEq.cl (i_cl _ _)) .nil) (deleteFunc1_r (k+1) N hk2 _ _ _ (reached_p ([])) (by omega)) (by exact ⟨PEq.refl _,PEq.cl _ (reached_p ([])).cl,trivial⟩) ?_
          rintro r rows ⟨rfl,rfl⟩
          refine ⟨_,_,rfl,⟨i_cl _ _,trivial⟩,rfl,?_⟩
          repeat' (first|refine gg ?_|exact trivial|with_reducible refine wA ?_ ?_|refine Y2.mk ?_ ?_|refine gh ?_|exact qq|fail)
          refine xdone ?_
          rw [not_not_dec]
          generalize hM:(N.filter fun x=>decide (x ∈ ([])))=M
          refine kret [0] rfl ⟨trivial,trivial⟩ (qs:=[sV M]) ⟨argLsl (r:=iRow M.length (lF 0 M)) rfl trivial (List.Mem.head _) (by show 0+M.length≤M.length;omega) (fun a ha b hb=>⟨by rw [Nat.zero_add];rfl,trivial⟩),trivial⟩ ?_
          rw [← hM,hX,hD0 ho.symm];rfl
      · --
        repeat' (first|refine gg ?_|exact trivial|with_reducible refine wA ?_ ?_|refine Y2.mk ?_ ?_|refine gh ?_|exact qq|fail)
        refine pcond rfl ?_ ?_<;>intro hc
        · have hc:i < k+1:=by have:=of_decide_eq_true hc;omega
          have hT:N.take (i+1)=N.take i ++ [lF 0 N i]:=by
            unfold lF
            rw [List.take_add_one,List.getD_eq_getElem?_getD,List.getElem?_eq_getElem (by omega)];rfl
          have hxN:lF 0 N i ∈ N:=by rw [lF_get' (by omega)];exact List.getElem_mem (by omega)
          have hx:=hNin _ hxN
          have hx3:(lF 0 N i).toNat < l.length:=by omega
          have hbo:=h.body hvd hx3 hx.2.2
          have hz:0+((i:Nat):Int).toNat=i:=by omega
          have cm:=mentions_c (lF dD l (lF 0 N (0+((i:Nat):Int).toNat)).toNat).body s (by rw [hz];exact hbo.1) (by rw [hz];exact hbo.2)
          rw [show mentS (lF dD l (lF 0 N (0+((i:Nat):Int).toNat)).toNat).body s=mentS (lF dD l (lF 0 N i).toNat).body s by rw [hz]] at cm
          have hS:=dn0_snoc (l:=l) (s:=s) (A:=N.take i) (x:=lF 0 N i)
          rw [← hT,← ho] at hS
          have hnot : ¬ lF 0 N i ∈ out:=fun hh=>by
            rw [ho] at hh
            have h1:=(List.mem_filter.1 hh).1
            have h2:(N.take i ++ [lF 0 N i]).Nodup:=hT ▸ hNnd.sublist (List.take_sublist _ _)
            rw [List.nodup_append] at h2
            exact h2.2.2 _ h1 _ (List.mem_singleton.2 rfl) rfl
          cases hme:mentS (lF dD l (lF 0 N i).toNat).body s with
          | false =>
            rw [hme] at cm
            rw [hme,if_neg (by decide),List.append_nil] at hS
            repeat' (first|refine gg ?_|exact trivial|with_reducible refine wA ?_ ?_|refine Y2.mk ?_ ?_|(rw [hz];exact ⟨hx.1,hx.2.1⟩)|(rw [hz];exact hx3)|refine zz cm ?_|refine gh ?_|exact qq|fail)
            rw [hw1]
            exact kloop_next (st':=⟨[(2,vs s),(3,.ptr 0 0 0),(7,.ptr 2 0 0),(9,.ptr 4 0 0),(10,slP (m+1) 5),(26,.lsl 1 0 (k+1)),(27,vi ((k+1:Nat):Int)),(28,vi ((i+1:Nat):Int))],[rA1 nm l,vRow c1 1 (k+1) (lF 0 N),cG (.lsl 1 0 (k+1)) (.vmap (cS L)),mRowB kI (lsM (out)),cM1 (.mref 3),vRow c1 1 (m+1) (lF 0 (out))]⟩) (N.length - (i+1)) (can_rowsv [0,1,2,3,4,5] (k0_sel hk rfl) rfl (.cons rfl (RowEq.cl (rA1_cl _ _)) (.cons rfl (RowEq.cl (v_cl c1_cl _ _ _)) (.cons rfl (cG_eq (PEq.refl _) (PEq.refl _)) (.cons rfl m_eqB (.cons rfl (cM1_eq (PEq.refl _)) (.cons rfl (RowEq.cl (v_cl c1_cl _ _ _)) .nil)))))) tmq) (by omega) ⟨i+1,m+1,out,by omega,by rw [hS],hm,rfl,rfl⟩
          | true =>
            rw [hme] at cm
            rw [hme,if_pos rfl] at hS
            repeat' (first|refine gg ?_|exact trivial|with_reducible refine wA ?_ ?_|refine Y2.mk ?_ ?_|(rw [hz];exact ⟨hx.1,hx.2.1⟩)|(rw [hz];exact hx3)|refine zz cm ?_|refine gh ?_|exact qq|fail)
            rw [hz]
            refine pop_msetB (l:=3) mapIBd (lF 0 N i) 1 rfl rfl rfl rfl rfl rfl rfl (by rw [hk];exact Nat.zero_le _) rfl rfl ?_
            rw [lsM_set hnot]
            repeat' (first|refine gg ?_|exact trivial|with_reducible refine wA ?_ ?_|refine Y2.mk ?_ ?_|exact ⟨Nat.le_refl _,(by rw [hk];exact Nat.le_of_ble_eq_true rfl),Nat.le_of_eq (Nat.zero_add _),(show (_:Nat) * 8≤140737488355328 from by omega),(show (_:Nat)≤9223372036854775807 from by omega)⟩|refine gh ?_|exact qq|fail)
            rw [hw1]
            exact kloop_next (st':=⟨[(2,vs s),(3,.ptr 0 0 0),(7,.ptr 2 0 0),(9,.ptr 4 0 0),(10,slP (m+1+1) 5),(26,.lsl 1 0 (k+1)),(27,vi ((k+1:Nat):Int)),(28,vi ((i+1:Nat):Int))],[rA1 nm l,vRow c1 1 (k+1) (lF 0 N),cG (.lsl 1 0 (k+1)) (.vmap (cS L)),mRowB kI (lsM (out ++ [lF 0 N i])),cM1 (.mref 3),vRow c1 1 (m+1+1) (lF 0 (out ++ [lF 0 N i]))]⟩) (N.length - (i+1)) (can_rowsv [0,1,2,3,4,7] (k0_sel hk rfl) rfl (.cons rfl (RowEq.cl (rA1_cl _ _)) (.cons rfl (RowEq.cl (v_cl c1_cl _ _ _)) (.cons rfl (cG_eq (PEq.refl _) (PEq.refl _)) (.cons rfl m_eqB (.cons rfl (cM1_eq (PEq.refl _)) (.cons rfl (app_l c1_cl hm rfl rfl) .nil)))))) tmq) (by omega) ⟨i+1,m+1+1,out ++ [lF 0 N i],by omega,by rw [hS],by rw [List.length_append,hm];rfl,rfl,rfl⟩
        · have hil:i=k+1:=by have:=of_decide_eq_false hc;omega
          subst hil
          rw [show N.take (k+1)=N from by rw [← hk2];exact List.take_length] at ho
          repeat' (first|refine gg ?_|exact trivial|with_reducible refine wA ?_ ?_|refine Y2.mk ?_ ?_|refine gh ?_|exact qq|fail)
          refine pcan (st':=⟨[(7,.ptr 2 0 0),(9,.ptr 4 0 0),(10,.lsl 5 0 (m+1))],[rA1 nm l,vRow c1 1 (k+1) (lF 0 N),cG (.lsl 1 0 (k+1)) (.vmap (cS L)),mRowB kI (lsM (out)),cM1 (.mref 3),iRow (m+1) (lF 0 out)]⟩) (can_rowsv [0,1,2,3,4,5] (k0_sel hk rfl) rfl (.cons rfl (RowEq.cl (rA1_cl _ _)) (.cons rfl (RowEq.cl (v_cl c1_cl _ _ _)) (.cons rfl (cG_eq (PEq.refl _) (PEq.refl _)) (.cons rfl m_eqB (.cons rfl (cM1_eq (PEq.refl _)) (.cons rfl (vi_row) .nil)))))) tmq) ?_
          have hI0:InvN N out:=⟨by rw [ho];exact hNnd.filter _,fun x hx=>by rw [ho] at hx;exact (List.mem_filter.1 hx).1⟩
          have hD0' : dnS l day s=dnF N L (N.length+1) 0 out:=by rw [ho,← hN,← hL];rfl
          clear hD0
          refine ploop (fun q st=>∃ (p o M n:Nat) (g:Nat→Int) (out:List Int),InvN N out∧p≤out.length∧dnS l day s=dnF N L (N.length+1 - p) p out∧out.length=p+n∧o+n≤M∧(∀ a,a < n→g (o+a)=lF 0 (out.drop p) a)∧q=N.length - p∧st=⟨[(7,.ptr 2 0 0),(9,.ptr 4 0 0),(10,.lsl 5 o n)],[rA1 nm l,vRow c1 1 (k+1) (lF 0 N),cG (.lsl 1 0 (k+1)) (.vmap (cS L)),mRowB kI (lsM (out)),cM1 (.mref 3),iRow M g]⟩) N.length ⟨0,0,m+1,m+1,lF 0 out,out,hI0,Nat.zero_le _,hD0',by omega,by omega,fun a ha=>by rw [Nat.zero_add,List.drop_zero],rfl,rfl⟩ ?_
          clear hI0 hD0' ho hm
          rintro _ _ ⟨p,o,M,n,g,out,hI,hpl,hD,hP,hM,hg,rfl,rfl⟩
          have hIl:=hI.len
          repeat' (first|refine gg ?_|exact trivial|with_reducible refine wA ?_ ?_|refine Y2.mk ?_ ?_|refine gh ?_|exact qq|fail)
          refine pcond rfl ?_ ?_<;>intro hc
          · have hc:0 < n:=by have:=of_decide_eq_true hc;omega
            obtain ⟨n,rfl⟩:∃ n',n=n'+1:=⟨n - 1,by omega⟩
            have hg0:g o=lF 0 out p:=by
              have:=hg 0 (by omega)
              rw [Nat.add_zero] at this
              rw [this];unfold lF;rw [List.getD_eq_getElem?_getD,List.getD_eq_getElem?_getD,List.getElem?_drop,Nat.add_zero]
            obtain ⟨nx,hnx⟩:∃ nx,lF 0 out p=nx:=⟨_,rfl⟩
            repeat' (first|refine gg ?_|exact trivial|with_reducible refine wA ?_ ?_|refine Y2.mk ?_ ?_|(show o+0 < M;omega)|exact ⟨by decide,by omega⟩|exact ⟨trivial,trivial,by decide,by omega,Int.le_refl _⟩|refine gh ?_|exact qq|fail)
            refine pcan (can_rowsv [0,1,2,3,4,5] (tm:=[(7,.ptr 2 0 0),(9,.ptr 4 0 0),(10,.lsl 5 (o+1) (n)),(13,vi nx),(56,.lsl 1 0 (k+1)),(57,vi ((k+1:Nat):Int)),(58,vi ((0:Nat):Int))]) (rows:=[rA1 nm l,vRow c1 1 (k+1) (lF 0 N),cG (.lsl 1 0 (k+1)) (.vmap (cS L)),mRowB kI (lsM (out)),cM1 (.mref 3),iRow M g]) (k0_sel hk rfl) rfl (.cons rfl (RowEq.cl (rA1_cl _ _)) (.cons rfl (RowEq.cl (v_cl c1_cl _ _ _)) (.cons rfl (cG_eq (PEq.refl _) (PEq.refl _)) (.cons rfl m_eqB (.cons rfl (cM1_eq (PEq.refl _)) (.cons rfl (RowEq.cl (i_cl _ _)) .nil)))))) (by exact ⟨PEq.refl _,PEq.refl _,PEq.of (by show PV.lsl 5 (o+1) _=_;congr 1;omega),PEq.of (by show vi (g (o+0))=vi nx;rw [Nat.add_zero,hg0,hnx]),PEq.refl _,PEq.refl _,PEq.refl _,trivial⟩)) ?_
            refine ploop (fun q st=>∃ (i p2 k2 M2:Nat) (g2:Nat→Int) (o2:List Int),i≤N.length∧o2=dnIn L nx out (N.take i)∧o2.length=p+1+k2∧p2+k2≤M2∧(∀ a,a < k2→g2 (p2+a)=lF 0 (o2.drop (p+1)) a)∧q=N.length - i∧st=⟨[(7,.ptr 2 0 0),(9,.ptr 4 0 0),(10,.lsl 5 (p2) (k2)),(13,vi nx),(56,.lsl 1 0 (k+1)),(57,vi ((k+1:Nat):Int)),(58,vi i)],[rA1 nm l,vRow c1 1 (k+1) (lF 0 N),cG (.lsl 1 0 (k+1)) (.vmap (cS L)),mRowB kI (lsM (o2)),cM1 (.mref 3),iRow M2 g2]⟩) N.length ⟨0,o+1,n,M,g,out,Nat.zero_le _,by rw [List.take_zero];rfl,by omega,by omega,fun a ha=>by
              rw [show o+1+a=o+(a+1) by omega,hg (a+1) (by omega)]
              unfold lF
              rw [List.getD_eq_getElem?_getD,List.getD_eq_getElem?_getD,List.getElem?_drop,List.getElem?_drop,show p+(a+1)=p+1+a by omega],rfl,rfl⟩ ?_
            rintro _ _ ⟨i,p2,k2,M2,g2,o2,hi,hs,hP2,hM2,hg2,rfl,rfl⟩
            have hw1:IntKind.i64.wrap ((i:Int)+1)=((i+1:Nat):Int):=w64 (by omega) (by omega)
            have hJ:InvN N o2:=hs ▸ InvN.fold (N.take i) out hI (fun x hx=>List.mem_of_mem_take hx)
            have hJl2:=hJ.len
            have hQ2:(o2.drop (p+1)).length=k2:=by rw [List.length_drop];omega
            repeat' (first|refine gg ?_|exact trivial|with_reducible refine wA ?_ ?_|refine Y2.mk ?_ ?_|refine gh ?_|exact qq|fail)
            refine pcond rfl ?_ ?_<;>intro hc2
            · have hc2:i < k+1:=by have:=of_decide_eq_true hc2;omega
              have hT:N.take (i+1)=N.take i ++ [lF 0 N i]:=by
                unfold lF
                rw [List.take_add_one,List.getD_eq_getElem?_getD,List.getElem?_eq_getElem (by omega)];rfl
              have hxN:lF 0 N i ∈ N:=by rw [lF_get' (by omega)];exact List.getElem_mem (by omega)
              have hS:dnIn L nx out (N.take (i+1))=dnStep L nx o2 (lF 0 N i):=by rw [hT,dnIn_snoc,← hs]
              have cn:=contains_c (sget L (lF 0 N i)) nx (Nat.le_trans (sget_len (N:=N) hLb _) (by decide))
              have hz:0+((i:Nat):Int).toNat=i:=by omega
              repeat' (first|refine gg ?_|exact trivial|with_reducible refine wA ?_ ?_|refine Y2.mk ?_ ?_|refine gh ?_|exact qq|fail)
              rw [hz]
              refine pop_lookB mapIBd false (lF 0 N i) rfl rfl rfl rfl rfl rfl rfl ?_
              rw [show (bif false then PV.tup 2 (nthP [.val (bV ((mget (lsM o2) (lF 0 N i)).getD 0)),vb (mget (lsM o2) (lF 0 N i)).isSome]) else .val (bV ((mget (lsM o2) (lF 0 N i)).getD 0)))=vb (decide (lF 0 N i ∈ o2)) from lsM_b o2 (lF 0 N i)]
              by_cases hin:lF 0 N i ∈ o2
              · have hS2:dnStep L nx o2 (lF 0 N i)=o2:=by unfold dnStep;rw [if_neg (fun hh=>hh.1 hin)]
                rw [decide_eq_true hin]
                repeat' (first|refine gg ?_|exact trivial|with_reducible refine wA ?_ ?_|refine Y2.mk ?_ ?_|(refine pop_gfalse rfl rfl rfl rfl ?_)|exact (fun hh=>by cases hh)|refine gh ?_|exact qq|fail)
                rw [hw1]
                exact kloop_next (st':=⟨[(7,.ptr 2 0 0),(9,.ptr 4 0 0),(10,.lsl 5 (p2) (k2)),(13,vi nx),(56,.lsl 1 0 (k+1)),(57,vi ((k+1:Nat):Int)),(58,vi ((i+1:Nat):Int))],[rA1 nm l,vRow c1 1 (k+1) (lF 0 N),cG (.lsl 1 0 (k+1)) (.vmap (cS L)),mRowB kI (lsM (o2)),cM1 (.mref 3),iRow (M2) g2]⟩) (N.length - (i+1)) (can_rowsv [0,1,2,3,4,5] (k0_sel hk rfl) rfl (.cons rfl (RowEq.cl (rA1_cl _ _)) (.cons rfl (RowEq.cl (v_cl c1_cl _ _ _)) (.cons rfl (cG_eq (PEq.refl _) (PEq.refl _)) (.cons rfl m_eqB (.cons rfl (cM1_eq (PEq.refl _)) (.cons rfl (RowEq.cl (i_cl _ _)) .nil)))))) tmq) (by omega) ⟨i+1,p2,k2,M2,g2,o2,by omega,by rw [hS,hS2],hP2,hM2,hg2,rfl,rfl⟩
              · rw [decide_eq_false hin]
                by_cases hx:nx ∈ sget L (lF 0 N i)
                · rw [decide_eq_true hx] at cn
                  have hS2:dnStep L nx o2 (lF 0 N i)=o2 ++ [lF 0 N i]:=by unfold dnStep;rw [if_pos ⟨hin,hx⟩]
                  repeat' (first|refine gg ?_|exact trivial|with_reducible refine wA ?_ ?_|refine Y2.mk ?_ ?_|refine gh ?_|exact qq|fail)
                  refine pop_opt 68 rfl rfl ?_
                  refine pop_opt 69 rfl rfl ?_
                  refine pop_unguard rfl rfl ?_
                  refine pop_lookvS mapIS (lF 0 N i) rfl rfl rfl rfl rfl rfl ?_
                  repeat' (first|refine gg ?_|exact trivial|with_reducible refine wA ?_ ?_|refine Y2.mk ?_ ?_|(refine pop_unguard rfl rfl ?_)|refine gh ?_|exact qq|fail)
                  refine pop_opt 71 rfl rfl ?_
                  repeat' (first|refine gg ?_|exact trivial|with_reducible refine wA ?_ ?_|refine Y2.mk ?_ ?_|refine zz cn ?_|refine gh ?_|exact qq|fail)
                  refine pop_msetB (l:=3) mapIBd (lF 0 N i) 1 rfl rfl rfl rfl rfl rfl rfl (by rw [hk];exact Nat.zero_le _) rfl rfl ?_
                  rw [lsM_set hin]
                  have hkb:k2≤1000000:=by omega
                  repeat' (first|refine gg ?_|exact trivial|with_reducible refine wA ?_ ?_|refine Y2.mk ?_ ?_|exact ⟨Nat.le_refl _,(by rw [hk];exact Nat.le_of_ble_eq_true rfl),hM2,(show (_:Nat) * 8≤140737488355328 from by omega),(show (_:Nat)≤9223372036854775807 from by omega)⟩|refine gh ?_|exact qq|fail)
                  rw [hw1]
                  exact kloop_next (st':=⟨[(7,.ptr 2 0 0),(9,.ptr 4 0 0),(10,.lsl 5 (0) (k2+1)),(13,vi nx),(56,.lsl 1 0 (k+1)),(57,vi ((k+1:Nat):Int)),(58,vi ((i+1:Nat):Int))],[rA1 nm l,vRow c1 1 (k+1) (lF 0 N),cG (.lsl 1 0 (k+1)) (.vmap (cS L)),mRowB kI (lsM (o2 ++ [lF 0 N i])),cM1 (.mref 3),iRow (k2+1) (lF 0 (o2.drop (p+1) ++ [lF 0 N i]))]⟩) (N.length - (i+1)) (can_rowsv [0,1,2,3,4,7] (k0_sel hk rfl) rfl (.cons rfl (RowEq.cl (rA1_cl _ _)) (.cons rfl (RowEq.cl (v_cl c1_cl _ _ _)) (.cons rfl (cG_eq (PEq.refl _) (PEq.refl _)) (.cons rfl m_eqB (.cons rfl (cM1_eq (PEq.refl _)) (.cons rfl (app_q hQ2 hg2) .nil)))))) tmq) (by omega) ⟨i+1,0,k2+1,k2+1,lF 0 (o2.drop (p+1) ++ [lF 0 N i]),o2 ++ [lF 0 N i],by omega,by rw [hS,hS2],by rw [List.length_append,hP2];rfl,by omega,fun a ha=>by rw [Nat.zero_add,List.drop_append_of_le_length (by omega)],rfl,rfl⟩
                · rw [decide_eq_false hx] at cn
                  have hS2:dnStep L nx o2 (lF 0 N i)=o2:=by unfold dnStep;rw [if_neg (fun hh=>hx hh.2)]
                  repeat' (first|refine gg ?_|exact trivial|with_reducible refine wA ?_ ?_|refine Y2.mk ?_ ?_|refine gh ?_|exact qq|fail)
                  refine pop_opt 68 rfl rfl ?_
                  refine pop_opt 69 rfl rfl ?_
                  refine pop_unguard rfl rfl ?_
                  refine pop_lookvS mapIS (lF 0 N i) rfl rfl rfl rfl rfl rfl ?_
                  repeat' (first|refine gg ?_|exact trivial|with_reducible refine wA ?_ ?_|refine Y2.mk ?_ ?_|(refine pop_unguard rfl rfl ?_)|refine gh ?_|exact qq|fail)
                  refine pop_opt 71 rfl rfl ?_
                  repeat' (first|refine gg ?_|exact trivial|with_reducible refine wA ?_ ?_|refine Y2.mk ?_ ?_|refine zz cn ?_|refine gh ?_|exact qq|fail)
                  rw [hw1]
                  exact kloop_next (st':=⟨[(7,.ptr 2 0 0),(9,.ptr 4 0 0),(10,.lsl 5 (p2) (k2)),(13,vi nx),(56,.lsl 1 0 (k+1)),(57,vi ((k+1:Nat):Int)),(58,vi ((i+1:Nat):Int))],[rA1 nm l,vRow c1 1 (k+1) (lF 0 N),cG (.lsl 1 0 (k+1)) (.vmap (cS L)),mRowB kI (lsM (o2)),cM1 (.mref 3),iRow (M2) g2]⟩) (N.length - (i+1)) (can_rowsv [0,1,2,3,4,5] (k0_sel hk rfl) rfl (.cons rfl (RowEq.cl (rA1_cl _ _)) (.cons rfl (RowEq.cl (v_cl c1_cl _ _ _)) (.cons rfl (cG_eq (PEq.refl _) (PEq.refl _)) (.cons rfl m_eqB (.cons rfl (cM1_eq (PEq.refl _)) (.cons rfl (RowEq.cl (i_cl _ _)) .nil)))))) tmq) (by omega) ⟨i+1,p2,k2,M2,g2,o2,by omega,by rw [hS,hS2],hP2,hM2,hg2,rfl,rfl⟩
            · have hil:i=k+1:=by have:=of_decide_eq_false hc2;omega
              subst hil
              rw [show N.take (k+1)=N from by rw [← hk2];exact List.take_length] at hs
              have hJl:=hJ.len
              repeat' (first|refine gg ?_|exact trivial|with_reducible refine wA ?_ ?_|refine Y2.mk ?_ ?_|refine gh ?_|exact qq|fail)
              exact kloop_next (st':=⟨[(7,.ptr 2 0 0),(9,.ptr 4 0 0),(10,.lsl 5 p2 k2)],[rA1 nm l,vRow c1 1 (k+1) (lF 0 N),cG (.lsl 1 0 (k+1)) (.vmap (cS L)),mRowB kI (lsM (o2)),cM1 (.mref 3),iRow M2 g2]⟩) (N.length - (p+1)) (can_rowsv [0,1,2,3,4,5] (k0_sel hk rfl) rfl (.cons rfl (RowEq.cl (rA1_cl _ _)) (.cons rfl (RowEq.cl (v_cl c1_cl _ _ _)) (.cons rfl (cG_eq (PEq.refl _) (PEq.refl _)) (.cons rfl m_eqB (.cons rfl (cM1_eq (PEq.refl _)) (.cons rfl (RowEq.cl (i_cl _ _)) .nil)))))) tmq) (by omega) ⟨p+1,p2,M2,k2,g2,o2,hJ,by omega,by
                rw [hD,show N.length+1 - p=N.length+1 - (p+1)+1 by omega,dnF,if_pos (by omega),hnx,← hs],by omega,hM2,hg2,rfl,rfl⟩
          · have hn0:n=0:=by have:=of_decide_eq_false hc;omega
            subst hn0
            have hfin:dnS l day s=out:=by
              rw [hD]
              cases hf:N.length+1 - p with
              | zero=>rfl
              | succ f=>rw [dnF,if_neg (by omega)]
            repeat' (first|refine gg ?_|exact trivial|with_reducible refine wA ?_ ?_|refine Y2.mk ?_ ?_|refine gh ?_|exact qq|fail)
            refine ocan0 (st':=⟨[(82,.lsl 0 0 (k+1)),(83,.clo 58 1 (nthP [cLis (out)]))],[iRow (k+1) (lF 0 N)]⟩) (((can_vmap (one:=false) (n:=0) (f:=fun _ _=>.val (mVB kI (lsM (out)))) 3 (by rw [hk];exact Nat.zero_le _) rfl trivial (tm:=[(82,.lsl 1 0 (k+1)),(83,.clo 58 1 (nthP [.ptr 4 0 0]))]) (rows:=[rA1 nm l,vRow c1 1 (k+1) (lF 0 N),cG (.lsl 1 0 (k+1)) (.vmap (cS L)),deadR,cM1 (.vmap (.val (mVB kI (lsM (out))))),iRow M g]) (by exact ⟨VM.refl,VM.refl,trivial⟩) (by exact ⟨.inl rfl,.inl rfl,.inl rfl,.inl rfl,.inr ⟨trivial,rfl,rfl,rfl,vm1⟩,.inl rfl,trivial⟩)).trans (can_frz [4] (by intro l hl;rw [hk];exact Nat.zero_le _) rfl (tm:=[(82,.lsl 1 0 (k+1)),(83,.clo 58 1 (nthP [cLis (out)]))]) (by exact ⟨.inl rfl,.inr (argClo1 (argPtr (r:=cM1 (.vmap (.val (mVB kI (lsM (out)))))) rfl trivial (List.Mem.head _) (Nat.le_refl _) rfl (fun a ha b hb=>argCl trivial))),trivial⟩))).trans (can_rowsv [1] (k0_sel hk rfl) rfl (.cons rfl vi_row .nil) (by exact ⟨PEq.refl _,PEq.cl _ (reached_p (out)).cl,trivial⟩))) ?_
            refine pop_rowsc [0] rfl rfl rfl rfl rfl rfl (.cons rfl trivial (RowEq.cl (i_cl _ _)) .nil) (deleteFunc1_r (k+1) N hk2 _ _ _ (reached_p (out)) (by omega)) (by exact ⟨PEq.refl _,PEq.cl _ (reached_p (out)).cl,trivial⟩) ?_
            rintro r rows ⟨rfl,rfl⟩
            refine ⟨_,_,rfl,⟨i_cl _ _,trivial⟩,rfl,?_⟩
            repeat' (first|refine gg ?_|exact trivial|with_reducible refine wA ?_ ?_|refine Y2.mk ?_ ?_|refine gh ?_|exact qq|fail)
            refine xdone ?_
            rw [not_not_dec]
            generalize hM:(N.filter fun x=>decide (x ∈ (out)))=M
            refine kret [0] rfl ⟨trivial,trivial⟩ (qs:=[sV M]) ⟨argLsl (r:=iRow M.length (lF 0 M)) rfl trivial (List.Mem.head _) (by show 0+M.length≤M.length;omega) (fun a ha b hb=>⟨by rw [Nat.zero_add];rfl,trivial⟩),trivial⟩ ?_
            rw [← hM,hX,hfin];rfl
  · have cg:=newGraph_c1 nm l day h (by omega) he
    refine pure_of (G:=G.toPg) (fn:=Tryz.f34) Tryz.func34 rfl rfl rfl ?_;intro Γ hk
    repeat' (first|refine gg ?_|exact trivial|with_reducible refine wA ?_ ?_|refine Y2.mk ?_ ?_|(refine pop_callc [] rfl rfl rfl rfl rfl rfl (fun _ h=>by cases h) (cg) (args_cl _ rfl) ?_;rintro _ rfl)|refine gh ?_|exact qq|fail)
    refine pcond (b:=true) (eqB (by simpa using he)) ?_ ?_<;>intro h1
    · repeat' (first|refine gg ?_|exact trivial|with_reducible refine wA ?_ ?_|refine Y2.mk ?_ ?_|refine gh ?_|exact qq|fail)
      refine kret [] rfl ⟨trivial,trivial⟩ (qs:=[.vsl 0 1 (tI (lF 0 []))]) ⟨argNil,trivial⟩ ?_
      unfold DwnS;rw [if_pos he];rfl
    · cases h1
end Go.Proofs.YtcefhgomkehokaaGreat
namespace Go.Proofs.YtcefhgomkehokaaGreat
theorem ment_eq {l:List Df} {A:List Int} (hin:∀ x,x ∈ A→0≤x∧x < l.length) {e:Ex} {s:ByteArray} (h:(refsE e).all (fun r=>(meanI l A r).isSome)=true):(refsE e).any (mentR l A s)=mentS e s:=by
  unfold mentS
  have key:∀ L:List Ex,L.all (fun r=>(meanI l A r).isSome)=true→L.any (mentR l A s)=L.any (mentB s):=by
    intro L
    induction L with
    | nil=>intro _;rfl
    | cons r L ih =>
      intro h
      rw [List.all_cons,Bool.and_eq_true] at h
      rw [List.any_cons,List.any_cons,ih h.2]
      congr 1
      unfold mentR mentB
      obtain ⟨j,hj⟩:=Option.isSome_iff_exists.1 h.1
      have hg:=meanI_ge hin hj
      have:decide (0≤mnE l A r)=true:=decide_eq_true (by unfold mnE;rw [hj];exact hg)
      rw [this,Bool.and_true]
  exact key _ h
theorem dnIn_take {L:List (Int×List Int)} {nx:Int} {F N:List Int} {q:Nat} (hq:q < N.length):dnIn L nx F (N.take (q+1))=dnStep L nx (dnIn L nx F (N.take q)) (lF 0 N q):=by
  rw [List.take_succ_eq_append_getElem hq,dnIn_snoc,lF_get' hq]
theorem dnF_end {N:List Int} {L:List (Int×List Int)} {f p:Nat} {F:List Int} (h:F.length≤p):dnF N L f p F=F:=by
  cases f with
  | zero=>rfl
  | succ f=>rw [dnF,if_neg (by omega)]
theorem dnF_on {N:List Int} {L:List (Int×List Int)} {f p:Nat} {F:List Int} (h:p < F.length):dnF N L (f+1) p F=dnF N L f (p+1) (dnIn L (lF 0 F p) F N):=by rw [dnF,if_pos h]
set_option maxHeartbeats 16000000 in
theorem Downstream21_c (nm:ByteArray) (l:List Df) (day:Int) (s:ByteArray) (h:AgO nm l) (hl:l.length≤900000):PureC G.P 35 [vA nm l,vi day,vs s] (fun r=>r=sV (DwnS nm l day s)):=by
  have cO:=Order21_c nm l day h hl
  have cA:=Active21_c nm l day h (by omega)
  by_cases hg:gErr nm l day=0
  · have hck:=gErr_chk' hg
    have ha:=chk_valid hck
    have hAS:ActS nm l day=actL l day:=by unfold ActS;rw [if_pos hck]
    have hO2:(OrdS nm l day).2=0∨(OrdS nm l day).2=11:=by unfold OrdS;rw [if_neg (fun hh=>hh hg)];exact ord_err _ _
    have hD:DwnS nm l day s=(nodS l day).filter fun x=>decide (x ∈ dnF (nodS l day) (mapL l (actL l day) (nodS l day)) ((nodS l day).length+1) 0 (dn0 l s (nodS l day))):=by unfold DwnS;rw [if_neg (fun hh=>hh hg)];rfl
    have hgA:(nodS l day).all (fun x=>decide ((needS l (actL l day) x.toNat).2=0))=true:=by
      unfold gErr at hg
      rw [if_neg (fun hh=>hh hck)] at hg
      by_cases hx:(nodL l (actL l day)).all (fun x=>decide ((needS l (actL l day) x.toNat).2=0))=true
      · exact hx
      · rw [if_neg hx] at hg;exact absurd hg (by decide)
    rw [hD]
    have hAl:=actL_len l day
    have hin:=actL_in (l:=l) (day:=day)
    have hNl:(nodS l day).length≤l.length:=nodS_len l day
    have hNnd:=nodS_nd l day
    have hNm:∀ x,x ∈ nodS l day→x ∈ actL l day∧comp (lF dD l x.toNat)=true:=fun x hx=>List.mem_filter.1 hx
    have cR:=routines21_c nm l (actL l day) (by omega) (by omega) hin
    have cR:PureC G.P 52 [vA nm l,sV (actL l day)] (fun r=>r=sV (nodS l day)):=cR
    rw [hAS] at cA
    generalize (OrdS nm l day).1=Oo at cO
    generalize (OrdS nm l day).2=Oe at cO hO2
    clear hD
    generalize nodS l day=N at *
    generalize actL l day=A at *
    obtain ⟨W,hW⟩:∃ W,W=Wof l A N:=⟨_,rfl⟩
    have hNx:∀ a,a < N.length→lF 0 N a ∈ A∧comp (lF dD l (lF 0 N a).toNat)=true∧0≤lF 0 N a∧lF 0 N a < l.length:=fun a ha2=>by
      have h1:=hNm (lF 0 N a) (by rw [lF_get' ha2];exact List.getElem_mem ha2)
      exact ⟨h1.1,h1.2,hin _ h1.1⟩
    have hal:∀ a,a < N.length→(refsE (lF dD l (lF 0 N a).toNat).body).all (fun e=>(meanI l A e).isSome)=true:=fun a ha2=>by
      have h1:=of_decide_eq_true (List.all_eq_true.1 hgA (lF 0 N a) (by rw [lF_get' ha2];exact List.getElem_mem ha2))
      cases hx:(refsE (lF dD l (lF 0 N a).toNat).body).all (fun e=>(meanI l A e).isSome) with
      | true=>rfl
      | false=>rw [needS_no hx] at h1;exact absurd h1 (by decide)
    have hsg:∀ a,a < N.length→sget (mapL l A N) (lF 0 N a)=W a:=fun a ha2=>by
      rw [sget_mapL (by rw [lF_get' ha2];exact List.getElem_mem ha2),needS_ok (hal a ha2),hW]
    have hWl:∀ a,(W a).length≤1000000:=fun a=>by
      rw [hW]
      have h1:(needL l A (refsE (lF dD l (lF 0 N a).toNat).body)).length≤A.length:=needL_len
      show (needL l A (refsE (lF dD l (lF 0 N a).toNat).body)).length≤_
      omega
    refine pure_of (G:=G.toPg) (fn:=Tryz.f35) Tryz.func35 rfl rfl rfl ?_;intro Γ hk
    repeat' (first|refine gg ?_|exact trivial|with_reducible refine wA ?_ ?_|refine Y2.mk ?_ ?_|(refine pop_callc [] rfl rfl rfl rfl rfl rfl (fun _ h=>by cases h) (cO) (args_cl _ rfl) ?_;rintro _ rfl)|refine gh ?_|exact qq|fail)
    refine pcond (b:=false) ?_ ?_ ?_
    · refine eqB ?_
      rcases hO2 with rfl|rfl<;>rfl
    · intro h5;cases h5
    · intro h5
      obtain ⟨p,hp⟩:∃ p:Int→Bool,p=fun x=>mentS (lF dD l x.toNat).body s:=⟨_,rfl⟩
      repeat' (first|refine gg ?_|exact trivial|with_reducible refine wA ?_ ?_|refine Y2.mk ?_ ?_|(refine pop_callc [] rfl rfl rfl rfl rfl rfl (fun _ h=>by cases h) (cA) (args_cl _ rfl) ?_;rintro _ rfl)|(refine pop_callc [] rfl rfl rfl rfl rfl rfl (fun _ h=>by cases h) (cR) (args_cl _ rfl) ?_;rintro _ rfl)|refine gh ?_|exact qq|fail)
      refine pcan (can_virt (vRow c1 1 0 (lF 0 [])) rfl) ?_
      refine pcan (st':=⟨[(2,vs s),(3,.ptr 0 0 0),(9,sV A),(10,sV N),(11,slP 0 1),(12,vi ((0:Nat):Int))],[rA1 nm l,vRow c1 1 0 (lF 0 ((N.take 0).filter p))]⟩) (can_rowsv [0,1] (k0_sel hk rfl) rfl (.cons rfl (RowEq.cl (rA1_cl _ _)) (.cons rfl (RowEq.cl (v_cl c1_cl _ _ _)) .nil)) tmq) ?_
      refine ploop (fun z st=>∃ q k:Nat,q≤N.length∧((N.take q).filter p).length=k∧z=N.length - q∧st=⟨[(2,vs s),(3,.ptr 0 0 0),(9,sV A),(10,sV N),(11,slP k 1),(12,vi q)],[rA1 nm l,vRow c1 1 k (lF 0 ((N.take q).filter p))]⟩) N.length ⟨0,0,by omega,rfl,by omega,rfl⟩ ?_
      rintro _ _ ⟨q,k,hq,hk2,rfl,rfl⟩
      have hw1:IntKind.i64.wrap ((q:Int)+1)=((q+1:Nat):Int):=w64 (by omega) (by omega)
      have hkl:=filter_take_len (p:=p) (L:=N) (q:=q)
      repeat' (first|refine gg ?_|exact trivial|with_reducible refine wA ?_ ?_|refine Y2.mk ?_ ?_|refine gh ?_|exact qq|fail)
      refine pcond rfl ?_ ?_<;>intro hc
      · have hc:q < N.length:=by have:=of_decide_eq_true hc;omega
        obtain ⟨x1,x2,x3⟩:=hNx q hc
        have cm:=mentions21_c nm l A (by omega) (by omega) hin s 32 (lF dD l (lF 0 N q).toNat).body (h.body ha (by omega) x2).1
        have hf:=filter_take (p:=p) hc
        repeat' (first|refine gg ?_|exact trivial|with_reducible refine wA ?_ ?_|refine Y2.mk ?_ ?_|refine xs_start (id:=10) true [.take 0,.take 1,.take 2,.take 3,.take 4,.take 5,.take 6,.take 7,.take 8,.take 9,.take 10,.take 11,.one 12] 0 rfl rfl (by kernel_rfl) ?_|refine xs_start (id:=18) true [.take 0,.take 1,.take 2,.take 3,.take 4,.take 5,.one 6,.take 7,.take 8,.take 9,.take 10,.take 11] 0 rfl rfl (by kernel_rfl) ?_|exact x3|(exact (show (lF 0 N q).toNat < l.length by omega))|refine zz cm ?_|refine gh ?_|exact qq|fail)
        refine pcond (b:=p (lF 0 N q)) ?_ ?_ ?_
        · refine eqB ?_
          rw [hp]
          exact ment_eq hin (hal q hc)
        · intro h1
          rw [if_pos h1] at hf
          rcases k with _|k
          · repeat' (first|refine gg ?_|exact trivial|with_reducible refine wA ?_ ?_|refine Y2.mk ?_ ?_|exact ⟨Nat.le_refl _,(by rw [hk];exact Nat.le_of_ble_eq_true rfl),Nat.le_of_eq (Nat.zero_add _),(show (_:Nat) * 8≤140737488355328 from by omega),(show (_:Nat)≤9223372036854775807 from by omega)⟩|(exact (show (_:Nat) < _ by omega))|refine gh ?_|exact qq|fail)
            refine xdone ?_
            rw [hw1]
            exact kloop_next (st':=⟨[(2,vs s),(3,.ptr 0 0 0),(9,sV A),(10,sV N),(11,slP (0+1) 1),(12,vi ((q+1:Nat):Int))],[rA1 nm l,vRow c1 1 (0+1) (lF 0 ((N.take q).filter p ++ [lF 0 N q]))]⟩) (N.length - (q+1)) (can_rowsv [0,3] (k0_sel hk rfl) rfl (.cons rfl (RowEq.cl (rA1_cl _ _)) (.cons rfl (app_l0 c1_cl hk2 rfl) .nil)) tmq) (by omega) ⟨q+1,0+1,by omega,by rw [hf,List.length_append,hk2];rfl,rfl,by rw [hf]⟩
          · repeat' (first|refine gg ?_|exact trivial|with_reducible refine wA ?_ ?_|refine Y2.mk ?_ ?_|exact ⟨Nat.le_refl _,(by rw [hk];exact Nat.le_of_ble_eq_true rfl),Nat.le_of_eq (Nat.zero_add _),(show (_:Nat) * 8≤140737488355328 from by omega),(show (_:Nat)≤9223372036854775807 from by omega)⟩|(exact (show (_:Nat) < _ by omega))|refine gh ?_|exact qq|fail)
            refine xdone ?_
            rw [hw1]
            exact kloop_next (st':=⟨[(2,vs s),(3,.ptr 0 0 0),(9,sV A),(10,sV N),(11,slP (k+1+1) 1),(12,vi ((q+1:Nat):Int))],[rA1 nm l,vRow c1 1 (k+1+1) (lF 0 ((N.take q).filter p ++ [lF 0 N q]))]⟩) (N.length - (q+1)) (can_rowsv [0,3] (k0_sel hk rfl) rfl (.cons rfl (RowEq.cl (rA1_cl _ _)) (.cons rfl (app_l c1_cl hk2 rfl rfl) .nil)) tmq) (by omega) ⟨q+1,k+1+1,by omega,by rw [hf,List.length_append,hk2];rfl,rfl,by rw [hf]⟩
        · intro h1
          rw [if_neg (by rw [h1];decide),List.append_nil] at hf
          repeat' (first|refine gg ?_|exact trivial|with_reducible refine wA ?_ ?_|refine Y2.mk ?_ ?_|refine gh ?_|exact qq|fail)
          refine xdone ?_
          rw [hw1]
          exact kloop_next (st':=⟨[(2,vs s),(3,.ptr 0 0 0),(9,sV A),(10,sV N),(11,slP k 1),(12,vi ((q+1:Nat):Int))],[rA1 nm l,vRow c1 1 k (lF 0 ((N.take q).filter p))]⟩) (N.length - (q+1)) (can_rowsv [0,1] (k0_sel hk rfl) rfl (.cons rfl (RowEq.cl (rA1_cl _ _)) (.cons rfl (RowEq.cl (v_cl c1_cl _ _ _)) .nil)) (by exact ⟨PEq.refl _,PEq.refl _,PEq.refl _,PEq.refl _,peq_slP rfl,PEq.refl _,trivial⟩)) (by omega) ⟨q+1,k,by omega,by rw [hf];exact hk2,rfl,by rw [hf]⟩
      · have hql:q=N.length:=by have:=of_decide_eq_false hc;omega
        subst hql
        have hF0:(N.take N.length).filter p=dn0 l s N:=by rw [List.take_length,hp];rfl
        have hI0:InvN N (dn0 l s N):=⟨hNnd.filter _,fun x hx=>(List.mem_filter.1 hx).1⟩
        rw [hF0] at hk2
        rw [hF0]
        generalize dn0 l s N=F0 at *
        repeat' (first|refine gg ?_|exact trivial|with_reducible refine wA ?_ ?_|refine Y2.mk ?_ ?_|refine gh ?_|exact qq|fail)
        refine pcan (st':=⟨[(3,.ptr 0 0 0),(9,sV A),(10,sV N),(11,slP k 1),(13,vi ((0:Nat):Int))],[rA1 nm l,vRow c1 1 k (lF 0 F0)]⟩) (can_rowsv [0,1] (k0_sel hk rfl) rfl (.cons rfl (RowEq.cl (rA1_cl _ _)) (.cons rfl (RowEq.cl (v_cl c1_cl _ _ _)) .nil)) (by exact ⟨PEq.refl _,PEq.refl _,PEq.refl _,peq_slP rfl,PEq.refl _,trivial⟩)) ?_
        refine pcutx (fun st=>∃ (k:Nat) (F:List Int),F.length=k∧InvN N F∧dnF N (mapL l A N) (N.length+1) 0 F0=F∧st=⟨[(10,sV N),(11,slP k 0)],[vRow c1 1 k (lF 0 F)]⟩) ?_ ?_
        · refine ploop (fun z st=>∃ (p k f:Nat) (F:List Int),F.length=k∧InvN N F∧p+f=N.length+1∧dnF N (mapL l A N) (N.length+1) 0 F0=dnF N (mapL l A N) f p F∧z=f∧st=⟨[(3,.ptr 0 0 0),(9,sV A),(10,sV N),(11,slP k 1),(13,vi p)],[rA1 nm l,vRow c1 1 k (lF 0 F)]⟩) (N.length+1) ⟨0,k,N.length+1,F0,hk2,hI0,Nat.zero_add _,rfl,rfl,rfl⟩ ?_
          clear hk2
          rintro z _ ⟨p,k,f,F,hFk,hI,hpf,hdn,hz,rfl⟩
          have hz:=hz.symm
          subst hz
          have hFl:=hI.len
          rcases k with _|k
          · repeat' (first|refine gg ?_|exact trivial|with_reducible refine wA ?_ ?_|refine Y2.mk ?_ ?_|refine gh ?_|exact qq|fail)
            refine kblock_hit rfl ?_
            exact kcut (st':=⟨[(10,sV N),(11,slP 0 0)],[vRow c1 1 0 (lF 0 F)]⟩) (can_rowsv [1] (k0_sel hk rfl) rfl (.cons rfl (RowEq.cl (v_cl c1_cl _ _ _)) .nil) tmq) ⟨0,F,hFk,hI,by rw [hdn];exact dnF_end (by omega),rfl⟩
          · have hwp:IntKind.i64.wrap ((p:Int)+1)=((p+1:Nat):Int):=w64 (by omega) (by omega)
            repeat' (first|refine gg ?_|exact trivial|with_reducible refine wA ?_ ?_|refine Y2.mk ?_ ?_|refine gh ?_|exact qq|fail)
            refine pcond rfl ?_ ?_<;>intro hc
            · have hc:p < F.length:=by have:(p:Int) < ((k+1:Nat):Int):=of_decide_eq_true hc;omega
              obtain ⟨f,rfl⟩:∃ f',f=f'+1:=⟨f - 1,by omega⟩
              rw [dnF_on hc] at hdn
              repeat' (first|refine gg ?_|exact trivial|with_reducible refine wA ?_ ?_|refine Y2.mk ?_ ?_|refine gh ?_|exact qq|fail)
              refine pcan (st':=⟨[(3,.ptr 0 0 0),(9,sV A),(10,sV N),(11,slP (k+1) 1),(13,vi p),(14,vi ((0:Nat):Int))],[rA1 nm l,vRow c1 1 (k+1) (lF 0 F)]⟩) (can_rowsv [0,1] (k0_sel hk rfl) rfl (.cons rfl (RowEq.cl (rA1_cl _ _)) (.cons rfl (RowEq.cl (v_cl c1_cl _ _ _)) .nil)) tmq) ?_
              obtain ⟨nx,hnx⟩:∃ nx,lF 0 F p=nx:=⟨_,rfl⟩
              rw [hnx] at hdn
              refine ploop (fun z st=>∃ (q k2:Nat) (F2:List Int),q≤N.length∧F2=dnIn (mapL l A N) nx F (N.take q)∧F2.length=k2+1∧p < F2.length∧InvN N F2∧lF 0 F2 p=nx∧z=N.length - q∧st=⟨[(3,.ptr 0 0 0),(9,sV A),(10,sV N),(11,slP (k2+1) 1),(13,vi p),(14,vi q)],[rA1 nm l,vRow c1 1 (k2+1) (lF 0 F2)]⟩) N.length ⟨0,k,F,Nat.zero_le _,rfl,hFk,hc,hI,hnx,rfl,rfl⟩ ?_
              rintro _ _ ⟨q,k2,F2,hq,hF2,hF2k,hpF,hI2,hnx2,rfl,rfl⟩
              have hF2l:=hI2.len
              have hwq:IntKind.i64.wrap ((q:Int)+1)=((q+1:Nat):Int):=w64 (by omega) (by omega)
              repeat' (first|refine gg ?_|exact trivial|with_reducible refine wA ?_ ?_|refine Y2.mk ?_ ?_|refine gh ?_|exact qq|fail)
              refine pcond rfl ?_ ?_<;>intro hcq
              · have hcq:q < N.length:=by have:=of_decide_eq_true hcq;omega
                obtain ⟨x1,x2,x3⟩:=hNx q hcq
                have hxN:lF 0 N q ∈ N:=by rw [lF_get' hcq];exact List.getElem_mem hcq
                have cn:=needsI_c nm l A (lF 0 N q) x3 (by omega) (by omega) hin (h.body ha (by omega) x2)
                have ch:=has_c (W q) nx (hWl q)
                have ch2:=has_c F2 (lF 0 N q) (by omega)
                rw [show sV F2=.vsl (k2+1) 1 (tI (lF 0 F2)) from by show PV.vsl _ _ _=_;rw [hF2k]] at ch2
                have hz:0+(p:Int).toNat=p:=by omega
                have hst:=dnIn_take (L:=mapL l A N) (nx:=nx) (F:=F) hcq
                rw [← hF2] at hst
                unfold dnStep at hst
                rw [hsg q hcq] at hst
                have hWq:W q=needL l A (refsE (lF dD l (lF 0 N q).toNat).body):=by rw [hW]
                rw [← hWq] at cn
                repeat' (first|refine gg ?_|exact trivial|with_reducible refine wA ?_ ?_|refine Y2.mk ?_ ?_|refine xs_start (id:=10) true [.take 0,.take 1,.take 2,.take 3,.take 4,.take 5,.take 6,.take 7,.take 8,.take 9,.take 10,.take 11,.one 12] 0 rfl rfl (by kernel_rfl) ?_|refine xs_startH (id:=18) [0,1] true [.take 0,.take 1,.take 2,.take 3,.take 4,.take 5,.one 6,.take 7,.take 8,.take 9,.take 10,.take 11] 0 rfl (by kernel_rfl) ?_|(refine xs_one (ch:=[]) rfl rfl rfl (pst_rowsc [] rfl rfl rfl rfl rfl rfl .nil (pure_rows (cn)) (by exact ⟨PEq.cl _ (clB_spec _ rfl),PEq.cl _ (clB_spec _ rfl),PEq.cl _ (clB_spec _ rfl),trivial⟩) ?_);rintro r rows ⟨rfl,rfl⟩;refine ⟨_,_,rfl,trivial,rfl,?_⟩)|(exact (show 0+(p:Int).toNat < k2+1 by omega))|refine gh ?_|exact qq|fail)
                rw [hz,hnx2]
                by_cases hm:nx ∈ W q
                · rw [decide_eq_true hm] at ch
                  by_cases hm2:lF 0 N q ∈ F2
                  · rw [decide_eq_true hm2] at ch2
                    rw [if_neg (fun hh=>hh.1 hm2)] at hst
                    repeat' (first|refine gg ?_|exact trivial|with_reducible refine wA ?_ ?_|refine Y2.mk ?_ ?_|(intro hh;exact ⟨hh,by omega,by omega⟩)|refine zz ch ?_|refine gh ?_|exact qq|fail)
                    refine pop_opt 92 rfl rfl ?_
                    refine pop_opt 96 rfl rfl ?_
                    refine pop_unguard rfl rfl ?_
                    refine pop_call [1] rfl rfl rfl rfl rfl ch2 (by exact ⟨argTI (arg_v (n:=k2+1) (l:=1) c1_cl rfl (List.Mem.head _)),argVal,trivial⟩) ?_
                    rintro _ rfl
                    refine ⟨scB_spec _ rfl,?_⟩
                    repeat' (first|refine gg ?_|exact trivial|with_reducible refine wA ?_ ?_|refine Y2.mk ?_ ?_|refine gh ?_|exact qq|fail)
                    refine xdone ?_
                    rw [hwq]
                    exact kloop_next (st':=⟨[(3,.ptr 0 0 0),(9,sV A),(10,sV N),(11,slP (k2+1) 1),(13,vi p),(14,vi ((q+1:Nat):Int))],[rA1 nm l,vRow c1 1 (k2+1) (lF 0 F2)]⟩) (N.length - (q+1)) (can_rowsv [0,1] (k0_sel hk rfl) rfl (.cons rfl (RowEq.cl (rA1_cl _ _)) (.cons rfl (RowEq.cl (v_cl c1_cl _ _ _)) .nil)) tmq) (by omega) ⟨q+1,k2,F2,by omega,hst.symm,hF2k,hpF,hI2,hnx2,rfl,rfl⟩
                  · rw [decide_eq_false hm2] at ch2
                    rw [if_pos ⟨hm2,hm⟩] at hst
                    repeat' (first|refine gg ?_|exact trivial|with_reducible refine wA ?_ ?_|refine Y2.mk ?_ ?_|(intro hh;exact ⟨hh,by omega,by omega⟩)|refine zz ch ?_|refine gh ?_|exact qq|fail)
                    refine pop_opt 92 rfl rfl ?_
                    refine pop_opt 96 rfl rfl ?_
                    refine pop_unguard rfl rfl ?_
                    refine pop_call [1] rfl rfl rfl rfl rfl ch2 (by exact ⟨argTI (arg_v (n:=k2+1) (l:=1) c1_cl rfl (List.Mem.head _)),argVal,trivial⟩) ?_
                    rintro _ rfl
                    refine ⟨scB_spec _ rfl,?_⟩
                    repeat' (first|refine gg ?_|exact trivial|with_reducible refine wA ?_ ?_|refine Y2.mk ?_ ?_|exact ⟨Nat.le_refl _,(by rw [hk];exact Nat.le_of_ble_eq_true rfl),Nat.le_of_eq (Nat.zero_add _),(show (_:Nat) * 8≤140737488355328 from by omega),(show (_:Nat)≤9223372036854775807 from by omega)⟩|(exact (show (_:Nat) < _ by omega))|refine gh ?_|exact qq|fail)
                    refine xdone ?_
                    rw [hwq]
                    exact kloop_next (st':=⟨[(3,.ptr 0 0 0),(9,sV A),(10,sV N),(11,slP (k2+1+1) 1),(13,vi p),(14,vi ((q+1:Nat):Int))],[rA1 nm l,vRow c1 1 (k2+1+1) (lF 0 (F2 ++ [lF 0 N q]))]⟩) (N.length - (q+1)) (can_rowsv [0,3] (k0_sel hk rfl) rfl (.cons rfl (RowEq.cl (rA1_cl _ _)) (.cons rfl (app_l c1_cl hF2k rfl rfl) .nil)) tmq) (by omega) ⟨q+1,k2+1,_,by omega,hst.symm,by rw [List.length_append,hF2k];rfl,by rw [List.length_append];omega,hI2.snoc hxN hm2,by rw [lF_lt hpF];exact hnx2,rfl,rfl⟩
                · rw [decide_eq_false hm] at ch
                  rw [if_neg (fun hh=>hm hh.2)] at hst
                  repeat' (first|refine gg ?_|exact trivial|with_reducible refine wA ?_ ?_|refine Y2.mk ?_ ?_|(intro hh;exact absurd hh (by decide))|(refine pop_gfB rfl rfl rfl rfl ?_)|refine zz ch ?_|refine gh ?_|exact qq|fail)
                  refine xdone ?_
                  rw [hwq]
                  exact kloop_next (st':=⟨[(3,.ptr 0 0 0),(9,sV A),(10,sV N),(11,slP (k2+1) 1),(13,vi p),(14,vi ((q+1:Nat):Int))],[rA1 nm l,vRow c1 1 (k2+1) (lF 0 F2)]⟩) (N.length - (q+1)) (can_rowsv [0,1] (k0_sel hk rfl) rfl (.cons rfl (RowEq.cl (rA1_cl _ _)) (.cons rfl (RowEq.cl (v_cl c1_cl _ _ _)) .nil)) tmq) (by omega) ⟨q+1,k2,F2,by omega,hst.symm,hF2k,hpF,hI2,hnx2,rfl,rfl⟩
              · have hql:q=N.length:=by have:=of_decide_eq_false hcq;omega
                subst hql
                rw [List.take_length] at hF2
                repeat' (first|refine gg ?_|exact trivial|with_reducible refine wA ?_ ?_|refine Y2.mk ?_ ?_|refine gh ?_|exact qq|fail)
                refine xdone ?_
                rw [hwp]
                exact kloop_next (st':=⟨[(3,.ptr 0 0 0),(9,sV A),(10,sV N),(11,slP (k2+1) 1),(13,vi ((p+1:Nat):Int))],[rA1 nm l,vRow c1 1 (k2+1) (lF 0 F2)]⟩) f (can_rowsv [0,1] (k0_sel hk rfl) rfl (.cons rfl (RowEq.cl (rA1_cl _ _)) (.cons rfl (RowEq.cl (v_cl c1_cl _ _ _)) .nil)) tmq) (by omega) ⟨p+1,k2+1,f,F2,hF2k,hI2,by omega,by rw [hdn,hF2],rfl,rfl⟩
            · have hc:F.length≤p:=by have : ¬ (p:Int) < ((k+1:Nat):Int):=of_decide_eq_false hc;omega
              repeat' (first|refine gg ?_|exact trivial|with_reducible refine wA ?_ ?_|refine Y2.mk ?_ ?_|refine gh ?_|exact qq|fail)
              refine kblock_hit rfl ?_
              exact kcut (st':=⟨[(10,sV N),(11,slP (k+1) 0)],[vRow c1 1 (k+1) (lF 0 F)]⟩) (can_rowsv [1] (k0_sel hk rfl) rfl (.cons rfl (RowEq.cl (v_cl c1_cl _ _ _)) .nil) tmq) ⟨k+1,F,hFk,hI,by rw [hdn];exact dnF_end hc,rfl⟩
        · rintro _ ⟨k,F,hFk,hI,hdn,rfl⟩
          rw [hdn]
          have hFl:=hI.len
          have hFv:sV F=.vsl k 1 (tI (lF 0 F)):=by show PV.vsl _ _ _=_;rw [hFk]
          refine pcan (st':=⟨[(10,sV N),(11,sV F)],[]⟩) ?_ ?_
          · rw [hFv]
            rcases k with _|k
            · exact (can_frz [] (fun l hl=>by cases hl) rfl (tm:=[(10,sV N),(11,.vsl 0 1 (tI (lF 0 F)))]) (by exact ⟨.inl rfl,.inr argNil,trivial⟩)).trans (can_rowsv [] (rows:=[]) (tm:=[(10,sV N),(11,.vsl 0 1 (tI (lF 0 F)))]) (k0_sel hk rfl) rfl .nil tmq)
            · exact (can_frz [0] (fun l hl=>by rw [hk];exact Nat.zero_le _) rfl (tm:=[(10,sV N),(11,.vsl (k+1) 1 (tI (lF 0 F)))]) (by exact ⟨.inl rfl,.inr (argTI (arg_v (n:=k+1) (l:=0) c1_cl rfl (List.Mem.head _))),trivial⟩)).trans (can_rowsv [] (rows:=[]) (tm:=[(10,sV N),(11,.vsl (k+1) 1 (tI (lF 0 F)))]) (k0_sel hk rfl) rfl .nil tmq)
          clear hFv hFk
          obtain ⟨p2,hp2⟩:∃ p2:Int→Bool,p2=fun x=>decide (x ∈ F):=⟨_,rfl⟩
          rw [show (N.filter fun x=>decide (x ∈ F))=N.filter p2 by rw [hp2]]
          repeat' (first|refine gg ?_|exact trivial|with_reducible refine wA ?_ ?_|refine Y2.mk ?_ ?_|refine gh ?_|exact qq|fail)
          refine pcan (can_virt (vRow c1 1 0 (lF 0 [])) rfl) ?_
          refine pcan (st':=⟨[(10,sV N),(11,sV F),(17,slP 0 0),(18,vi ((0:Nat):Int))],[vRow c1 1 0 (lF 0 ((N.take 0).filter p2))]⟩) (can_rowsv [0] (k0_sel hk rfl) rfl (.cons rfl (RowEq.cl (v_cl c1_cl _ _ _)) .nil) tmq) ?_
          refine ploop (fun z st=>∃ q k:Nat,q≤N.length∧((N.take q).filter p2).length=k∧z=N.length - q∧st=⟨[(10,sV N),(11,sV F),(17,slP k 0),(18,vi q)],[vRow c1 1 k (lF 0 ((N.take q).filter p2))]⟩) N.length ⟨0,0,by omega,rfl,by omega,rfl⟩ ?_
          rintro _ _ ⟨q,k,hq,hk2,rfl,rfl⟩
          have hw1:IntKind.i64.wrap ((q:Int)+1)=((q+1:Nat):Int):=w64 (by omega) (by omega)
          have hkl:=filter_take_len (p:=p2) (L:=N) (q:=q)
          repeat' (first|refine gg ?_|exact trivial|with_reducible refine wA ?_ ?_|refine Y2.mk ?_ ?_|refine gh ?_|exact qq|fail)
          refine pcond rfl ?_ ?_<;>intro hc
          · have hc:q < N.length:=by have:=of_decide_eq_true hc;omega
            have ch:=has_c F (lF 0 N q) (by omega)
            have hf:=filter_take (p:=p2) hc
            repeat' (first|refine gg ?_|exact trivial|with_reducible refine wA ?_ ?_|refine Y2.mk ?_ ?_|refine zz ch ?_|refine gh ?_|exact qq|fail)
            refine pcond (b:=p2 (lF 0 N q)) ?_ ?_ ?_
            · refine eqB ?_
              rw [hp2]
            · intro h1
              rw [if_pos h1] at hf
              rcases k with _|k
              · repeat' (first|refine gg ?_|exact trivial|with_reducible refine wA ?_ ?_|refine Y2.mk ?_ ?_|exact ⟨Nat.le_refl _,(by rw [hk];exact Nat.le_of_ble_eq_true rfl),Nat.le_of_eq (Nat.zero_add _),(show (_:Nat) * 8≤140737488355328 from by omega),(show (_:Nat)≤9223372036854775807 from by omega)⟩|(exact (show (_:Nat) < _ by omega))|refine gh ?_|exact qq|fail)
                refine xdone ?_
                rw [hw1]
                exact kloop_next (st':=⟨[(10,sV N),(11,sV F),(17,slP (0+1) 0),(18,vi ((q+1:Nat):Int))],[vRow c1 1 (0+1) (lF 0 ((N.take q).filter p2 ++ [lF 0 N q]))]⟩) (N.length - (q+1)) (can_rowsv [2] (k0_sel hk rfl) rfl (.cons rfl (app_l0 c1_cl hk2 rfl) .nil) tmq) (by omega) ⟨q+1,0+1,by omega,by rw [hf,List.length_append,hk2];rfl,rfl,by rw [hf]⟩
              · repeat' (first|refine gg ?_|exact trivial|with_reducible refine wA ?_ ?_|refine Y2.mk ?_ ?_|exact ⟨Nat.le_refl _,(by rw [hk];exact Nat.le_of_ble_eq_true rfl),Nat.le_of_eq (Nat.zero_add _),(show (_:Nat) * 8≤140737488355328 from by omega),(show (_:Nat)≤9223372036854775807 from by omega)⟩|(exact (show (_:Nat) < _ by omega))|refine gh ?_|exact qq|fail)
                refine xdone ?_
                rw [hw1]
                exact kloop_next (st':=⟨[(10,sV N),(11,sV F),(17,slP (k+1+1) 0),(18,vi ((q+1:Nat):Int))],[vRow c1 1 (k+1+1) (lF 0 ((N.take q).filter p2 ++ [lF 0 N q]))]⟩) (N.length - (q+1)) (can_rowsv [2] (k0_sel hk rfl) rfl (.cons rfl (app_l c1_cl hk2 rfl rfl) .nil) tmq) (by omega) ⟨q+1,k+1+1,by omega,by rw [hf,List.length_append,hk2];rfl,rfl,by rw [hf]⟩
            · intro h1
              rw [if_neg (by rw [h1];decide),List.append_nil] at hf
              repeat' (first|refine gg ?_|exact trivial|with_reducible refine wA ?_ ?_|refine Y2.mk ?_ ?_|refine gh ?_|exact qq|fail)
              refine xdone ?_
              rw [hw1]
              exact kloop_next (st':=⟨[(10,sV N),(11,sV F),(17,slP k 0),(18,vi ((q+1:Nat):Int))],[vRow c1 1 k (lF 0 ((N.take q).filter p2))]⟩) (N.length - (q+1)) (can_rowsv [0] (k0_sel hk rfl) rfl (.cons rfl (RowEq.cl (v_cl c1_cl _ _ _)) .nil) (by exact ⟨PEq.refl _,PEq.refl _,peq_slP rfl,PEq.refl _,trivial⟩)) (by omega) ⟨q+1,k,by omega,by rw [hf];exact hk2,rfl,by rw [hf]⟩
          · have hql:q=N.length:=by have:=of_decide_eq_false hc;omega
            subst hql
            rw [show N.filter p2=(N.take N.length).filter p2 by rw [List.take_length]]
            rcases k with _|k
            · repeat' (first|refine gg ?_|exact trivial|with_reducible refine wA ?_ ?_|refine Y2.mk ?_ ?_|refine gh ?_|exact qq|fail)
              refine xdone ?_
              refine kret [0] rfl ⟨trivial,trivial⟩ (qs:=[.vsl 0 1 (tI (lF 0 ((N.take N.length).filter p2)))]) ⟨argTI (arg_v (n:=0) (l:=0) c1_cl rfl (List.Mem.head _)),trivial⟩ ?_
              rw [show sV ((N.take N.length).filter p2)=.vsl 0 1 (tI (lF 0 ((N.take N.length).filter p2))) from by show PV.vsl _ _ _=_;rw [hk2]];rfl
            · repeat' (first|refine gg ?_|exact trivial|with_reducible refine wA ?_ ?_|refine Y2.mk ?_ ?_|refine gh ?_|exact qq|fail)
              refine xdone ?_
              refine kret [0] rfl ⟨trivial,trivial⟩ (qs:=[.vsl (k+1) 1 (tI (lF 0 ((N.take N.length).filter p2)))]) ⟨argTI (arg_v (n:=k+1) (l:=0) c1_cl rfl (List.Mem.head _)),trivial⟩ ?_
              rw [show sV ((N.take N.length).filter p2)=.vsl (k+1) 1 (tI (lF 0 ((N.take N.length).filter p2))) from by show PV.vsl _ _ _=_;rw [hk2]];rfl
  · have hO:OrdS nm l day=([],gErr nm l day):=by unfold OrdS;rw [if_pos hg]
    have hD:DwnS nm l day s=[]:=by unfold DwnS;rw [if_pos hg]
    have h11:gErr nm l day≠11:=fun hh=>hg (ord_chk (.inl (by rw [hO];exact hh)))
    rw [hO] at cO
    rw [hD]
    refine pure_of (G:=G.toPg) (fn:=Tryz.f35) Tryz.func35 rfl rfl rfl ?_;intro Γ hk
    repeat' (first|refine gg ?_|exact trivial|with_reducible refine wA ?_ ?_|refine Y2.mk ?_ ?_|(refine pop_callc [] rfl rfl rfl rfl rfl rfl (fun _ h=>by cases h) (cO) (args_cl _ rfl) ?_;rintro _ rfl)|refine gh ?_|exact qq|fail)
    refine pcond (b:=true) ?_ ?_ ?_
    · refine eqB ?_
      show (bif gErr nm l day != 0 then gErr nm l day != 11 else false)=true
      simp [hg,h11]
    · intro h5
      repeat' (first|refine gg ?_|exact trivial|with_reducible refine wA ?_ ?_|refine Y2.mk ?_ ?_|refine gh ?_|exact qq|fail)
      refine xdone ?_
      exact kret [] rfl ⟨trivial,trivial⟩ (qs:=[.vsl 0 1 (tI (lF 0 []))]) ⟨argNil,trivial⟩ rfl
    · intro h5;cases h5
end Go.Proofs.YtcefhgomkehokaaGreat
