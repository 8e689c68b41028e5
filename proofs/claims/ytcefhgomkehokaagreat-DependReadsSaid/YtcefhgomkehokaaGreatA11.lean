/- The reference's Means. -/
import Derived.Test.YtcefhgomkehokaaGreatA10
import Derived.Test.YtcefhgomkehokaaGreatA07
import Derived.Test.YtcefhgomkehokaaGreatA08
set_option linter.unusedSimpArgs false
set_option linter.unusedVariables false
set_option maxRecDepth 100000
namespace Go.Proofs.YtcefhgomkehokaaGreat
def nmX (sc:Bool) (s:ByteArray):Ex:=.mk (bif sc then 4 else 3) 0 0 0 0 0 s 0 0 0 (fun _=>.nil)
theorem mean_congr {l:List Df} {act:List Int} {e e' : Ex} (h1:e.op=e'.op) (h2:e.nm=e'.nm):meanI l act e=meanI l act e':=by
  have:fitB l e=fitB l e':=by funext x;unfold fitB;rw [h1,h2]
  unfold meanI
  rw [h1,h2,this]
def mnI (l:List Df) (act:List Int) (s:ByteArray) (sc:Bool):Int:=(meanI l act (nmX sc s)).getD (-1)
theorem mnI_inp {l:List Df} {act:List Int} {s:ByteArray} (h:0≤inpI l s):mnI l act s false=inpI l s:=by
  unfold mnI meanI inpI at *
  rw [if_pos (show (nmX false s).op=3 from rfl)]
  show (match (List.range l.length).find? (inpB l s) with|some i=>some (i:Int)|none=>act.find? (fitB l (nmX false s))).getD (-1)=_
  split at h
  · rename_i i hi
    rw [hi];rfl
  · omega
theorem mnI_act {l:List Df} {act:List Int} {s:ByteArray} {sc:Bool} (h:sc=true∨inpI l s < 0):mnI l act s sc=(act.find? (fitB l (nmX sc s))).getD (-1):=by
  unfold mnI meanI
  cases sc with
  | true=>rw [if_neg (show ¬ (nmX true s).op=3 from show ¬ (4:Int)=3 by decide)]
  | false =>
    have h:=h.resolve_left (by decide)
    unfold inpI at h
    rw [if_pos (show (nmX false s).op=3 from rfl)]
    show (match (List.range l.length).find? (inpB l s) with|some i=>some (i:Int)|none=>act.find? (fitB l (nmX false s))).getD (-1)=_
    split at h
    · omega
    · rename_i hi
      rw [hi]
set_option maxHeartbeats 8000000 in
theorem means21_c (nm:ByteArray) (l:List Df) (act:List Int) (s:ByteArray) (sc:Bool) (hl:l.length≤1000000) (ha:act.length≤1000000) (hin:∀ x,x ∈ act→0≤x∧x < l.length):PureC G.P 78 [vA nm l,sV act,vs s,vb sc] (fun r=>r=vi (mnI l act s sc)):=by
  have ci:=input21_c nm l s hl
  refine pure_of (G:=G.toPg) (fn:=Tryz.f78) Tryz.func78 rfl rfl rfl ?_;intro Γ hk
  refine pseq ?_
  refine pcut (fun st=>st=⟨[(1,sV act),(2,vs s),(3,vb sc),(4,.ptr 0 0 0)],[rA1 nm l]⟩) ?_ ?_
  · repeat' (first|refine gg ?_|exact trivial|with_reducible refine wA ?_ ?_|refine Y2.mk ?_ ?_|refine gh ?_|exact qq|fail)
    exact kcut (st':=⟨[(1,sV act),(2,vs s),(3,vb sc),(4,.ptr 0 0 0)],[rA1 nm l]⟩) (can_rowsv [0] (k0_sel hk rfl) rfl (.cons rfl (RowEq.cl (rA1_cl _ _)) .nil) tmq) rfl
  rintro _ rfl
  refine pseq ?_
  refine pcut (fun st=>(sc=true∨inpI l s < 0)∧st=⟨[(1,sV act),(2,vs s),(3,vb sc),(4,.ptr 0 0 0)],[rA1 nm l]⟩) ?_ ?_
  · cases sc with
    | true =>
      repeat' (first|refine gg ?_|exact trivial|with_reducible refine wA ?_ ?_|refine Y2.mk ?_ ?_|(refine pop_gfalse rfl rfl rfl rfl ?_)|refine gh ?_|exact qq|fail)
      refine xdone ?_
      exact kcut (st':=⟨[(1,sV act),(2,vs s),(3,vb true),(4,.ptr 0 0 0)],[rA1 nm l]⟩) (can_rowsv [0] (k0_sel hk rfl) rfl (.cons rfl (RowEq.cl (rA1_cl _ _)) .nil) tmq) ⟨.inl rfl,rfl⟩
    | false =>
      repeat' (first|refine gg ?_|exact trivial|with_reducible refine wA ?_ ?_|refine Y2.mk ?_ ?_|(refine pop_opt 13 rfl rfl ?_)|(refine pop_unguard rfl rfl ?_)|refine zz ci ?_|refine gh ?_|exact qq|fail)
      refine pcond (b:=decide (0≤inpI l s)) ?_ ?_ ?_
      · refine eqB ?_
        cases decide (0≤inpI l s)<;>rfl
      · intro h1
        have h1:=of_decide_eq_true h1
        repeat' (first|refine gg ?_|exact trivial|with_reducible refine wA ?_ ?_|refine Y2.mk ?_ ?_|refine gh ?_|exact qq|fail)
        repeat' (first|refine gg ?_|exact trivial|with_reducible refine wA ?_ ?_|refine Y2.mk ?_ ?_|(refine z1 ci ?_)|(refine z2 ci ?_)|refine gh ?_|exact qq|fail)
        refine kretv rfl ⟨trivial,trivial⟩ rfl ?_
        rw [mnI_inp h1];rfl
      · intro h1
        have h1:=of_decide_eq_false h1
        repeat' (first|refine gg ?_|exact trivial|with_reducible refine wA ?_ ?_|refine Y2.mk ?_ ?_|refine gh ?_|exact qq|fail)
        refine xdone ?_
        exact kcut (st':=⟨[(1,sV act),(2,vs s),(3,vb false),(4,.ptr 0 0 0)],[rA1 nm l]⟩) (can_rowsv [0] (k0_sel hk rfl) rfl (.cons rfl (RowEq.cl (rA1_cl _ _)) .nil) tmq) ⟨.inr (by omega),rfl⟩
  rintro _ ⟨hi,rfl⟩
  rw [mnI_act hi]
  repeat' (first|refine gg ?_|exact trivial|with_reducible refine wA ?_ ?_|refine Y2.mk ?_ ?_|refine gh ?_|exact qq|fail)
  refine pcan (st':=⟨[(1,sV act),(2,vs s),(3,vb sc),(4,.ptr 0 0 0),(9,vi ((0:Nat):Int))],[rA1 nm l]⟩) (can_rowsv [0] (k0_sel hk rfl) rfl (.cons rfl (RowEq.cl (rA1_cl _ _)) .nil) tmq) ?_
  refine ploop (fun q st=>∃ i:Nat,i≤act.length∧(∀ j,j < i→fitB l (nmX sc s) (lF 0 act j)=false)∧q=act.length - i∧st=⟨[(1,sV act),(2,vs s),(3,vb sc),(4,.ptr 0 0 0),(9,vi i)],[rA1 nm l]⟩) act.length ⟨0,by omega,fun j hj=>by omega,by omega,rfl⟩ ?_
  rintro _ _ ⟨i,hi2,hv,rfl,rfl⟩
  have hw1:IntKind.i64.wrap ((i:Int)+1)=((i+1:Nat):Int):=w64 (by omega) (by omega)
  repeat' (first|refine gg ?_|exact trivial|with_reducible refine wA ?_ ?_|refine Y2.mk ?_ ?_|refine gh ?_|exact qq|fail)
  refine pcond rfl ?_ ?_<;>intro hc
  · have hc:i < act.length:=by have:=of_decide_eq_true hc;omega
    have hx:=hin (lF 0 act i) (by rw [lF_get' hc];exact List.getElem_mem hc)
    have cr:=isRoutine_c (lF dD l (lF 0 act i).toNat)
    repeat' (first|refine gg ?_|exact trivial|with_reducible refine wA ?_ ?_|refine Y2.mk ?_ ?_|refine xs_start (id:=6) true [.take 0,.take 1,.take 2,.take 3,.take 4,.take 5,.take 6,.take 7,.one 8,.one 9] 0 rfl rfl (by kernel_rfl) ?_|exact hx|(exact (show (lF 0 act i).toNat < l.length by omega))|refine zz cr ?_|refine gh ?_|exact qq|fail)
    refine pcond (b:=fitB l (nmX sc s) (lF 0 act i)) ?_ ?_ ?_
    · refine eqB ?_
      show (bif ((lF dD l (lF 0 act i).toNat).nm.toList == s.toList) then bif bif sc then ((lF dD l (lF 0 act i).toNat).kind == 2) else false then true else bif !sc then comp (lF dD l (lF 0 act i).toNat) else false else false)=_
      unfold fitB
      cases sc with
      | true =>
        show _=decide (((4:Int)=3∧_∨(4:Int)=4∧_)∧_=s.toList)
        by_cases e1:(lF dD l (lF 0 act i).toNat).nm.toList=s.toList<;>by_cases e2:(lF dD l (lF 0 act i).toNat).kind=2<;>simp [e1,e2]
      | false =>
        show _=decide (((3:Int)=3∧_∨(3:Int)=4∧_)∧_=s.toList)
        by_cases e1:(lF dD l (lF 0 act i).toNat).nm.toList=s.toList<;>cases comp (lF dD l (lF 0 act i).toNat)<;>simp [e1]
    · intro h1
      repeat' (first|refine gg ?_|exact trivial|with_reducible refine wA ?_ ?_|refine Y2.mk ?_ ?_|(exact (show (_:Nat) < _ by omega))|refine gh ?_|exact qq|fail)
      refine xdone ?_
      refine kretv rfl ⟨trivial,trivial⟩ rfl ?_
      rw [find_lF hc hv h1];rfl
    · intro h1
      repeat' (first|refine gg ?_|exact trivial|with_reducible refine wA ?_ ?_|refine Y2.mk ?_ ?_|refine gh ?_|exact qq|fail)
      rw [hw1]
      exact kloop_next (st':=⟨[(1,sV act),(2,vs s),(3,vb sc),(4,.ptr 0 0 0),(9,vi ((i+1:Nat):Int))],[rA1 nm l]⟩) (act.length - (i+1)) (can_rowsv [0] (k0_sel hk rfl) rfl (.cons rfl (RowEq.cl (rA1_cl _ _)) .nil) tmq) (by omega) ⟨i+1,by omega,fun j hj=>by
        by_cases e:j=i
        · subst e;exact h1
        · exact hv j (by omega),rfl,rfl⟩
  · have hil:i=act.length:=by have:=of_decide_eq_false hc;omega
    subst hil
    repeat' (first|refine gg ?_|exact trivial|with_reducible refine wA ?_ ?_|refine Y2.mk ?_ ?_|refine gh ?_|exact qq|fail)
    refine kretv rfl ⟨trivial,trivial⟩ rfl ?_
    rw [find_lno hv];rfl
end Go.Proofs.YtcefhgomkehokaaGreat
namespace Go.Proofs.YtcefhgomkehokaaGreat
/-! ### the graph -/
def nodL (l:List Df) (act:List Int):List Int:=act.filter fun x=>comp (lF dD l x.toNat)
def mapL (l:List Df) (act ns:List Int):List (Int×List Int):=ns.map fun x=>(x,(needS l act x.toNat).1)
def gErr (nm:ByteArray) (l:List Df) (day:Int):Int :=
  if chkE nm l day≠0 then chkE nm l day else if (nodL l (actL l day)).all (fun x=>decide ((needS l (actL l day) x.toNat).2=0))=true then 0 else 7
def cG (a b:PV):Row:=⟨.own,true,1,2,fun _=>nthP [a,b]⟩
theorem cG_eq {τ:Nat→Option Nat} {a b:PV} {f:Nat→Nat→PV} (ha:PEq ((f 0 0).ren τ) a) (hb:PEq ((f 0 1).ren τ) b):RowEq (Row.ren τ ⟨.own,true,1,2,f⟩) (cG a b):=⟨rfl,rfl,Nat.le_refl _,fun i hi j hj=>by
  have hi:i < 1:=hi
  have hj:j < 2:=hj
  obtain rfl:i=0:=by omega
  obtain rfl|rfl:j=0∨j=1:=by omega
  · exact ha
  · exact hb⟩
theorem needS_err {l:List Df} {act:List Int} {i:Nat} : (needS l act i).2=0∨(needS l act i).2=7:=by
  unfold needS;split
  · exact .inl rfl
  · exact .inr rfl
theorem nodL_snoc {l:List Df} {A:List Int} {x:Int} : nodL l (A ++ [x])=nodL l A ++ if comp (lF dD l x.toNat)=true then [x] else []:=by
  unfold nodL
  rw [List.filter_append]
  congr 1
  rw [List.filter_cons,List.filter_nil]
theorem mapL_snoc {l:List Df} {A ns:List Int} {x:Int} : mapL l A (ns ++ [x])=mapL l A ns ++ [(x,(needS l A x.toNat).1)]:=by
  unfold mapL;rw [List.map_append];rfl
theorem gAll_no {l:List Df} {A:List Int} {x:Int} (hx:x ∈ A) (hc:comp (lF dD l x.toNat)=true) (hz:(needS l A x.toNat).2≠0) : ¬ (nodL l A).all (fun x=>decide ((needS l A x.toNat).2=0))=true:=fun h =>
  hz (of_decide_eq_true (List.all_eq_true.1 h x (List.mem_filter.2 ⟨hx,hc⟩)))
theorem vm_g {l:Nat} {c a:PV} : ∀ i,i < 1→∀ j,j < 2→VM l c ((cG a (.mref l)).f i j) ((cG a (.vmap c)).f i j):=fun i hi j hj=>by
  obtain rfl|rfl:j=0∨j=1:=by omega
  · exact VM.refl
  · exact VM.ref
set_option maxHeartbeats 8000000 in
theorem newGraph_r (nm:ByteArray) (l:List Df) (day:Int) (h:AgO nm l) (hl:l.length≤1000000):RowsC G.P 36 [] [vA nm l,vi day] (fun r rows=>(gErr nm l day≠0∧r=.tup 2 (nthP [.agg 2 (nthP [.val (.slice none 0 0),.val (.map none)]),vi (gErr nm l day)])∧rows=[cG (.val (.slice none 0 0)) (.val (.map none))])∨(gErr nm l day=0∧∃ k,(nodL l (actL l day)).length=k∧r=.tup 2 (nthP [.agg 2 (nthP [slP k 0,.vmap (cS (mapL l (actL l day) (nodL l (actL l day))))]),vi 0])∧rows=[vRow c1 1 k (lF 0 (nodL l (actL l day))),cG (slP k 0) (.vmap (cS (mapL l (actL l day) (nodL l (actL l day)))))])):=by
  have ck:=check_c nm l day h.nm h.bd
  have ca:=active_c nm l day hl
  have hal:=actL_len l day
  refine rows_of (G:=G.toPg) (fn:=Tryz.f36) Tryz.func36 rfl rfl rfl ?_;intro Γ hk
  repeat' (first|refine gg ?_|exact trivial|with_reducible refine wA ?_ ?_|refine Y2.mk ?_ ?_|refine zz ck ?_|refine gh ?_|exact qq|fail)
  refine pcond (b:=decide (chkE nm l day≠0)) (eqB (by rw [Bool.eq_iff_iff];simp)) ?_ ?_<;>intro h1
  · have h1:=of_decide_eq_true h1
    have hE:gErr nm l day=chkE nm l day:=by unfold gErr;rw [if_pos h1]
    rw [hE]
    repeat' (first|refine gg ?_|exact trivial|with_reducible refine wA ?_ ?_|refine Y2.mk ?_ ?_|refine gh ?_|exact qq|fail)
    refine xdone ?_
    refine kretr (can_rowsv [1] (tm:=[(4,.ptr 0 0 0),(5,vi (chkE nm l day))]) (rows:=[cG (.val (.slice none 0 0)) (.val (.map none))]) (k0_sel hk rfl) rfl (.cons rfl (cG_eq (PEq.refl _) (PEq.refl _)) .nil) tmq) rfl ⟨Nat.zero_lt_one,trivial,trivial⟩ rfl (.inl ⟨h1,rfl,rfl⟩)
  · have h1:=Decidable.not_not.1 (of_decide_eq_false h1)
    have hv:=chk_valid h1
    have hE:gErr nm l day=if (nodL l (actL l day)).all (fun x=>decide ((needS l (actL l day) x.toNat).2=0))=true then 0 else 7:=by unfold gErr;rw [if_neg (by omega)]
    rw [hE]
    clear hE
    have hin:=actL_in (l:=l) (day:=day)
    have hasc:(actL l day).Pairwise (· < ·):=actN_asc l day _
    generalize hA:actL l day=A at *
    repeat' (first|refine gg ?_|exact trivial|with_reducible refine wA ?_ ?_|refine Y2.mk ?_ ?_|refine gh ?_|exact qq|fail)
    refine pop_mkmapS rfl rfl rfl rfl rfl ?_
    repeat' (first|refine gg ?_|exact trivial|with_reducible refine wA ?_ ?_|refine Y2.mk ?_ ?_|(refine pop_callc [] rfl rfl rfl rfl rfl rfl (fun _ h=>by cases h) (ca) (args_cl _ rfl) ?_;rintro _ rfl)|refine gh ?_|exact qq|fail)
    refine pcan ((can_virt (vRow c1 1 0 (lF 0 [])) rfl).trans (can_rowsv [0,1,2,3,4] (tm:=[(2,.ptr 0 0 0),(4,.ptr 1 0 0),(7,.ptr 3 0 0),(8,sV A),(25,sV A),(26,vi A.length),(27,vi ((0:Nat):Int))]) (rows:=[rA1 nm l,cG (.val (.slice none 0 0)) (.val (.map none)),sRow (mapL l A (nodL l (A.take 0))),cG (slP 0 4) (.mref 2),vRow c1 1 0 (lF 0 (nodL l (A.take 0)))]) (k0_sel hk rfl) rfl (.cons rfl (RowEq.cl (rA1_cl _ _)) (.cons rfl (cG_eq (PEq.refl _) (PEq.refl _)) (.cons rfl (RowEq.cl (s_cl _)) (.cons rfl (cG_eq (PEq.refl _) (PEq.refl _)) (.cons rfl (RowEq.cl (v_cl c1_cl _ _ _)) .nil))))) tmq)) ?_
    refine ploop (fun q st=>∃ i k:Nat,i≤A.length∧(nodL l (A.take i)).length=k∧(nodL l (A.take i)).all (fun x=>decide ((needS l A x.toNat).2=0))=true∧q=A.length - i∧st=⟨[(2,.ptr 0 0 0),(4,.ptr 1 0 0),(7,.ptr 3 0 0),(8,sV A),(25,sV A),(26,vi A.length),(27,vi i)],[rA1 nm l,cG (.val (.slice none 0 0)) (.val (.map none)),sRow (mapL l A (nodL l (A.take i))),cG (slP k 4) (.mref 2),vRow c1 1 k (lF 0 (nodL l (A.take i)))]⟩) A.length ⟨0,0,Nat.zero_le _,by rw [List.take_zero];rfl,by rw [List.take_zero];rfl,rfl,rfl⟩ ?_
    rintro _ _ ⟨i,k,hiA,hk2,hall,rfl,rfl⟩
    have hw1:IntKind.i64.wrap ((i:Int)+1)=((i+1:Nat):Int):=w64 (by omega) (by omega)
    repeat' (first|refine gg ?_|exact trivial|with_reducible refine wA ?_ ?_|refine Y2.mk ?_ ?_|refine gh ?_|exact qq|fail)
    refine pcond rfl ?_ ?_<;>intro hc
    · have hc:i < A.length:=by have:=of_decide_eq_true hc;omega
      have hT:A.take (i+1)=A.take i ++ [lF 0 A i]:=by
        unfold lF
        rw [List.take_add_one,List.getD_eq_getElem?_getD,List.getElem?_eq_getElem (by omega)];rfl
      have hxm:lF 0 A i ∈ A:=by rw [lF_get' hc];exact List.getElem_mem hc
      have hx:=hin _ hxm
      have hx2:(lF 0 A i).toNat < l.length:=by omega
      have hx0:(((lF 0 A i).toNat:Nat):Int)=lF 0 A i:=by omega
      have cc:=computed_c (lF dD l (lF 0 A i).toNat)
      have hS:=nodL_snoc (l:=l) (A:=A.take i) (x:=lF 0 A i)
      rw [← hT] at hS
      cases hcm:comp (lF dD l (lF 0 A i).toNat) with
      | false =>
        rw [hcm] at cc
        rw [hcm,if_neg (by decide),List.append_nil] at hS
        rcases k with _|k
        all_goals
          repeat' (first|refine gg ?_|exact trivial|with_reducible refine wA ?_ ?_|refine Y2.mk ?_ ?_|exact ⟨hx.1,hx.2⟩|exact hx2|refine zz cc ?_|refine gh ?_|exact qq|fail)
          rw [hw1]
        · exact kloop_next (st':=⟨[(2,.ptr 0 0 0),(4,.ptr 1 0 0),(7,.ptr 3 0 0),(8,sV A),(25,sV A),(26,vi A.length),(27,vi ((i+1:Nat):Int))],[rA1 nm l,cG (.val (.slice none 0 0)) (.val (.map none)),sRow (mapL l A (nodL l (A.take i))),cG (slP 0 4) (.mref 2),vRow c1 1 0 (lF 0 (nodL l (A.take i)))]⟩) (A.length - (i+1)) (can_rowsv [0,1,2,3,4] (k0_sel hk rfl) rfl (.cons rfl (RowEq.cl (rA1_cl _ _)) (.cons rfl (cG_eq (PEq.refl _) (PEq.refl _)) (.cons rfl (RowEq.cl (s_cl _)) (.cons rfl (cG_eq (PEq.refl _) (PEq.refl _)) (.cons rfl (RowEq.cl (v_cl c1_cl _ _ _)) .nil))))) tmq) (by omega) ⟨i+1,0,by omega,by rw [hS];exact hk2,by rw [hS];exact hall,rfl,by rw [hS]⟩
        · exact kloop_next (st':=⟨[(2,.ptr 0 0 0),(4,.ptr 1 0 0),(7,.ptr 3 0 0),(8,sV A),(25,sV A),(26,vi A.length),(27,vi ((i+1:Nat):Int))],[rA1 nm l,cG (.val (.slice none 0 0)) (.val (.map none)),sRow (mapL l A (nodL l (A.take i))),cG (slP (k+1) 4) (.mref 2),vRow c1 1 (k+1) (lF 0 (nodL l (A.take i)))]⟩) (A.length - (i+1)) (can_rowsv [0,1,2,3,4] (k0_sel hk rfl) rfl (.cons rfl (RowEq.cl (rA1_cl _ _)) (.cons rfl (cG_eq (PEq.refl _) (PEq.refl _)) (.cons rfl (RowEq.cl (s_cl _)) (.cons rfl (cG_eq (PEq.refl _) (PEq.refl _)) (.cons rfl (RowEq.cl (v_cl c1_cl _ _ _)) .nil))))) tmq) (by omega) ⟨i+1,k+1,by omega,by rw [hS];exact hk2,by rw [hS];exact hall,rfl,by rw [hS]⟩
      | true =>
        rw [hcm] at cc
        rw [hcm,if_pos rfl] at hS
        have cd:=needs_c nm l A (lF 0 A i).toNat hx2 hl (by omega) hin hasc (h.body hv hx2 hcm)
        rw [hx0] at cd
        have hkey:∀ e,e ∈ mapL l A (nodL l (A.take i))→e.1≠lF 0 A i:=fun e he=>by
          obtain ⟨y,hy,rfl⟩:=List.mem_map.1 he
          have hy2:=(List.mem_filter.1 hy).1
          have h3:(A.take (i+1)).Pairwise (· < ·):=hasc.sublist (List.take_sublist _ _)
          rw [hT,List.pairwise_append] at h3
          have:=h3.2.2 y hy2 (lF 0 A i) (List.mem_singleton.2 rfl)
          show y≠lF 0 A i
          omega
        have hkb:k≤i:=by rw [← hk2];exact Nat.le_trans (List.length_filter_le _ _) (by rw [List.length_take];omega)
        rcases k with _|k
        all_goals
          repeat' (first|refine gg ?_|exact trivial|with_reducible refine wA ?_ ?_|refine Y2.mk ?_ ?_|(refine pop_callc [] rfl rfl rfl rfl rfl rfl (fun _ h=>by cases h) (cd) (args_cl _ rfl) ?_;rintro _ rfl)|exact ⟨hx.1,hx.2⟩|exact hx2|refine zz cc ?_|refine gh ?_|exact qq|fail)
          refine pcond (b:=decide ((needS l A (lF 0 A i).toNat).2≠0)) (eqB (by rw [Bool.eq_iff_iff];simp)) ?_ ?_<;>intro hz
        · have hz:=of_decide_eq_true hz
          have hz7:(needS l A (lF 0 A i).toNat).2=7:=by rcases needS_err (l:=l) (act:=A) (i:=(lF 0 A i).toNat) with e|e;exact absurd e hz;exact e
          have hna:=gAll_no hxm hcm hz
          repeat' (first|refine gg ?_|exact trivial|with_reducible refine wA ?_ ?_|refine Y2.mk ?_ ?_|refine gh ?_|exact qq|fail)
          refine xdone ?_
          refine kretr (can_rowsv [1] (tm:=[(4,.ptr 0 0 0),(5,vi (needS l A (lF 0 A i).toNat).2)]) (rows:=[cG (.val (.slice none 0 0)) (.val (.map none))]) (k0_sel hk rfl) rfl (.cons rfl (cG_eq (PEq.refl _) (PEq.refl _)) .nil) tmq) rfl ⟨Nat.zero_lt_one,trivial,trivial⟩ rfl (.inl ⟨by rw [if_neg hna];decide,by rw [if_neg hna,hz7];rfl,rfl⟩)
        · have hz:=Decidable.not_not.1 (of_decide_eq_false hz)
          repeat' (first|refine gg ?_|exact trivial|with_reducible refine wA ?_ ?_|refine Y2.mk ?_ ?_|exact ⟨Nat.le_refl _,(by rw [hk];exact Nat.le_of_ble_eq_true rfl),Nat.le_of_eq (Nat.zero_add _),(show (_:Nat) * 8≤140737488355328 from by omega),(show (_:Nat)≤9223372036854775807 from by omega)⟩|refine gh ?_|exact qq|fail)
          refine pop_msetS (l:=2) mapIS (lF 0 A i) (needS l A (lF 0 A i).toNat).1 hkey rfl rfl rfl rfl rfl rfl rfl (by rw [hk];exact Nat.zero_le _) rfl rfl ?_
          repeat' (first|refine gg ?_|exact trivial|with_reducible refine wA ?_ ?_|refine Y2.mk ?_ ?_|refine gh ?_|exact qq|fail)
          rw [hw1]
          exact kloop_next (st':=⟨[(2,.ptr 0 0 0),(4,.ptr 1 0 0),(7,.ptr 3 0 0),(8,sV A),(25,sV A),(26,vi A.length),(27,vi ((i+1:Nat):Int))],[rA1 nm l,cG (.val (.slice none 0 0)) (.val (.map none)),sRow (mapL l A (nodL l (A.take i) ++ [lF 0 A i])),cG (slP (0+1) 4) (.mref 2),vRow c1 1 (0+1) (lF 0 (nodL l (A.take i) ++ [lF 0 A i]))]⟩) (A.length - (i+1)) (can_rowsv [0,1,2,3,6] (k0_sel hk rfl) rfl (.cons rfl (RowEq.cl (rA1_cl _ _)) (.cons rfl (cG_eq (PEq.refl _) (PEq.refl _)) (.cons rfl (by rw [mapL_snoc];exact RowEq.cl (s_cl _)) (.cons rfl (cG_eq (PEq.refl _) (PEq.refl _)) (.cons rfl (app_l0 c1_cl hk2 rfl) .nil))))) tmq) (by omega) ⟨i+1,0+1,by omega,by rw [hS,List.length_append,hk2];rfl,by rw [hS,List.all_append,hall];simp [hz],rfl,by rw [hS]⟩
        · have hz:=of_decide_eq_true hz
          have hz7:(needS l A (lF 0 A i).toNat).2=7:=by rcases needS_err (l:=l) (act:=A) (i:=(lF 0 A i).toNat) with e|e;exact absurd e hz;exact e
          have hna:=gAll_no hxm hcm hz
          repeat' (first|refine gg ?_|exact trivial|with_reducible refine wA ?_ ?_|refine Y2.mk ?_ ?_|refine gh ?_|exact qq|fail)
          refine xdone ?_
          refine kretr (can_rowsv [1] (tm:=[(4,.ptr 0 0 0),(5,vi (needS l A (lF 0 A i).toNat).2)]) (rows:=[cG (.val (.slice none 0 0)) (.val (.map none))]) (k0_sel hk rfl) rfl (.cons rfl (cG_eq (PEq.refl _) (PEq.refl _)) .nil) tmq) rfl ⟨Nat.zero_lt_one,trivial,trivial⟩ rfl (.inl ⟨by rw [if_neg hna];decide,by rw [if_neg hna,hz7];rfl,rfl⟩)
        · have hz:=Decidable.not_not.1 (of_decide_eq_false hz)
          repeat' (first|refine gg ?_|exact trivial|with_reducible refine wA ?_ ?_|refine Y2.mk ?_ ?_|exact ⟨Nat.le_refl _,(by rw [hk];exact Nat.le_of_ble_eq_true rfl),Nat.le_of_eq (Nat.zero_add _),(show (_:Nat) * 8≤140737488355328 from by omega),(show (_:Nat)≤9223372036854775807 from by omega)⟩|refine gh ?_|exact qq|fail)
          refine pop_msetS (l:=2) mapIS (lF 0 A i) (needS l A (lF 0 A i).toNat).1 hkey rfl rfl rfl rfl rfl rfl rfl (by rw [hk];exact Nat.zero_le _) rfl rfl ?_
          repeat' (first|refine gg ?_|exact trivial|with_reducible refine wA ?_ ?_|refine Y2.mk ?_ ?_|refine gh ?_|exact qq|fail)
          rw [hw1]
          exact kloop_next (st':=⟨[(2,.ptr 0 0 0),(4,.ptr 1 0 0),(7,.ptr 3 0 0),(8,sV A),(25,sV A),(26,vi A.length),(27,vi ((i+1:Nat):Int))],[rA1 nm l,cG (.val (.slice none 0 0)) (.val (.map none)),sRow (mapL l A (nodL l (A.take i) ++ [lF 0 A i])),cG (slP (k+1+1) 4) (.mref 2),vRow c1 1 (k+1+1) (lF 0 (nodL l (A.take i) ++ [lF 0 A i]))]⟩) (A.length - (i+1)) (can_rowsv [0,1,2,3,6] (k0_sel hk rfl) rfl (.cons rfl (RowEq.cl (rA1_cl _ _)) (.cons rfl (cG_eq (PEq.refl _) (PEq.refl _)) (.cons rfl (by rw [mapL_snoc];exact RowEq.cl (s_cl _)) (.cons rfl (cG_eq (PEq.refl _) (PEq.refl _)) (.cons rfl (app_l c1_cl hk2 rfl rfl) .nil))))) tmq) (by omega) ⟨i+1,k+1+1,by omega,by rw [hS,List.length_append,hk2];rfl,by rw [hS,List.all_append,hall];simp [hz],rfl,by rw [hS]⟩
    · have hil:i=A.length:=by have:=of_decide_eq_false hc;omega
      subst hil
      rw [List.take_length] at hk2 hall
      rw [List.take_length]
      rw [if_pos hall]
      rcases k with _|k
      · repeat' (first|refine gg ?_|exact trivial|with_reducible refine wA ?_ ?_|refine Y2.mk ?_ ?_|refine gh ?_|exact qq|fail)
        refine xdone ?_
        refine kretr ((can_vmap (one:=false) (n:=0) (f:=fun _ _=>cS (mapL l A (nodL l A))) 2 (by rw [hk];exact Nat.zero_le _) rfl (cS_cl _) (tm:=[(4,.ptr 1 0 0),(5,vi 0)]) (rows:=[rA1 nm l,cG (slP (0) 4) (.vmap (cS (mapL l A (nodL l A)))),deadR,cG (slP (0) 4) (.mref 2),vRow c1 1 (0) (lF 0 (nodL l A))]) (by exact ⟨VM.refl,VM.refl,trivial⟩) (by exact ⟨.inl rfl,.inr ⟨trivial,rfl,rfl,rfl,vm_g⟩,.inl rfl,.inl rfl,.inl rfl,trivial⟩)).trans (can_rowsv [4,1] (tm:=[(4,.ptr 1 0 0),(5,vi 0)]) (rows:=[vRow c1 1 (0) (lF 0 (nodL l A)),cG (slP (0) 0) (.vmap (cS (mapL l A (nodL l A))))]) (k0_sel hk rfl) rfl (.cons rfl (RowEq.cl (v_cl c1_cl _ _ _)) (.cons rfl (cG_eq (PEq.refl _) (PEq.cl (.vmap _) trivial)) .nil)) tmq)) rfl ⟨Nat.zero_lt_one,trivial,trivial⟩ rfl (.inr ⟨rfl,0,hk2,rfl,rfl⟩)
      · repeat' (first|refine gg ?_|exact trivial|with_reducible refine wA ?_ ?_|refine Y2.mk ?_ ?_|refine gh ?_|exact qq|fail)
        refine xdone ?_
        refine kretr ((can_vmap (one:=false) (n:=0) (f:=fun _ _=>cS (mapL l A (nodL l A))) 2 (by rw [hk];exact Nat.zero_le _) rfl (cS_cl _) (tm:=[(4,.ptr 1 0 0),(5,vi 0)]) (rows:=[rA1 nm l,cG (slP (k+1) 4) (.vmap (cS (mapL l A (nodL l A)))),deadR,cG (slP (k+1) 4) (.mref 2),vRow c1 1 (k+1) (lF 0 (nodL l A))]) (by exact ⟨VM.refl,VM.refl,trivial⟩) (by exact ⟨.inl rfl,.inr ⟨trivial,rfl,rfl,rfl,vm_g⟩,.inl rfl,.inl rfl,.inl rfl,trivial⟩)).trans (can_rowsv [4,1] (tm:=[(4,.ptr 1 0 0),(5,vi 0)]) (rows:=[vRow c1 1 (k+1) (lF 0 (nodL l A)),cG (slP (k+1) 0) (.vmap (cS (mapL l A (nodL l A))))]) (k0_sel hk rfl) rfl (.cons rfl (RowEq.cl (v_cl c1_cl _ _ _)) (.cons rfl (cG_eq (PEq.refl _) (PEq.cl (.vmap _) trivial)) .nil)) tmq)) rfl ⟨Nat.zero_lt_one,trivial,trivial⟩ rfl (.inr ⟨rfl,k+1,hk2,rfl,rfl⟩)
end Go.Proofs.YtcefhgomkehokaaGreat
namespace Go.Proofs.YtcefhgomkehokaaGreat
abbrev tH:Ty:=⟨false,0,1,0⟩
abbrev tR:Ty:=⟨false,1,-1,0⟩
abbrev n_h:ByteArray:=⟨#[104]⟩
abbrev n_g:ByteArray:=⟨#[103]⟩
abbrev n_f:ByteArray:=⟨#[102]⟩
abbrev n_r1:ByteArray:=⟨#[114,49]⟩
abbrev n_r2:ByteArray:=⟨#[114,50]⟩
abbrev n_r3:ByteArray:=⟨#[114,51]⟩
abbrev n_r4:ByteArray:=⟨#[114,52]⟩
abbrev n_a:ByteArray:=⟨#[97]⟩
abbrev n_b:ByteArray:=⟨#[98]⟩
abbrev n_w:ByteArray:=⟨#[119]⟩
abbrev n_s:ByteArray:=⟨#[115]⟩
abbrev n_gross:ByteArray:=⟨#[103,114,111,115,115]⟩
abbrev n_time:ByteArray:=⟨#[116,105,109,101]⟩
structure Env (N S P:List Df):Prop where
  h:findS N n_h=(tH,0)
  g:findS N n_g=(t0,0)
  f:findS N n_f=(tB,0)
  r1:findS N n_r1=(tR,0)
  r2:findS N n_r2=(tM,0)
  r3:findS N n_r3=(tB,0)
  r4:findS N n_r4=(t0,0)
  a:findS N n_a=(tM,0)
  w:findS S n_w=(tR,0)
  s:findS S n_s=(t0,0)
  gross:findS P n_gross=(tM,0)
  time:findS P n_time=(tH,0)
def decL:List (Int×Int):=[(1,1),(2,1),(0,1),(5,2),(1,4),(76,5),(40,1),(1,100),(3,1),(100,1)]
inductive Lit:Ex→Prop where
  | mk {op vn vd um uh ud:Int} {nm:ByteArray} {cnt mode:Int} {nk:Nat} {kf:Nat→Ex} (h:op=1∨op=19→(vn,vd) ∈ decL) (hk:∀ i,i < nk→Lit (kf i)):Lit (.mk op vn vd um uh ud nm cnt mode nk kf)
def nms3:List ByteArray:=[n_h,n_g,n_f,n_r1,n_r2,n_r3,n_r4,n_a]
def rank (nm:ByteArray):Int:=if nm.toList=n_r1.toList then 1 else if nm.toList=n_r2.toList then 2 else if nm.toList=n_r3.toList then 3 else if nm.toList=n_r4.toList then 4 else if nm.toList=n_a.toList then 4 else if nm.toList=n_b.toList then 5 else 0
def RkN (ρ op:Int) (nm:ByteArray):Prop:=(op=3→nm ∈ nms3∧(rank nm=0∨rank nm < ρ))∧(op=4→nm=n_w∨nm=n_s)
inductive Rk (ρ:Int):Ex→Prop where
  | mk {op vn vd um uh ud:Int} {nm:ByteArray} {cnt mode:Int} {nk:Nat} {kf:Nat→Ex} (h:RkN ρ op nm) (hk:∀ i,i < nk→Rk ρ (kf i)):Rk ρ (.mk op vn vd um uh ud nm cnt mode nk kf)
theorem RkN.no {ρ op:Int} {nm:ByteArray} (h3:op≠3) (h4:op≠4):RkN ρ op nm:=⟨fun h=>absurd h h3,fun h=>absurd h h4⟩
theorem RkN.mono {ρ ρ' op:Int} {nm:ByteArray} (h:RkN ρ op nm) (hr:ρ≤ρ'):RkN ρ' op nm:=⟨fun e=>⟨(h.1 e).1,(h.1 e).2.imp id fun h=>by omega⟩,h.2⟩
theorem Rk.mono {ρ ρ' : Int} (hr:ρ≤ρ') {e:Ex} (h:Rk ρ e):Rk ρ' e:=by
  induction h with
  | mk h hk ih=>exact .mk (h.mono hr) ih
theorem RkN.nm {ρ:Int} {nm:ByteArray} {k:Int} (hm:nm ∈ nms3) (hr:rank nm=k) (hk:k=0∨k < ρ):RkN ρ 3 nm:=⟨fun _=>⟨hm,by rw [hr];exact hk⟩,fun h=>absurd h (by decide)⟩
theorem mm3 {P:Prop} (h:P:=by unfold nms3;repeat' (first|exact List.Mem.head _|refine List.Mem.tail _ ?_)):P:=h
theorem rk_h {ρ:Int} : RkN ρ 3 n_h:=.nm (k:=0) mm3 (by decide +kernel) (.inl rfl)
theorem rk_g {ρ:Int} : RkN ρ 3 n_g:=.nm (k:=0) mm3 (by decide +kernel) (.inl rfl)
theorem rk_f {ρ:Int} : RkN ρ 3 n_f:=.nm (k:=0) mm3 (by decide +kernel) (.inl rfl)
theorem rk_r1 {ρ:Int} (h:decide (1 < ρ)=true):RkN ρ 3 n_r1:=.nm (k:=1) mm3 (by decide +kernel) (.inr (of_decide_eq_true h))
theorem rk_r2 {ρ:Int} (h:decide (2 < ρ)=true):RkN ρ 3 n_r2:=.nm (k:=2) mm3 (by decide +kernel) (.inr (of_decide_eq_true h))
theorem rk_r3 {ρ:Int} (h:decide (3 < ρ)=true):RkN ρ 3 n_r3:=.nm (k:=3) mm3 (by decide +kernel) (.inr (of_decide_eq_true h))
theorem rk_r4 {ρ:Int} (h:decide (4 < ρ)=true):RkN ρ 3 n_r4:=.nm (k:=4) mm3 (by decide +kernel) (.inr (of_decide_eq_true h))
theorem rk_a {ρ:Int} (h:decide (4 < ρ)=true):RkN ρ 3 n_a:=.nm (k:=4) mm3 (by decide +kernel) (.inr (of_decide_eq_true h))
structure EOk (ρ:Int) (h:Nat) (t:Ty) (e:Ex):Prop where
  bd:Bd e
  vl:∀ n,h≤n→validS n e=true
  wt:∀ N S P,Env N S P→∀ n,h≤n→typeS N S P n e=(t,0)
  lit:Lit e
  rk:Rk ρ e
theorem EOk.mono {ρ:Int} {h h' : Nat} {t:Ty} {e:Ex} (H:EOk ρ h t e) (hh:h≤h'):EOk ρ h' t e:=⟨H.bd,fun n hn=>H.vl n (by omega),fun N S P hE n hn=>H.wt N S P hE n (by omega),H.lit,H.rk⟩
theorem EOk.up {ρ ρ' : Int} {h:Nat} {t:Ty} {e:Ex} (H:EOk ρ h t e) (hr:ρ≤ρ'):EOk ρ' h t e:=⟨H.bd,H.vl,H.wt,H.lit,H.rk.mono hr⟩
theorem EOk.node {ρ : Int} {h : Nat} {t : Ty} {op vn vd um uh ud : Int} {nm : ByteArray} {cnt mode : Int} {nk : Nat} {kf : Nat → Ex} (τ : Nat → Ty) (hb : -9223372036854775808 ≤ vn ∧ vn ≤ 9223372036854775807 ∧ nm.size ≤ 9223372036854775807) (hk : (nk : Int) = kidsN op) (hf : fieldS (.mk op vn vd um uh ud nm cnt mode nk kf) = true) (hkid : ∀ i, i < nk → EOk ρ h (τ i) (kf i))
    (ho:∀ N S P,Env N S P→opS N S P (.mk op vn vd um uh ud nm cnt mode nk kf) (if 0 < nk then τ 0 else t0) (if 1 < nk then τ 1 else t0) (if 2 < nk then τ 2 else t0)=(t,0)) (hl:op=1∨op=19→(vn,vd) ∈ decL) (hr:RkN ρ op nm):EOk ρ (h+1) t (.mk op vn vd um uh ud nm cnt mode nk kf):=by
  refine ⟨.mk hb fun i hi=>(hkid i hi).bd,fun n hn=>?_,fun N S P hE n hn=>?_,.mk hl fun i hi=>(hkid i hi).lit,.mk hr fun i hi=>(hkid i hi).rk⟩
  · obtain ⟨m,rfl⟩:∃ m,n=m+1:=⟨n - 1,by omega⟩
    have e1:decide (((nk:Nat):Int)=kidsN op)=true:=decide_eq_true hk
    show (decide (((nk:Nat):Int)=kidsN op) && (fieldS _ && allK nk (fun i=>validS m (kf i))))=true
    rw [e1,hf,allK_iff.2 fun i hi=>(hkid i hi).vl m (by omega)];rfl
  · obtain ⟨m,rfl⟩:∃ m,n=m+1:=⟨n - 1,by omega⟩
    have hT:∀ i,typeS N S P m ((Ex.mk op vn vd um uh ud nm cnt mode nk kf).kf i)=(fun i=>typeS N S P m (kf i)) i:=fun _=>rfl
    have h3:nk≤3:=by have:=kidsN_le op;omega
    obtain ⟨_,h2⟩:=typeS_succ N S P m _ hT h3
    have hz:∀ j,j < nk→typeS N S P m (kf j)=(τ j,0):=fun j hj=>(hkid j hj).wt N S P hE m (by omega)
    rw [h2 (fun j hj=>by show (typeS N S P m (kf j)).2=0;rw [hz j hj])]
    have hkt:∀ j,kt (fun i=>typeS N S P m (kf i)) nk j=if j < nk then τ j else t0:=fun j=>by
      unfold kt
      by_cases hj:j < nk
      · rw [if_pos hj,if_pos hj];show (typeS N S P m (kf j)).1=_;rw [hz j hj]
      · rw [if_neg hj,if_neg hj]
    show opS N S P _ (kt _ nk 0) (kt _ nk 1) (kt _ nk 2)=_
    rw [hkt,hkt,hkt]
    exact ho N S P hE
def k1 (a:Ex) (_:Nat):Ex:=a
def k2 (a b:Ex) (i:Nat):Ex:=if i=0 then a else b
def k3 (a b c:Ex) (i:Nat):Ex:=if i=0 then a else if i=1 then b else c
def kn (_:Nat):Ex:=.nil
abbrev eOp (op:Int) (nk:Nat) (kf:Nat→Ex):Ex:=.mk op 0 0 0 0 0 ⟨#[]⟩ 0 0 nk kf
abbrev eNm (op:Int) (nm:ByteArray) (nk:Nat) (kf:Nat→Ex):Ex:=.mk op 0 0 0 0 0 nm 0 0 nk kf
theorem ok_name {ρ:Int} {nm:ByteArray} {t:Ty} (h1:nameS nm=true) (h2:nm.size≤100) (h3:∀ N S P,Env N S P→findS N nm=(t,0)) (hr:RkN ρ 3 nm):EOk ρ 1 t (eNm 3 nm 0 kn) :=
  EOk.node (h:=0) (fun _=>t0) ⟨by show (-9223372036854775808:Int)≤0;decide,by show (0:Int)≤9223372036854775807;decide,by omega⟩ rfl (by simp [fieldS,Ex.op,Ex.vn,Ex.vd,Ex.um,Ex.uh,Ex.ud,Ex.nm,Ex.cnt,Ex.mode,h1]) (fun i hi=>by omega) (fun N S P hE=>by show findS N nm=_;exact h3 N S P hE) (by omega) hr
theorem ok_past {ρ op:Int} {nm:ByteArray} {t:Ty} {c:Int} (hop:op=20∨op=21) (h1:nameS nm=true) (h2:nm.size≤100) (hc:1≤c∧c≤120) (h3:∀ N S P,Env N S P→findS P nm=(t,0)):EOk ρ 1 t (.mk op 0 0 0 0 0 nm c 0 0 kn):=by
  refine EOk.node (h:=0) (fun _=>t0) ⟨by decide,by decide,by omega⟩ ?_ ?_ (fun i hi=>by omega) (fun N S P hE=>?_) (by omega) (.no (by omega) (by omega))
  · rcases hop with rfl|rfl<;>rfl
  · rcases hop with rfl|rfl<;>simp [fieldS,Ex.op,Ex.vn,Ex.vd,Ex.um,Ex.uh,Ex.ud,Ex.nm,Ex.cnt,Ex.mode,h1,hc]
  · rcases hop with rfl|rfl<;>exact h3 N S P hE
theorem ok_truth {ρ c:Int} (hc:c=0∨c=1):EOk ρ 1 tB (.mk 2 0 0 0 0 0 ⟨#[]⟩ c 0 0 kn):=by
  refine EOk.node (h:=0) (fun _=>t0) ⟨by decide,by decide,by decide⟩ rfl ?_ (fun i hi=>by omega) (fun N S P hE=>rfl) (by omega) (.no (by decide) (by decide))
  rcases hc with rfl|rfl<;>simp [fieldS,Ex.op,Ex.vn,Ex.vd,Ex.um,Ex.uh,Ex.ud,Ex.nm,Ex.cnt,Ex.mode]<;>rfl
theorem ok_num {ρ:Int} {x:Int×Int} {m h d:Int} (hx:x ∈ decL) (hu:unitS m h d=true):EOk ρ 1 ⟨false,m,h,d⟩ (.mk 1 x.1 x.2 m h d ⟨#[]⟩ 0 0 0 kn):=by
  have key:∀ x ∈ decL,-9223372036854775808≤x.1∧x.1≤9223372036854775807∧decS x.1 x.2=true:=by decide +kernel
  obtain ⟨k1,k2,k3⟩:=key x hx
  refine EOk.node (h:=0) (fun _=>t0) ⟨k1,k2,by decide⟩ rfl ?_ (fun i hi=>by omega) (fun N S P hE=>rfl) (fun _=>hx) (.no (by decide) (by decide))
  simp [fieldS,Ex.op,Ex.vn,Ex.vd,Ex.um,Ex.uh,Ex.ud,Ex.nm,Ex.cnt,Ex.mode,k3,hu]
theorem ok_op {ρ : Int} {h : Nat} {t : Ty} {op : Int} {nk : Nat} {kf : Nat → Ex} (τ : Nat → Ty) (hop : 5 ≤ op ∧ op ≤ 18) (hk : (nk : Int) = kidsN op) (hkid : ∀ i, i < nk → EOk ρ h (τ i) (kf i))
    (ho:∀ N S P,opS N S P (eOp op nk kf) (if 0 < nk then τ 0 else t0) (if 1 < nk then τ 1 else t0) (if 2 < nk then τ 2 else t0)=(t,0)):EOk ρ (h+1) t (eOp op nk kf):=by
  refine EOk.node τ ⟨by decide,by decide,by decide⟩ hk ?_ hkid (fun N S P _=>ho N S P) (by omega) (.no (by omega) (by omega))
  have e1 : ¬ op=1:=by omega
  have e2 : ¬ op=2:=by omega
  have e3 : ¬ op=3:=by omega
  have e4 : ¬ op=4:=by omega
  have e5 : ¬ op=19:=by omega
  have e6 : ¬ op=20:=by omega
  have e7 : ¬ op=21:=by omega
  simp [fieldS,Ex.op,Ex.vn,Ex.vd,Ex.um,Ex.uh,Ex.ud,Ex.nm,Ex.cnt,Ex.mode,e1,e2,e3,e4,e5,e6,e7]
theorem ok_two {ρ:Int} {h:Nat} {t ta tb:Ty} {op:Int} {a b:Ex} (hop:5≤op∧op≤15) (ha:EOk ρ h ta a) (hb:EOk ρ h tb b) (ho:∀ N S P,opS N S P (eOp op 2 (k2 a b)) ta tb t0=(t,0)):EOk ρ (h+1) t (eOp op 2 (k2 a b)):=by
  refine ok_op (fun i=>if i=0 then ta else tb) ⟨hop.1,by omega⟩ ?_ (fun i hi=>?_) ho
  · unfold kidsN;rw [if_neg (by omega),if_neg (by omega),if_pos hop];rfl
  · rcases (by omega:i=0∨i=1) with rfl|rfl
    · exact ha
    · exact hb
theorem ok_one {ρ:Int} {h:Nat} {t ta:Ty} {op:Int} {a:Ex} (hop:op=16∨op=17) (ha:EOk ρ h ta a) (ho:∀ N S P,opS N S P (eOp op 1 (k1 a)) ta t0 t0=(t,0)):EOk ρ (h+1) t (eOp op 1 (k1 a)):=by
  refine ok_op (fun _=>ta) ⟨by omega,by omega⟩ ?_ (fun i hi=>ha) ho
  rcases hop with rfl|rfl<;>rfl
theorem ok_if {ρ:Int} {h:Nat} {t:Ty} {a b c:Ex} (ha:EOk ρ h tB a) (hb:EOk ρ h t b) (hc:EOk ρ h t c):EOk ρ (h+1) t (eOp 18 3 (k3 a b c)):=by
  refine ok_op (fun i=>if i=0 then tB else t) ⟨by decide,by decide⟩ rfl (fun i hi=>?_) (fun N S P=>?_)
  · rcases (by omega:i=0∨i=1∨i=2) with rfl|rfl|rfl
    · exact ha
    · exact hb
    · exact hc
  · obtain ⟨tb,tm,th,td⟩:=t
    cases tb<;>simp [opS,Ex.op,resS,equS]
theorem ok_scale {ρ:Int} {h:Nat} {t:Ty} {nm:ByteArray} {a:Ex} (h1:nameS nm=true) (h2:nm.size≤100) (ha:EOk ρ h t0 a) (h3:∀ N S P,Env N S P→findS S nm=(t,0)) (hw:nm=n_w∨nm=n_s):EOk ρ (h+1) t (eNm 4 nm 1 (k1 a)):=by
  refine EOk.node (fun _=>t0) ⟨by decide,by decide,by omega⟩ rfl ?_ (fun i hi=>ha) (fun N S P hE=>?_) (by omega) ⟨fun h=>absurd h (by decide),fun _=>hw⟩
  · simp [fieldS,Ex.op,Ex.vn,Ex.vd,Ex.um,Ex.uh,Ex.ud,Ex.nm,Ex.cnt,Ex.mode,h1]
  · have:=h3 N S P hE
    simp [opS,Ex.op,Ex.nm,this,resS,equS]
theorem key0:∀ x ∈ [((1:Int),(1:Int)),(1,100),(1,4)],x ∈ decL:=by decide +kernel
theorem ok_round {ρ:Int} {h:Nat} {t:Ty} {x:Int×Int} {mode:Int} {a:Ex} (hx:x ∈ [((1:Int),(1:Int)),(1,100),(1,4)]) (hm:0≤mode∧mode≤6) (ht:t.b=false) (hu:unitS t.m t.h t.d=true) (ha:EOk ρ h t a):EOk ρ (h+1) t (.mk 19 x.1 x.2 t.m t.h t.d ⟨#[]⟩ 0 mode 1 (k1 a)):=by
  have key:∀ x ∈ [((1:Int),(1:Int)),(1,100),(1,4)],-9223372036854775808≤x.1∧x.1≤9223372036854775807∧decS x.1 x.2=true∧0 < x.1:=by decide +kernel
  obtain ⟨k1',k2',k3',k4'⟩:=key x hx
  refine EOk.node (fun _=>t) ⟨k1',k2',by decide⟩ rfl ?_ (fun i hi=>ha) (fun N S P hE=>?_) (fun _=>key0 _ hx) (.no (by decide) (by decide))
  · have:modeB mode=true:=by simp [modeB];omega
    simp [fieldS,Ex.op,Ex.vn,Ex.vd,Ex.um,Ex.uh,Ex.ud,Ex.nm,Ex.cnt,Ex.mode,k3',k4',hu,this]
  · obtain ⟨tb,tm,th,td⟩:=t
    have ht:tb=false:=ht
    subst ht
    simp [opS,Ex.op,Ex.um,Ex.uh,Ex.ud,resS,equS]
def tabL:List (ByteArray×Int×Ty):=[(n_h,1,tH),(n_g,1,t0),(n_f,1,tB),(n_gross,5,tM),(n_time,5,tH),(n_w,2,tR),(n_s,2,t0),(n_r1,3,tR),(n_r2,3,tM),(n_r3,3,tB),(n_r4,3,t0),(n_a,4,t0),(n_b,4,t0)]
def neds:List ByteArray:=[n_h,n_g,n_f,n_gross,n_time,n_w,n_s,n_r1,n_r2,n_r3,n_r4,n_a]
def rhoD (wild:Bool) (nm:ByteArray):Int:=if wild=true then 5 else rank nm
def KS:List (ByteArray×Int):=[(n_h,0),(n_g,0),(n_f,0),(n_gross,0),(n_time,0),(n_w,20454),(n_s,20454),(n_w,20459),(n_r1,20454),(n_r1,20459),(n_r2,20454),(n_r2,20459),(n_r3,20454),(n_r3,20459),(n_r4,20454),(n_r4,20459),(n_a,20454),(n_b,20454)]
def keyD (d:Df):ByteArray×Int:=(d.nm,d.day)
structure GD (wild:Bool) (hh:Nat) (d:Df):Prop where
  tab:(d.nm,d.kind,d.ty) ∈ tabL
  df:defS d=true
  bd:BdD d
  wt:d.kind=3∨d.kind=4→EOk (rhoD wild d.nm) hh (tyD d) d.body
  dy:d.kind=3→d.day=20454∨d.day=20459
structure AGood (wild:Bool) (hh:Nat) (l:List Df):Prop where
  all:∀ d,d ∈ l→GD wild hh d
  key:(l.map fun d=>(d.nm.toList,d.day)).Nodup
  has:∀ n,n ∈ neds→n ∈ l.map Df.nm
  len:l.length≤30
  ks:∀ d,d ∈ l→keyD d ∈ KS
theorem ba_loop (bs:ByteArray):∀ k i r,bs.size - i=k→ByteArray.toList.loop bs i r=r.reverse ++ bs.data.toList.drop i:=by
  intro k
  induction k with
  | zero =>
    intro i r h
    rw [ByteArray.toList.loop,if_neg (by omega),List.drop_eq_nil_of_le (by simp only [Array.length_toList];show bs.data.size≤i;have:bs.size=bs.data.size:=rfl;omega)]
    simp
  | succ k ih =>
    intro i r h
    rw [ByteArray.toList.loop,if_pos (by omega),ih _ _ (by omega)]
    have hi:i < bs.data.toList.length:=by simp only [Array.length_toList];have:bs.size=bs.data.size:=rfl;omega
    rw [List.drop_eq_getElem_cons hi]
    simp only [List.reverse_cons,List.append_assoc,List.singleton_append]
    congr 2
    have hi2:i < bs.data.size:=by simpa using hi
    show bs.data[i]! = _
    rw [getElem!_pos bs.data i hi2];simp
theorem ba_eq {a b:ByteArray} (h:a.toList=b.toList):a=b:=by
  unfold ByteArray.toList at h
  rw [ba_loop _ _ 0 [] rfl,ba_loop _ _ 0 [] rfl] at h
  simp at h
  cases a;cases b
  simp only at h
  rw [h]
theorem mm {P:Prop} (h:P:=by (first|unfold tabL|unfold neds);repeat' (first|exact List.Mem.head _|refine List.Mem.tail _ ?_)):P:=h
theorem lF_take {l:List Df} {n:Nat} (hn:n < l.length):lF dD l n=l[n]:=by unfold lF;rw [List.getD_eq_getElem?_getD,List.getElem?_eq_getElem hn];rfl
theorem AGood.perm {wild:Bool} {hh:Nat} {l l' : List Df} (h:AGood wild hh l) (hp:l.Perm l'):AGood wild hh l' :=
  ⟨fun d hd=>h.all d (hp.mem_iff.2 hd),(hp.map _).nodup_iff.1 h.key,fun n hn=>(hp.map _).mem_iff.1 (h.has n hn),by rw [← hp.length_eq];exact h.len,fun d hd=>h.ks d (hp.mem_iff.2 hd)⟩
end Go.Proofs.YtcefhgomkehokaaGreat
namespace Go.Proofs.YtcefhgomkehokaaGreat
theorem pop_unguard {G:Pg2} {N:Nat} {Γ:Fr} {st:PSt} {K:Exit→PSt→Prop} {ops:Array Oper} {o:Oper} {rest:List Oper} {j:Nat} {want:Bool} (hg:o.guard=some (j,want)) (hgv:gval ops st j want=some true) (h:POps G.toPg N Γ ops ({ o with guard:=none } :: rest) st K):POps G.toPg N Γ ops (o :: rest) st K:=.mk fun ρ I a w hrel=>by
  have hw:=gval_sound hrel hg hgv
  have h2:=h.go ρ I a w hrel
  have hw2:Region.wanted { o with guard:=none } (yielded ops a.tmps)=true:=by simp [Region.wanted]
  simp only [wpList,hw2,hw,if_true] at h2 ⊢
  exact h2
theorem pop_opt {G:Pg2} {N:Nat} {Γ:Fr} {st:PSt} {K:Exit→PSt→Prop} {ops:Array Oper} {l:List Oper} (t:Nat) {g:Bool} {q:PV} (ht:st.get t=.opt g q) (hg:g=true) (h:POps G.toPg N Γ ops l (st.put t q) K):POps G.toPg N Γ ops l st K:=.mk fun ρ I a w hrel=>h.go ρ I a w ⟨hrel.fr,hrel.defers,hrel.size,fun s=>by
  have hs:=hrel.slot s
  show VRel _ ρ I w (look s ((t,q) :: st.tm)) _
  simp only [look]
  cases hb:Nat.beq s t
  · exact hs
  · have e:=Nat.eq_of_beq_eq_true hb
    subst e
    rw [ht] at hs
    exact hs.1 hg⟩
theorem number_c:PureC G.P 22 [] (fun r=>r=vT t0):=by
  refine pure_of (G:=G.toPg) (fn:=Tryz.f22) Tryz.func22 rfl rfl rfl ?_;intro Γ hk
  repeat' (first|refine gg ?_|exact trivial|with_reducible refine wA ?_ ?_|refine Y2.mk ?_ ?_|refine gh ?_|exact qq|fail)
  exact kretv rfl ⟨Nat.zero_lt_one,trivial⟩ rfl rfl
theorem money_c:PureC G.P 19 [] (fun r=>r=vT tM):=by
  refine pure_of (G:=G.toPg) (fn:=Tryz.f19) Tryz.func19 rfl rfl rfl ?_;intro Γ hk
  repeat' (first|refine gg ?_|exact trivial|with_reducible refine wA ?_ ?_|refine Y2.mk ?_ ?_|refine gh ?_|exact qq|fail)
  exact kretv rfl ⟨Nat.zero_lt_one,trivial⟩ rfl rfl
theorem hours_c:PureC G.P 17 [] (fun r=>r=vT tH):=by
  refine pure_of (G:=G.toPg) (fn:=Tryz.f17) Tryz.func17 rfl rfl rfl ?_;intro Γ hk
  repeat' (first|refine gg ?_|exact trivial|with_reducible refine wA ?_ ?_|refine Y2.mk ?_ ?_|refine gh ?_|exact qq|fail)
  exact kretv rfl ⟨Nat.zero_lt_one,trivial⟩ rfl rfl
theorem rate_c:PureC G.P 21 [] (fun r=>r=vT tR):=by
  refine pure_of (G:=G.toPg) (fn:=Tryz.f21) Tryz.func21 rfl rfl rfl ?_;intro Γ hk
  repeat' (first|refine gg ?_|exact trivial|with_reducible refine wA ?_ ?_|refine Y2.mk ?_ ?_|refine gh ?_|exact qq|fail)
  exact kretv rfl ⟨Nat.zero_lt_one,trivial⟩ rfl rfl
theorem truth_c:PureC G.P 18 [] (fun r=>r=vT tB):=by
  refine pure_of (G:=G.toPg) (fn:=Tryz.f18) Tryz.func18 rfl rfl rfl ?_;intro Γ hk
  repeat' (first|refine gg ?_|exact trivial|with_reducible refine wA ?_ ?_|refine Y2.mk ?_ ?_|refine gh ?_|exact qq|fail)
  exact kretv rfl ⟨Nat.zero_lt_one,trivial⟩ rfl rfl
theorem argAggL {mem:List Row} {L:List Nat} {n:Nat} {f g:Nat→PV} (h:∀ i,i < n→ArgOk mem L (f i) (g i)):ArgOk mem L (.agg n f) (.agg n g):=by
  rintro ρ I w v hm ⟨vs,h1,h2,h3⟩
  exact ⟨vs,h1,h2,fun i hi=>⟨(h3 i hi).1,h i hi ρ I w _ hm (h3 i hi).2⟩⟩
theorem argEx {mem : List Row} {L : List Nat} {op vn vd um uh ud : Int} {nm : ByteArray} {cnt mode : Int} {nk : Nat} {kf : Nat → Ex} {p : PV} (h : ArgOk mem L p (.vsl nk 10 (Ex.mk op vn vd um uh ud nm cnt mode nk kf).kc)) :
    ArgOk mem L (.agg 10 (nthP [vi op,vi vn,vi vd,vi um,vi uh,vi ud,vs nm,vi cnt,vi mode,p])) (vX (.mk op vn vd um uh ud nm cnt mode nk kf)) :=
  argAggL fun i hi=>by
    rcases (by omega:i=0∨i=1∨i=2∨i=3∨i=4∨i=5∨i=6∨i=7∨i=8∨i=9) with rfl|rfl|rfl|rfl|rfl|rfl|rfl|rfl|rfl|rfl
    all_goals first
      | exact h
      | exact argVal
theorem c10 {y:Nat} (h:y < 10):y=0∨y=1∨y=2∨y=3∨y=4∨y=5∨y=6∨y=7∨y=8∨y=9:=by omega
theorem argK1 {mem:List Row} {L:List Nat} {l:Nat} {a:Ex} {op vn vd um uh ud:Int} {nm:ByteArray} {cnt mode:Int} (hr:rowAt mem l=some ⟨.own,false,1,10,fun x y=>nthP (cX a) (x * 10+y)⟩) (hL:l ∈ L):ArgOk mem L (.lsl l 0 1) (.vsl 1 10 (Ex.mk op vn vd um uh ud nm cnt mode 1 (k1 a)).kc) :=
  argLsl (r:=⟨.own,false,1,10,_⟩) hr trivial hL (by simp) fun x hx y hy=>⟨by
    obtain rfl:x=0:=by omega
    rcases c10 hy with rfl|rfl|rfl|rfl|rfl|rfl|rfl|rfl|rfl|rfl<;>rfl,tF_cl cX_cl (k1 a) x y⟩
theorem argK2 {mem:List Row} {L:List Nat} {l:Nat} {a b:Ex} {op vn vd um uh ud:Int} {nm:ByteArray} {cnt mode:Int} (hr:rowAt mem l=some ⟨.own,false,2,10,fun x y=>nthP (cX a ++ cX b) (x * 10+y)⟩) (hL:l ∈ L):ArgOk mem L (.lsl l 0 2) (.vsl 2 10 (Ex.mk op vn vd um uh ud nm cnt mode 2 (k2 a b)).kc) :=
  argLsl (r:=⟨.own,false,2,10,_⟩) hr trivial hL (by simp) fun x hx y hy=>⟨by
    rcases (by omega:x=0∨x=1) with rfl|rfl<;>rcases c10 hy with rfl|rfl|rfl|rfl|rfl|rfl|rfl|rfl|rfl|rfl<;>rfl,tF_cl cX_cl (k2 a b) x y⟩
theorem argK3 {mem:List Row} {L:List Nat} {l:Nat} {a b c:Ex} {op vn vd um uh ud:Int} {nm:ByteArray} {cnt mode:Int} (hr:rowAt mem l=some ⟨.own,false,3,10,fun x y=>nthP (cX a ++ (cX b ++ cX c)) (x * 10+y)⟩) (hL:l ∈ L):ArgOk mem L (.lsl l 0 3) (.vsl 3 10 (Ex.mk op vn vd um uh ud nm cnt mode 3 (k3 a b c)).kc) :=
  argLsl (r:=⟨.own,false,3,10,_⟩) hr trivial hL (by simp) fun x hx y hy=>⟨by
    rcases (by omega:x=0∨x=1∨x=2) with rfl|rfl|rfl<;>rcases c10 hy with rfl|rfl|rfl|rfl|rfl|rfl|rfl|rfl|rfl|rfl<;>rfl,tF_cl cX_cl (k3 a b c) x y⟩
theorem two_c (op:Int) (a b:Ex):PureC G.P 45 [vi op,vX a,vX b] (fun r=>r=vX (eOp op 2 (k2 a b))):=by
  refine pure_of (G:=G.toPg) (fn:=Tryz.f45) Tryz.func45 rfl rfl rfl ?_;intro Γ hk
  repeat' (first|refine gg ?_|exact trivial|with_reducible refine wA ?_ ?_|refine Y2.mk ?_ ?_|refine gh ?_|exact qq|fail)
  refine xdone ?_
  exact kret [3] rfl ⟨Nat.zero_lt_one,trivial⟩ (qs:=[vX (eOp op 2 (k2 a b))]) ⟨argEx (argK2 rfl (List.Mem.head _)),trivial⟩ rfl
theorem split10 {x:Int} (h0:0≤x) (h1:x < 10∨x=0):x=0∨x=1∨x=2∨x=3∨x=4∨x=5∨x=6∨x=7∨x=8∨x=9:=by omega
theorem decimal_t:TapC G.P 27 [] (fun r=>∃ x:Int×Int,r=vr x.1 x.2∧x ∈ decL):=by
  intro n g at_ hn h1 h2
  refine ptr_of (G:=G.toPg) (fn:=Tryz.f27) Tryz.func27 rfl rfl rfl ?_;intro Γ hk
  repeat' (first|refine gg ?_|exact trivial|with_reducible refine wA ?_ ?_|refine Y2.mk ?_ ?_|(refine tn1 hn ?_;rintro at_ b1 b2 x hx1 hx2)|refine gh ?_|exact qq|fail)
  rcases split10 hx1 hx2 with rfl|rfl|rfl|rfl|rfl|rfl|rfl|rfl|rfl|rfl
  all_goals
    repeat' (first|refine gg ?_|exact trivial|with_reducible refine wA ?_ ?_|refine Y2.mk ?_ ?_|refine gh ?_|exact qq|fail)
    refine xdone ?_
  · exact ktap rfl b1 b2 rfl ⟨Nat.zero_lt_one,trivial⟩ rfl ⟨(1,1),rfl,by simp [decL]⟩
  · exact ktap rfl b1 b2 rfl ⟨Nat.zero_lt_one,trivial⟩ rfl ⟨(2,1),rfl,by simp [decL]⟩
  · exact ktap rfl b1 b2 rfl ⟨Nat.zero_lt_one,trivial⟩ rfl ⟨(0,1),rfl,by simp [decL]⟩
  · exact ktap rfl b1 b2 rfl ⟨Nat.zero_lt_one,trivial⟩ rfl ⟨(5,2),rfl,by simp [decL]⟩
  · exact ktap rfl b1 b2 rfl ⟨Nat.zero_lt_one,trivial⟩ rfl ⟨(1,4),rfl,by simp [decL]⟩
  · exact ktap rfl b1 b2 rfl ⟨Nat.zero_lt_one,trivial⟩ rfl ⟨(76,5),rfl,by simp [decL]⟩
  · exact ktap rfl b1 b2 rfl ⟨Nat.zero_lt_one,trivial⟩ rfl ⟨(40,1),rfl,by simp [decL]⟩
  · exact ktap rfl b1 b2 rfl ⟨Nat.zero_lt_one,trivial⟩ rfl ⟨(1,100),rfl,by simp [decL]⟩
  · exact ktap rfl b1 b2 rfl ⟨Nat.zero_lt_one,trivial⟩ rfl ⟨(3,1),rfl,by simp [decL]⟩
  · exact ktap rfl b1 b2 rfl ⟨Nat.zero_lt_one,trivial⟩ rfl ⟨(100,1),rfl,by simp [decL]⟩
set_option maxHeartbeats 4000000 in
theorem leaf_number_t (rules:Int):TapC G.P 44 [vT t0,vi rules] (fun r=>∃ e,r=vX e∧EOk rules 1 t0 e):=by
  intro n g at_ hn h1 h2
  refine ptr_of (G:=G.toPg) (fn:=Tryz.f44) Tryz.func44 rfl rfl rfl ?_;intro Γ hk
  repeat' (first|refine gg ?_|exact trivial|with_reducible refine wA ?_ ?_|refine Y2.mk ?_ ?_|refine xs_start (id:=28) true [.take 0,.take 2,.take 3,.one 1,.take 4,.one 5] 0 rfl rfl (by kernel_rfl) ?_|(refine pop_opt 88 rfl rfl ?_)|(refine pop_unguard rfl rfl ?_)|(refine pop_gfalse rfl rfl rfl rfl ?_)|(refine tn1 hn ?_;rintro at_ b1 b2 x hx1 hx2)|(refine pop_tapl (G:=G) rfl rfl rfl rfl rfl rfl rfl rfl rfl rfl rfl (by omega) rfl (fun _=>rfl) rfl (pick_t _ _ rfl (by decide) (by decide)) hn (by assumption) (by assumption) ?_;rintro at_ _ b1 b2 ⟨x,rfl,hx⟩;simp only [unL,List.mem_cons,List.not_mem_nil,or_false] at hx)|(refine xs_one (ch:=[_]) rfl rfl rfl (pz decimal_t hn ?_);rintro at_ _ b1 b2 ⟨dx,rfl,hdx⟩)|refine zz number_c ?_|refine zz money_c ?_|refine zz hours_c ?_|refine zz rate_c ?_|refine zz truth_c ?_|refine gh ?_|(refine pcond rfl ?_ ?_<;>intro hc)|exact qq|fail)
  all_goals first
    | (refine xdone ?_;refine ktapL [] (qs:=[vX (.mk _ _ _ _ _ _ _ _ _ 0 kn)]) rfl b1 b2 (by simp) rfl ⟨Nat.zero_lt_one,trivial⟩ ⟨argEx argNil,trivial⟩ ⟨_,rfl,?_⟩;first|exact ok_name (by decide +kernel) (by decide) (fun N S P hE=>hE.g) rk_g|exact ok_name (by decide +kernel) (by decide) (fun N S P hE=>hE.r4) (rk_r4 (by assumption))|exact ok_num hdx (by decide))
    | skip
  all_goals rcases (by omega:x=0∨x=1) with rfl|rfl
  all_goals first
    | (exfalso;omega)
    | skip
  all_goals
    repeat' (first|refine gg ?_|exact trivial|with_reducible refine wA ?_ ?_|refine Y2.mk ?_ ?_|refine gh ?_|exact qq|fail)
    refine xdone ?_;refine ktapL [] (qs:=[vX (.mk _ _ _ _ _ _ _ _ _ 0 kn)]) rfl b1 b2 (by simp) rfl ⟨Nat.zero_lt_one,trivial⟩ ⟨argEx argNil,trivial⟩ ⟨_,rfl,?_⟩;first|exact ok_name (by decide +kernel) (by decide) (fun N S P hE=>hE.g) rk_g|exact ok_name (by decide +kernel) (by decide) (fun N S P hE=>hE.r4) (rk_r4 (by assumption))|exact ok_num hdx (by decide)
set_option maxHeartbeats 4000000 in
theorem leaf_money_t (rules:Int):TapC G.P 44 [vT tM,vi rules] (fun r=>∃ e,r=vX e∧EOk rules 1 tM e):=by
  intro n g at_ hn h1 h2
  refine ptr_of (G:=G.toPg) (fn:=Tryz.f44) Tryz.func44 rfl rfl rfl ?_;intro Γ hk
  repeat' (first|refine gg ?_|exact trivial|with_reducible refine wA ?_ ?_|refine Y2.mk ?_ ?_|refine xs_start (id:=28) true [.take 0,.take 2,.take 3,.one 1,.take 4,.one 5] 0 rfl rfl (by kernel_rfl) ?_|(refine pop_opt 88 rfl rfl ?_)|(refine pop_unguard rfl rfl ?_)|(refine pop_gfalse rfl rfl rfl rfl ?_)|(refine tn1 hn ?_;rintro at_ b1 b2 x hx1 hx2)|(refine pop_tapl (G:=G) rfl rfl rfl rfl rfl rfl rfl rfl rfl rfl rfl (by omega) rfl (fun _=>rfl) rfl (pick_t _ _ rfl (by decide) (by decide)) hn (by assumption) (by assumption) ?_;rintro at_ _ b1 b2 ⟨x,rfl,hx⟩;simp only [unL,List.mem_cons,List.not_mem_nil,or_false] at hx)|(refine xs_one (ch:=[_]) rfl rfl rfl (pz decimal_t hn ?_);rintro at_ _ b1 b2 ⟨dx,rfl,hdx⟩)|refine zz number_c ?_|refine zz money_c ?_|refine zz hours_c ?_|refine zz rate_c ?_|refine zz truth_c ?_|refine gh ?_|(refine pcond rfl ?_ ?_<;>intro hc)|exact qq|fail)
  all_goals first
    | (refine xdone ?_;refine ktapL [] (qs:=[vX (.mk _ _ _ _ _ _ _ _ _ 0 kn)]) rfl b1 b2 (by simp) rfl ⟨Nat.zero_lt_one,trivial⟩ ⟨argEx argNil,trivial⟩ ⟨_,rfl,?_⟩;first|exact ok_name (by decide +kernel) (by decide) (fun N S P hE=>hE.r2) (rk_r2 (by assumption))|exact ok_name (by decide +kernel) (by decide) (fun N S P hE=>hE.a) (rk_a (by assumption))|exact ok_num hdx (by decide)|exact ok_past (by assumption) (by decide +kernel) (by decide) (by rw [w64 (by omega) (by omega)];omega) (fun N S P hE=>hE.gross))
    | skip
  all_goals rcases (by omega:x=0∨x=1) with rfl|rfl
  all_goals first
    | (exfalso;omega)
    | skip
  all_goals
    repeat' (first|refine gg ?_|exact trivial|with_reducible refine wA ?_ ?_|refine Y2.mk ?_ ?_|refine gh ?_|exact qq|fail)
    refine xdone ?_;refine ktapL [] (qs:=[vX (.mk _ _ _ _ _ _ _ _ _ 0 kn)]) rfl b1 b2 (by simp) rfl ⟨Nat.zero_lt_one,trivial⟩ ⟨argEx argNil,trivial⟩ ⟨_,rfl,?_⟩;first|exact ok_name (by decide +kernel) (by decide) (fun N S P hE=>hE.r2) (rk_r2 (by assumption))|exact ok_name (by decide +kernel) (by decide) (fun N S P hE=>hE.a) (rk_a (by assumption))|exact ok_num hdx (by decide)|exact ok_past (by assumption) (by decide +kernel) (by decide) (by rw [w64 (by omega) (by omega)];omega) (fun N S P hE=>hE.gross)
set_option maxHeartbeats 4000000 in
theorem leaf_hours_t (rules:Int):TapC G.P 44 [vT tH,vi rules] (fun r=>∃ e,r=vX e∧EOk rules 1 tH e):=by
  intro n g at_ hn h1 h2
  refine ptr_of (G:=G.toPg) (fn:=Tryz.f44) Tryz.func44 rfl rfl rfl ?_;intro Γ hk
  repeat' (first|refine gg ?_|exact trivial|with_reducible refine wA ?_ ?_|refine Y2.mk ?_ ?_|refine xs_start (id:=28) true [.take 0,.take 2,.take 3,.one 1,.take 4,.one 5] 0 rfl rfl (by kernel_rfl) ?_|(refine pop_opt 88 rfl rfl ?_)|(refine pop_unguard rfl rfl ?_)|(refine pop_gfalse rfl rfl rfl rfl ?_)|(refine tn1 hn ?_;rintro at_ b1 b2 x hx1 hx2)|(refine pop_tapl (G:=G) rfl rfl rfl rfl rfl rfl rfl rfl rfl rfl rfl (by omega) rfl (fun _=>rfl) rfl (pick_t _ _ rfl (by decide) (by decide)) hn (by assumption) (by assumption) ?_;rintro at_ _ b1 b2 ⟨x,rfl,hx⟩;simp only [unL,List.mem_cons,List.not_mem_nil,or_false] at hx)|(refine xs_one (ch:=[_]) rfl rfl rfl (pz decimal_t hn ?_);rintro at_ _ b1 b2 ⟨dx,rfl,hdx⟩)|refine zz number_c ?_|refine zz money_c ?_|refine zz hours_c ?_|refine zz rate_c ?_|refine zz truth_c ?_|refine gh ?_|(refine pcond rfl ?_ ?_<;>intro hc)|exact qq|fail)
  all_goals first
    | (refine xdone ?_;refine ktapL [] (qs:=[vX (.mk _ _ _ _ _ _ _ _ _ 0 kn)]) rfl b1 b2 (by simp) rfl ⟨Nat.zero_lt_one,trivial⟩ ⟨argEx argNil,trivial⟩ ⟨_,rfl,?_⟩;first|exact ok_name (by decide +kernel) (by decide) (fun N S P hE=>hE.h) rk_h|exact ok_num hdx (by decide)|exact ok_past (by assumption) (by decide +kernel) (by decide) (by rw [w64 (by omega) (by omega)];omega) (fun N S P hE=>hE.time))
    | skip
  all_goals rcases (by omega:x=0∨x=1) with rfl|rfl
  all_goals first
    | (exfalso;omega)
    | skip
  all_goals
    repeat' (first|refine gg ?_|exact trivial|with_reducible refine wA ?_ ?_|refine Y2.mk ?_ ?_|refine gh ?_|exact qq|fail)
    refine xdone ?_;refine ktapL [] (qs:=[vX (.mk _ _ _ _ _ _ _ _ _ 0 kn)]) rfl b1 b2 (by simp) rfl ⟨Nat.zero_lt_one,trivial⟩ ⟨argEx argNil,trivial⟩ ⟨_,rfl,?_⟩;first|exact ok_name (by decide +kernel) (by decide) (fun N S P hE=>hE.h) rk_h|exact ok_num hdx (by decide)|exact ok_past (by assumption) (by decide +kernel) (by decide) (by rw [w64 (by omega) (by omega)];omega) (fun N S P hE=>hE.time)
set_option maxHeartbeats 4000000 in
theorem leaf_rate_t (rules:Int):TapC G.P 44 [vT tR,vi rules] (fun r=>∃ e,r=vX e∧EOk rules 1 tR e):=by
  intro n g at_ hn h1 h2
  refine ptr_of (G:=G.toPg) (fn:=Tryz.f44) Tryz.func44 rfl rfl rfl ?_;intro Γ hk
  repeat' (first|refine gg ?_|exact trivial|with_reducible refine wA ?_ ?_|refine Y2.mk ?_ ?_|refine xs_start (id:=28) true [.take 0,.take 2,.take 3,.one 1,.take 4,.one 5] 0 rfl rfl (by kernel_rfl) ?_|(refine pop_opt 88 rfl rfl ?_)|(refine pop_unguard rfl rfl ?_)|(refine pop_gfalse rfl rfl rfl rfl ?_)|(refine tn1 hn ?_;rintro at_ b1 b2 x hx1 hx2)|(refine pop_tapl (G:=G) rfl rfl rfl rfl rfl rfl rfl rfl rfl rfl rfl (by omega) rfl (fun _=>rfl) rfl (pick_t _ _ rfl (by decide) (by decide)) hn (by assumption) (by assumption) ?_;rintro at_ _ b1 b2 ⟨x,rfl,hx⟩;simp only [unL,List.mem_cons,List.not_mem_nil,or_false] at hx)|(refine xs_one (ch:=[_]) rfl rfl rfl (pz decimal_t hn ?_);rintro at_ _ b1 b2 ⟨dx,rfl,hdx⟩)|refine zz number_c ?_|refine zz money_c ?_|refine zz hours_c ?_|refine zz rate_c ?_|refine zz truth_c ?_|refine gh ?_|(refine pcond rfl ?_ ?_<;>intro hc)|exact qq|fail)
  all_goals first
    | (refine xdone ?_;refine ktapL [] (qs:=[vX (.mk _ _ _ _ _ _ _ _ _ 0 kn)]) rfl b1 b2 (by simp) rfl ⟨Nat.zero_lt_one,trivial⟩ ⟨argEx argNil,trivial⟩ ⟨_,rfl,?_⟩;first|exact ok_name (by decide +kernel) (by decide) (fun N S P hE=>hE.r1) (rk_r1 (by assumption))|exact ok_num hdx (by decide))
    | skip
  all_goals rcases (by omega:x=0∨x=1) with rfl|rfl
  all_goals first
    | (exfalso;omega)
    | skip
  all_goals
    repeat' (first|refine gg ?_|exact trivial|with_reducible refine wA ?_ ?_|refine Y2.mk ?_ ?_|refine gh ?_|exact qq|fail)
    refine xdone ?_;refine ktapL [] (qs:=[vX (.mk _ _ _ _ _ _ _ _ _ 0 kn)]) rfl b1 b2 (by simp) rfl ⟨Nat.zero_lt_one,trivial⟩ ⟨argEx argNil,trivial⟩ ⟨_,rfl,?_⟩;first|exact ok_name (by decide +kernel) (by decide) (fun N S P hE=>hE.r1) (rk_r1 (by assumption))|exact ok_num hdx (by decide)
set_option maxHeartbeats 4000000 in
theorem leaf_truth_t (rules:Int):TapC G.P 44 [vT tB,vi rules] (fun r=>∃ e,r=vX e∧EOk rules 1 tB e):=by
  intro n g at_ hn h1 h2
  refine ptr_of (G:=G.toPg) (fn:=Tryz.f44) Tryz.func44 rfl rfl rfl ?_;intro Γ hk
  repeat' (first|refine gg ?_|exact trivial|with_reducible refine wA ?_ ?_|refine Y2.mk ?_ ?_|refine xs_start (id:=28) true [.take 0,.take 2,.take 3,.one 1,.take 4,.one 5] 0 rfl rfl (by kernel_rfl) ?_|(refine pop_opt 88 rfl rfl ?_)|(refine pop_unguard rfl rfl ?_)|(refine pop_gfalse rfl rfl rfl rfl ?_)|(refine tn1 hn ?_;rintro at_ b1 b2 x hx1 hx2)|(refine pop_tapl (G:=G) rfl rfl rfl rfl rfl rfl rfl rfl rfl rfl rfl (by omega) rfl (fun _=>rfl) rfl (pick_t _ _ rfl (by decide) (by decide)) hn (by assumption) (by assumption) ?_;rintro at_ _ b1 b2 ⟨x,rfl,hx⟩;simp only [unL,List.mem_cons,List.not_mem_nil,or_false] at hx)|(refine xs_one (ch:=[_]) rfl rfl rfl (pz decimal_t hn ?_);rintro at_ _ b1 b2 ⟨dx,rfl,hdx⟩)|refine zz number_c ?_|refine zz money_c ?_|refine zz hours_c ?_|refine zz rate_c ?_|refine zz truth_c ?_|refine gh ?_|(refine pcond rfl ?_ ?_<;>intro hc)|exact qq|fail)
  all_goals first
    | (refine xdone ?_;refine ktapL [] (qs:=[vX (.mk _ _ _ _ _ _ _ _ _ 0 kn)]) rfl b1 b2 (by simp) rfl ⟨Nat.zero_lt_one,trivial⟩ ⟨argEx argNil,trivial⟩ ⟨_,rfl,?_⟩;first|exact ok_name (by decide +kernel) (by decide) (fun N S P hE=>hE.f) rk_f|exact ok_name (by decide +kernel) (by decide) (fun N S P hE=>hE.r3) (rk_r3 (by assumption))|exact ok_truth (by omega))
    | skip
  all_goals rcases (by omega:x=0∨x=1) with rfl|rfl
  all_goals first
    | (exfalso;omega)
    | skip
  all_goals
    repeat' (first|refine gg ?_|exact trivial|with_reducible refine wA ?_ ?_|refine Y2.mk ?_ ?_|refine gh ?_|exact qq|fail)
    refine xdone ?_;refine ktapL [] (qs:=[vX (.mk _ _ _ _ _ _ _ _ _ 0 kn)]) rfl b1 b2 (by simp) rfl ⟨Nat.zero_lt_one,trivial⟩ ⟨argEx argNil,trivial⟩ ⟨_,rfl,?_⟩;first|exact ok_name (by decide +kernel) (by decide) (fun N S P hE=>hE.f) rk_f|exact ok_name (by decide +kernel) (by decide) (fun N S P hE=>hE.r3) (rk_r3 (by assumption))|exact ok_truth (by omega)
end Go.Proofs.YtcefhgomkehokaaGreat
namespace Go.Proofs.YtcefhgomkehokaaGreat
open Go.MapKept
/-! ### a map that the last operation of a drawn region writes -/
structure LStep (G:Pg2) (N:Nat) (Γ:Fr) (ops:Array Oper) (o:Oper) (st:PSt) (K' : PSt→Prop):Prop where
  go:∀ ρ I a w,Rel N Γ st ρ I a w→∀ Q:Exit→Act→World→Prop,Region.wanted o (yielded ops a.tmps)=true∧o.wp G.P a w (fun a' w'=>∃ st' ρ' I',K' st'∧Rel N Γ st' ρ' I' a' w') Q
section
variable {G:Pg2} {N:Nat} {Γ:Fr} {st:PSt} {K:Exit→PSt→Prop} {ops:Array Oper} {o:Oper} {H:List Nat} {ni:Bool} {fuel m:Nat} {listed ls:Array Bool}
theorem pe_lastS {i:Nat} (hready:Region.ready .any ops listed=[i]) (hlast:lastB ops i=true) (hi:ops[i]?=some o) (hnil:Region.ready .any ops (listed.setIfInBounds i true)=[]) (hstep:LStep G N Γ ops o st (fun st'=>K .normal st')):PE G N Γ ops H ni (fuel+1) listed st K:=.mk fun HB w1 ρ I a w hrel hinv=>by
  have fin:∀ (fuel:Nat) (a' : Act) (w'' : World),Qf N Γ K .normal a' w''→wpAnyE G.P ops (Qf N Γ K) (SHB HB w1) fuel (listed.setIfInBounds i true) a' w''
    | 0,_,_,h=>⟨hnil,h⟩
    | _+1,_,_,h=>⟨fun _=>h,fun j hj=>by rw [hnil] at hj;cases hj⟩
  refine ⟨fun h0=>(by rw [hready] at h0;cases h0),fun j hj=>?_⟩
  obtain rfl:j=i:=by rw [hready] at hj;simpa using hj
  unfold wpOp
  simp only [hi]
  obtain ⟨hw,hs⟩:=hstep.go ρ I a w hrel (Qf N Γ K)
  rw [if_pos hw]
  refine .inl (Oper.wp_mono (fun a' w'=>?_) hs)
  rintro ⟨st',ρ',I',hk,hrel'⟩ w'' hx
  exact ⟨fun h=>(by rw [hlast] at h;cases h),fin _ _ _ ⟨by simp,st',ρ',I',hk,hrel'.ext hx (I':=I') (fun _ h=>h) (fun _ h=>.inl h)⟩⟩
theorem xs_lastS {i:Nat} (hlast:lastB ops i=true) (hi:opAt ops.toList i=some o) (h:LStep G N Γ ops o st (fun st'=>K .normal st')):PS G N Γ ops H ni true [.one i] m ls st K:=⟨fun hs hok=>by
  simp only [schOk,Bool.and_eq_true,beq_iff_eq,Bool.not_true,Bool.false_or] at hok
  have:schLen [SK.one i]+m=m+1:=by show 0+1+m=m+1;omega
  rw [this]
  exact pe_lastS hok.1 hlast (opAt_ops hi) (by simpa using hok.2) h⟩
end
section
variable {G:Pg2} {N:Nat} {Γ:Fr} {st:PSt} {K' : PSt→Prop} {ops:Array Oper} {o:Oper} {l:Nat} {KT:Type} [DecidableEq KT] {kv:KT→Value} {t:TypeId} {x y z:Operand} {m:List (KT×Int)}
theorem ls_msetB (M : MapTB G.P t kv) (kk : KT) (v : Int) (hg : o.guard = none) (hd : o.dst = none) (ho : o.op = .mapUpdate t x y z) (hx : st.ev x = .mref l) (hy : st.ev y = .val (kv kk)) (hz : st.ev z = .val (bV v)) (hr : rowAt st.mem l = some (mRowB kv m)) (hk : Γ.k0 ≤ l) (hni : noIt st.mem = true) {m' : List Row}
    (hm:setM st.mem l (mRowB kv (mset m kk v)) some=some m') (h:K' ⟨st.tm,m'⟩):LStep G N Γ ops o st K':=.mk fun ρ I a w hrel Q=>by
  have hw:Region.wanted o (yielded ops a.tmps)=true:=by simp [Region.wanted,hg]
  refine ⟨hw,?_⟩
  rw [rowAt_get] at hr
  rw [setM_eq] at hm
  simp only [Option.some.injEq] at hm
  subst hm
  have hxv:=ev_rel hrel x
  rw [hx] at hxv
  obtain ⟨_,hxv⟩:=hxv
  have hyv:=ev_rel hrel y
  rw [hy] at hyv
  have hyv:a.eval y=kv kk:=hyv
  have hzv:=ev_rel hrel z
  rw [hz] at hzv
  have hzv:a.eval z=bV v:=hzv
  obtain ⟨_,_,hs⟩:=hrel.fr.m.side l _ hr rfl
  obtain ⟨es,clock,q1,q2,q3⟩:=(hs Nat.zero_lt_one).1 rfl
  obtain ⟨es',clock',g1,g2,g3⟩:=run_msetB M q1 (mapV_eqB q3) q2 kk v
  have hv:(execOp a.eval o).run G.P w=.ok .skip { w with heap:=w.heap.setIfInBounds (ρ l).b (.map es' clock') }:=by
    unfold execOp
    rw [ho]
    simp only [hxv,hyv,hzv,Sem.run_bind,g1,Result.andThen,Sem.run_pure]
  simp only [Oper.wp,hv,Oper.upon_skip,hd,Act.put]
  refine ⟨_,ρ,I,h,hrel.setMap hr rfl hk hni (mRowB kv (mset m kk v)) rfl rfl g2 fun k' ρ' w'=>?_⟩
  show mapV es'=mVB kv (mset m kk v)
  have:=congrArg (List.map fun e:Value×Value=>Value.tuple #[e.1,e.2]) g3
  rw [List.map_map,List.map_map] at this
  unfold mapV mVB
  congr 1
  apply Array.ext'
  rw [Array.toList_map]
  exact this
end
/-! ### what is listed -/
def mapIBd:MapTB G.P 90 kI:=⟨3,4,_,Tryz.underlying90,Tryz.underlying3,fun _=>rfl,kI_inj,Tryz.zeroValue4⟩
def lsM (out:List Int):List (Int×Int):=out.map fun x=>(x,1)
theorem lsM_get (out:List Int) (x:Int):(mget (lsM out) x).getD 0=if x ∈ out then 1 else 0:=by
  induction out with
  | nil=>rfl
  | cons y out ih =>
    show (if y=x then some 1 else mget (lsM out) x).getD 0=_
    by_cases h:y=x
    · subst h;rw [if_pos rfl,if_pos (List.mem_cons_self ..)];rfl
    · rw [if_neg h,ih]
      by_cases h2:x ∈ out
      · rw [if_pos h2,if_pos (List.mem_cons_of_mem _ h2)]
      · rw [if_neg h2,if_neg (fun h3=>by rcases List.mem_cons.1 h3 with e|e;exact h e.symm;exact h2 e)]
theorem lsM_b (out:List Int) (x:Int):PV.val (bV ((mget (lsM out) x).getD 0))=vb (decide (x ∈ out)):=by
  rw [lsM_get]
  by_cases h:x ∈ out
  · rw [if_pos h,decide_eq_true h];rfl
  · rw [if_neg h,decide_eq_false h];rfl
theorem lsM_set {out:List Int} {x:Int} (h : ¬ x ∈ out):mset (lsM out) x 1=lsM (out ++ [x]):=by
  rw [mset_none (fun e he=>?_)]
  · unfold lsM;rw [List.map_append];rfl
  · obtain ⟨y,hy,rfl⟩:=List.mem_map.1 he
    exact fun e=>h (e ▸ hy)
def cLis (out:List Int):PV:=.vptr 1 1 (fun _ _=>.vmap (.val (mVB kI (lsM out)))) 0 0
def cGr (N:List Int) (L:List (Int×List Int)):PV:=.vptr 1 2 (fun _=>nthP [sV N,.vmap (cS L)]) 0 0
theorem listed_p (out:List Int):PrdC1 63 (nthP [cLis out]) (fun x=>!decide (x ∈ out)):=⟨trivial,fun x=>by
  refine pure_of (G:=G.toPg) (fn:=Tryz.f63) Tryz.func63 rfl rfl rfl ?_;intro Γ hk
  repeat' (first|refine gg ?_|exact trivial|with_reducible refine wA ?_ ?_|refine Y2.mk ?_ ?_|refine gh ?_|exact qq|fail)
  refine pop_lookvB mapIBd false x rfl rfl rfl rfl rfl rfl ?_
  rw [show (bif false then PV.tup 2 (nthP [.val (bV ((mget (lsM out) x).getD 0)),vb (mget (lsM out) x).isSome]) else .val (bV ((mget (lsM out) x).getD 0)))=vb (decide (x ∈ out)) from lsM_b out x]
  repeat' (first|refine gg ?_|exact trivial|with_reducible refine wA ?_ ?_|refine Y2.mk ?_ ?_|refine gh ?_|exact qq|fail)
  exact kretv rfl ⟨trivial,trivial⟩ rfl rfl⟩
def rdyB (L:List (Int×List Int)) (out:List Int) (x:Int):Bool:=!decide (x ∈ out) && (sget L x).all fun y=>decide (y ∈ out)
theorem any_not {l:List Int} {p:Int→Bool} : l.any (fun y=>!p y)=!l.all p:=by
  induction l with
  | nil=>rfl
  | cons a l ih=>rw [List.any_cons,List.all_cons,ih];cases p a<;>rfl
theorem sget_len {N:List Int} {L:List (Int×List Int)} {n:Nat} (h:∀ e,e ∈ L→e.2.length≤n) (x:Int):(sget L x).length≤n:=by
  unfold sget
  split
  · exact h _ (List.mem_of_find?_eq_some (by assumption))
  · exact Nat.zero_le _
set_option maxHeartbeats 4000000 in
theorem ready_p (N:List Int) (L:List (Int×List Int)) (out:List Int) (hL:∀ e,e ∈ L→e.2.length≤1000000):PrdC 61 (nthP [cLis out,cGr N L]) (rdyB L out):=⟨trivial,trivial,fun x=>by
  have hp:=containsFunc1_c (sget L x) _ _ _ (listed_p out) (Nat.le_trans (sget_len (N:=N) hL x) (by decide))
  rw [any_not] at hp
  refine pure_of (G:=G.toPg) (fn:=Tryz.f61) Tryz.func61 rfl rfl rfl ?_;intro Γ hk
  repeat' (first|refine gg ?_|exact trivial|with_reducible refine wA ?_ ?_|refine Y2.mk ?_ ?_|refine gh ?_|exact qq|fail)
  refine pop_lookvB mapIBd false x rfl rfl rfl rfl rfl rfl ?_
  rw [show (bif false then PV.tup 2 (nthP [.val (bV ((mget (lsM out) x).getD 0)),vb (mget (lsM out) x).isSome]) else .val (bV ((mget (lsM out) x).getD 0)))=vb (decide (x ∈ out)) from lsM_b out x]
  by_cases hx:x ∈ out
  · rw [decide_eq_true hx]
    repeat' (first|refine gg ?_|exact trivial|with_reducible refine wA ?_ ?_|refine Y2.mk ?_ ?_|(refine pop_gfalse rfl rfl rfl rfl ?_)|exact (fun hh=>by cases hh)|refine gh ?_|exact qq|fail)
    refine xdone ?_
    exact kretv rfl ⟨trivial,trivial⟩ rfl (by unfold rdyB;rw [decide_eq_true hx];rfl)
  · rw [decide_eq_false hx]
    repeat' (first|refine gg ?_|exact trivial|with_reducible refine wA ?_ ?_|refine Y2.mk ?_ ?_|refine gh ?_|exact qq|fail)
    refine pop_opt 11 rfl rfl ?_
    refine pop_opt 12 rfl rfl ?_
    refine pop_unguard rfl rfl ?_
    refine pop_lookvS mapIS x rfl rfl rfl rfl rfl rfl ?_
    repeat' (first|refine gg ?_|exact trivial|with_reducible refine wA ?_ ?_|refine Y2.mk ?_ ?_|(refine pop_unguard rfl rfl ?_)|refine gh ?_|exact qq|fail)
    refine pop_opt 14 rfl rfl ?_
    refine pop_call [] rfl rfl rfl rfl rfl hp ⟨argVsl,argCl (listed_p out).cl,trivial⟩ ?_
    rintro _ rfl
    refine ⟨trivial,?_⟩
    repeat' (first|refine gg ?_|exact trivial|with_reducible refine wA ?_ ?_|refine Y2.mk ?_ ?_|refine gh ?_|exact qq|fail)
    refine xdone ?_
    exact kretv rfl ⟨trivial,trivial⟩ rfl (eqB (by unfold rdyB;rw [decide_eq_false hx];simp))⟩
def ordF (N:List Int) (L:List (Int×List Int)):Nat→List Int→List Int×Int
  | 0,out=>(out,0)
  | f+1,out=>match N.find? (rdyB L out) with
    | none=>([],11)
    | some x=>ordF N L f (out ++ [x])
theorem ordF_no {N:List Int} {L:List (Int×List Int)} {f:Nat} {out:List Int} (h:N.find? (rdyB L out)=none):ordF N L (f+1) out=([],11):=by
  rw [ordF,h]
theorem ordF_yes {N:List Int} {L:List (Int×List Int)} {f:Nat} {out:List Int} {x:Int} (h:N.find? (rdyB L out)=some x):ordF N L (f+1) out=ordF N L f (out ++ [x]):=by
  rw [ordF,h]
def cM1 (p:PV):Row:=⟨.own,true,1,1,fun _ _=>p⟩
theorem cM1_eq {τ:Nat→Option Nat} {p:PV} {f:Nat→Nat→PV} (h:PEq ((f 0 0).ren τ) p):RowEq (Row.ren τ ⟨.own,true,1,1,f⟩) (cM1 p):=⟨rfl,rfl,Nat.le_refl _,fun i hi j hj=>by
  have hi:i < 1:=hi
  have hj:j < 1:=hj
  obtain rfl:i=0:=by omega
  obtain rfl:j=0:=by omega
  exact h⟩
set_option maxHeartbeats 8000000 in
theorem order_c (N:List Int) (L:List (Int×List Int)) (hN:N.length≤1000000) (hL:∀ e,e ∈ L→e.2.length≤1000000):PureC G.P 37 [.agg 2 (nthP [sV N,.vmap (cS L)])] (fun r=>r=.tup 2 (nthP [sV (ordF N L N.length []).1,vi (ordF N L N.length []).2])):=by
  refine pure_of (G:=G.toPg) (fn:=Tryz.f37) Tryz.func37 rfl rfl rfl ?_;intro Γ hk
  repeat' (first|refine gg ?_|exact trivial|with_reducible refine wA ?_ ?_|refine Y2.mk ?_ ?_|refine gh ?_|exact qq|fail)
  refine pop_mkmapB kI rfl rfl rfl rfl rfl ?_
  repeat' (first|refine gg ?_|exact trivial|with_reducible refine wA ?_ ?_|refine Y2.mk ?_ ?_|refine gh ?_|exact qq|fail)
  refine pcan ((can_virt (vRow c1 1 0 (lF 0 [])) rfl).trans (can_rowsv [0,1,2,3] (tm:=[(1,.ptr 0 0 0),(4,slP 0 3),(5,.ptr 2 0 0)]) (rows:=[cG (sV N) (.vmap (cS L)),mRowB kI (lsM []),cM1 (.mref 1),vRow c1 1 0 (lF 0 [])]) (k0_sel hk rfl) rfl (.cons rfl (cG_eq (PEq.refl _) (PEq.refl _)) (.cons rfl m_eqB (.cons rfl (cM1_eq (PEq.refl _)) (.cons rfl (RowEq.cl (v_cl c1_cl _ _ _)) .nil)))) tmq)) ?_
  refine ploop (fun q st=>∃ (k:Nat) (out:List Int),out.length=k∧k≤N.length∧ordF N L N.length []=ordF N L (N.length - k) out∧q=N.length - k∧st=⟨[(1,.ptr 0 0 0),(4,slP k 3),(5,.ptr 2 0 0)],[cG (sV N) (.vmap (cS L)),mRowB kI (lsM out),cM1 (.mref 1),vRow c1 1 k (lF 0 out)]⟩) N.length ⟨0,[],rfl,Nat.zero_le _,rfl,rfl,rfl⟩ ?_
  rintro _ _ ⟨k,out,hk2,hkN,hO,rfl,rfl⟩
  rcases k with _|k
  · repeat' (first|refine gg ?_|exact trivial|with_reducible refine wA ?_ ?_|refine Y2.mk ?_ ?_|refine gh ?_|exact qq|fail)
    refine pcond rfl ?_ ?_<;>intro hc
    · have hc:0 < N.length:=by have:=of_decide_eq_true hc;omega
      repeat' (first|refine gg ?_|exact trivial|with_reducible refine wA ?_ ?_|refine Y2.mk ?_ ?_|refine gh ?_|exact qq|fail)
      refine pop_callM [2,0] [1] rfl rfl rfl rfl rfl (indexFunc_c N.length (lF 0 N) _ _ _ (ready_p N L out hL) (by omega)) (by exact ⟨argM argVsl,argM_clo (fun i hi=>by
        have hi:i < 2:=hi
        obtain rfl|rfl:i=0∨i=1:=by omega
        · exact argM_ptr (r:=cM1 (.mref 1)) rfl trivial (List.Mem.head _) (Nat.le_refl _) rfl (fun a ha b hb=>argM_ref (one:=false) (n:=0) (f:=fun _ _=>.val (mVB kI (lsM out))) rfl (List.Mem.head _) trivial)
        · exact argM_ptr (r := cG (sV N) (.vmap (cS L))) rfl trivial (List.Mem.tail _ (List.Mem.head _)) (Nat.le_refl _) rfl (fun a ha b hb => by
            obtain rfl | rfl : b = 0 ∨ b = 1 := by omega
            · exact argM argVsl
            · exact argM (argCl trivial))),trivial⟩) ?_
      rintro _ ⟨i,hi,hv,⟨hin,hp,rfl⟩|⟨rfl,rfl⟩⟩
      · refine ⟨trivial,?_⟩
        have hfd:N.find? (rdyB L out)=some (lF 0 N i):=find_lF hin hv hp
        have hno : ¬ lF 0 N i ∈ out:=fun hh=>by
          unfold rdyB at hp
          rw [decide_eq_true hh] at hp;cases hp
        have hO2:ordF N L N.length []=ordF N L (N.length - (0+1)) (out ++ [lF 0 N i]):=by
          rw [hO,show N.length - (0)=N.length - (0+1)+1 by omega,ordF_yes hfd]
        repeat' (first|refine gg ?_|exact trivial|with_reducible refine wA ?_ ?_|refine Y2.mk ?_ ?_|refine gh ?_|exact qq|fail)
        refine xs_start (id:=7) true [.take 0,.take 1,.take 2,.take 3,.take 4,.take 5,.one 6] 0 rfl rfl (by kernel_rfl) ?_
        repeat' (first|refine gg ?_|exact trivial|with_reducible refine wA ?_ ?_|refine Y2.mk ?_ ?_|refine gh ?_|exact qq|fail)
        refine xs_lastS rfl rfl (ls_msetB mapIBd (lF 0 N i) 1 rfl rfl rfl rfl rfl rfl rfl (by rw [hk];exact Nat.zero_le _) rfl rfl ?_)
        rw [lsM_set hno]
        repeat' (first|refine gg ?_|exact trivial|with_reducible refine wA ?_ ?_|refine Y2.mk ?_ ?_|exact ⟨Nat.le_refl _,(by rw [hk];exact Nat.le_of_ble_eq_true rfl),Nat.le_of_eq (Nat.zero_add _),(show (_:Nat) * 8≤140737488355328 from by omega),(show (_:Nat)≤9223372036854775807 from by omega)⟩|refine gh ?_|exact qq|fail)
        exact kloop_next (st':=⟨[(1,.ptr 0 0 0),(4,slP (0+1) 3),(5,.ptr 2 0 0)],[cG (sV N) (.vmap (cS L)),mRowB kI (lsM (out ++ [lF 0 N i])),cM1 (.mref 1),vRow c1 1 (0+1) (lF 0 (out ++ [lF 0 N i]))]⟩) (N.length - (0+1)) (can_rowsv [0,1,2,5] (k0_sel hk rfl) rfl (.cons rfl (cG_eq (PEq.refl _) (PEq.refl _)) (.cons rfl m_eqB (.cons rfl (cM1_eq (PEq.refl _)) (.cons rfl (app_l0 c1_cl hk2 rfl) .nil)))) tmq) (by omega) ⟨0+1,out ++ [lF 0 N i],by rw [List.length_append,hk2];rfl,by omega,hO2,rfl,rfl⟩
      · refine ⟨trivial,?_⟩
        have hfd:N.find? (rdyB L out)=none:=find_lno hv
        repeat' (first|refine gg ?_|exact trivial|with_reducible refine wA ?_ ?_|refine Y2.mk ?_ ?_|refine gh ?_|exact qq|fail)
        refine xdone ?_
        refine kret [] rfl ⟨trivial,trivial,trivial⟩ (qs:=[.vsl 0 1 (tI (lF 0 [])),vi 11]) ⟨argNil,argVal,trivial⟩ ?_
        rw [hO,show N.length - (0)=N.length - (0+1)+1 by omega,ordF_no hfd];rfl
    · have hkN:0=N.length:=by have:=of_decide_eq_false hc;omega
      repeat' (first|refine gg ?_|exact trivial|with_reducible refine wA ?_ ?_|refine Y2.mk ?_ ?_|refine gh ?_|exact qq|fail)
      refine xdone ?_
      refine kret [3] rfl ⟨trivial,trivial,trivial⟩ (qs:=[.vsl (0) 1 (tI (lF 0 out)),vi 0]) ⟨argTI (arg_v (n:=0) (l:=3) c1_cl rfl (List.Mem.head _)),argVal,trivial⟩ ?_
      rw [hO,show N.length - (0)=0 by omega,ordF,← hk2]
      rfl
  · repeat' (first|refine gg ?_|exact trivial|with_reducible refine wA ?_ ?_|refine Y2.mk ?_ ?_|refine gh ?_|exact qq|fail)
    refine pcond rfl ?_ ?_<;>intro hc
    · have hc:(k+1) < N.length:=by have:=of_decide_eq_true hc;omega
      repeat' (first|refine gg ?_|exact trivial|with_reducible refine wA ?_ ?_|refine Y2.mk ?_ ?_|refine gh ?_|exact qq|fail)
      refine pop_callM [2,0] [1] rfl rfl rfl rfl rfl (indexFunc_c N.length (lF 0 N) _ _ _ (ready_p N L out hL) (by omega)) (by exact ⟨argM argVsl,argM_clo (fun i hi=>by
        have hi:i < 2:=hi
        obtain rfl|rfl:i=0∨i=1:=by omega
        · exact argM_ptr (r:=cM1 (.mref 1)) rfl trivial (List.Mem.head _) (Nat.le_refl _) rfl (fun a ha b hb=>argM_ref (one:=false) (n:=0) (f:=fun _ _=>.val (mVB kI (lsM out))) rfl (List.Mem.head _) trivial)
        · exact argM_ptr (r := cG (sV N) (.vmap (cS L))) rfl trivial (List.Mem.tail _ (List.Mem.head _)) (Nat.le_refl _) rfl (fun a ha b hb => by
            obtain rfl | rfl : b = 0 ∨ b = 1 := by omega
            · exact argM argVsl
            · exact argM (argCl trivial))),trivial⟩) ?_
      rintro _ ⟨i,hi,hv,⟨hin,hp,rfl⟩|⟨rfl,rfl⟩⟩
      · refine ⟨trivial,?_⟩
        have hfd:N.find? (rdyB L out)=some (lF 0 N i):=find_lF hin hv hp
        have hno : ¬ lF 0 N i ∈ out:=fun hh=>by
          unfold rdyB at hp
          rw [decide_eq_true hh] at hp;cases hp
        have hO2:ordF N L N.length []=ordF N L (N.length - ((k+1)+1)) (out ++ [lF 0 N i]):=by
          rw [hO,show N.length - ((k+1))=N.length - ((k+1)+1)+1 by omega,ordF_yes hfd]
        repeat' (first|refine gg ?_|exact trivial|with_reducible refine wA ?_ ?_|refine Y2.mk ?_ ?_|refine gh ?_|exact qq|fail)
        refine xs_start (id:=7) true [.take 0,.take 1,.take 2,.take 3,.take 4,.take 5,.one 6] 0 rfl rfl (by kernel_rfl) ?_
        repeat' (first|refine gg ?_|exact trivial|with_reducible refine wA ?_ ?_|refine Y2.mk ?_ ?_|refine gh ?_|exact qq|fail)
        refine xs_lastS rfl rfl (ls_msetB mapIBd (lF 0 N i) 1 rfl rfl rfl rfl rfl rfl rfl (by rw [hk];exact Nat.zero_le _) rfl rfl ?_)
        rw [lsM_set hno]
        repeat' (first|refine gg ?_|exact trivial|with_reducible refine wA ?_ ?_|refine Y2.mk ?_ ?_|exact ⟨Nat.le_refl _,(by rw [hk];exact Nat.le_of_ble_eq_true rfl),Nat.le_of_eq (Nat.zero_add _),(show (_:Nat) * 8≤140737488355328 from by omega),(show (_:Nat)≤9223372036854775807 from by omega)⟩|refine gh ?_|exact qq|fail)
        exact kloop_next (st':=⟨[(1,.ptr 0 0 0),(4,slP (k+1+1) 3),(5,.ptr 2 0 0)],[cG (sV N) (.vmap (cS L)),mRowB kI (lsM (out ++ [lF 0 N i])),cM1 (.mref 1),vRow c1 1 (k+1+1) (lF 0 (out ++ [lF 0 N i]))]⟩) (N.length - ((k+1)+1)) (can_rowsv [0,1,2,5] (k0_sel hk rfl) rfl (.cons rfl (cG_eq (PEq.refl _) (PEq.refl _)) (.cons rfl m_eqB (.cons rfl (cM1_eq (PEq.refl _)) (.cons rfl (app_l c1_cl hk2 rfl rfl) .nil)))) tmq) (by omega) ⟨k+1+1,out ++ [lF 0 N i],by rw [List.length_append,hk2];rfl,by omega,hO2,rfl,rfl⟩
      · refine ⟨trivial,?_⟩
        have hfd:N.find? (rdyB L out)=none:=find_lno hv
        repeat' (first|refine gg ?_|exact trivial|with_reducible refine wA ?_ ?_|refine Y2.mk ?_ ?_|refine gh ?_|exact qq|fail)
        refine xdone ?_
        refine kret [] rfl ⟨trivial,trivial,trivial⟩ (qs:=[.vsl 0 1 (tI (lF 0 [])),vi 11]) ⟨argNil,argVal,trivial⟩ ?_
        rw [hO,show N.length - ((k+1))=N.length - ((k+1)+1)+1 by omega,ordF_no hfd];rfl
    · have hkN:(k+1)=N.length:=by have:=of_decide_eq_false hc;omega
      repeat' (first|refine gg ?_|exact trivial|with_reducible refine wA ?_ ?_|refine Y2.mk ?_ ?_|refine gh ?_|exact qq|fail)
      refine xdone ?_
      refine kret [3] rfl ⟨trivial,trivial,trivial⟩ (qs:=[.vsl ((k+1)) 1 (tI (lF 0 out)),vi 0]) ⟨argTI (arg_v (n:=(k+1)) (l:=3) c1_cl rfl (List.Mem.head _)),argVal,trivial⟩ ?_
      rw [hO,show N.length - ((k+1))=0 by omega,ordF,← hk2]
      rfl
end Go.Proofs.YtcefhgomkehokaaGreat
namespace Go.Proofs.YtcefhgomkehokaaGreat
theorem rows_pure {P:Program} {f:FuncId} {args:List PV} {post:PV→List Row→Prop} {post' : PV→Prop} (h:RowsC P f [] args post) (hp:∀ r rows,post r rows→∃ q L,post' q∧ArgOk rows L r q):PureC P f args post':=⟨h.1,fun ρ A w vs hA hG ha=>by
  obtain ⟨hlen,hvs⟩:=arel_nth args vs ha
  have hm:MRel ρ A w []:=⟨fun l r hl=>by simp at hl,fun l l' r r' _ hl=>by simp at hl,fun l r hl=>by simp at hl,fun l r hl=>by simp at hl,hA,fun l r hl=>by simp at hl,fun l l' r r' _ hl=>by simp at hl⟩
  refine (h.2 ρ A w vs hm hG hlen (fun i hi=>hvs i hi)).mono ?_
  rintro e w' ⟨v,r,rows',ρ',I',rfl,hpost,hex,hfr,hv⟩
  obtain ⟨q,L,hq,harg⟩:=hp r rows' hpost
  have hsub:∀ b,ASet ρ' I' rows' L b→(A b∨(w.heap.size≤b∧b < w'.heap.size)):=by
    have hI:∀ b,I' b→(A b∨(w.heap.size≤b∧b < w'.heap.size)):=fun b hb=>by
      by_cases hlt:b < w.heap.size
      · exact .inl (hfr.old b hb hlt)
      · exact .inr ⟨by omega,hfr.m.lt b hb⟩
    rintro b (hb|⟨l,r,_,hl,hs,rfl⟩)
    · exact hI b hb
    · cases hrs:r.s
      · rw [hrs] at hs;exact hs.elim
      · exact hI _ (hfr.m.imm l r hl hrs)
      · refine .inr ⟨hfr.fresh l r hl (by rw [hrs];trivial) (Nat.zero_le _),?_⟩
        obtain ⟨h1,cs,T,h2,h3⟩:=hfr.m.row l r hl hs
        by_cases hb:(ρ' l).b < w'.heap.size
        · exact hb
        · rw [Array.getElem?_eq_none (by omega)] at h2;cases h2
      · rw [hrs] at hs;exact hs.elim
      · rw [hrs] at hs;exact hs.elim
  refine ⟨v,q,rfl,hq,⟨hfr.os,hfr.tape,hfr.output,hfr.size,fun b hb=>hfr.block b hb (fun ⟨l,r,hl,_⟩=>by simp at hl)⟩,?_⟩
  exact (harg ρ' I' w' v hfr.m hv).up (Nat.le_refl _) (fun l hl=>by omega) hsub (Tr.refl _ _)⟩
theorem argTupL {mem:List Row} {L:List Nat} {n:Nat} {f g:Nat→PV} (h:∀ i,i < n→ArgOk mem L (f i) (g i)):ArgOk mem L (.tup n f) (.tup n g):=fun ρ I w v hm ⟨vs,h1,h2,h3⟩=>⟨vs,h1,h2,fun i hi=>h i hi ρ I w _ hm (h3 i hi)⟩
abbrev vGr (N:List Int) (L:List (Int×List Int)):PV:=.agg 2 (nthP [sV N,.vmap (cS L)])
abbrev nodS (l:List Df) (day:Int):List Int:=nodL l (actL l day)
abbrev mapS (l:List Df) (day:Int):List (Int×List Int):=mapL l (actL l day) (nodS l day)
theorem newGraph_c0 (nm:ByteArray) (l:List Df) (day:Int) (h:AgO nm l) (hl:l.length≤1000000) (he:gErr nm l day=0):PureC G.P 36 [vA nm l,vi day] (fun q=>q=.tup 2 (nthP [vGr (nodS l day) (mapS l day),vi 0])):=rows_pure (newGraph_r nm l day h hl) fun r rows hr=>by
  rcases hr with ⟨h1,_⟩|⟨_,k,hk2,rfl,rfl⟩
  · exact absurd he h1
  · refine ⟨_,[0],rfl,argTupL fun i hi=>?_⟩
    obtain rfl|rfl:i=0∨i=1:=by omega
    · refine argAggL fun j hj=>?_
      obtain rfl|rfl:j=0∨j=1:=by omega
      · show ArgOk _ _ (slP k 0) (sV _)
        unfold sV
        rw [hk2]
        exact argTI (arg_v c1_cl rfl (List.Mem.head _))
      · exact argCl trivial
    · exact argVal
theorem newGraph_c1 (nm:ByteArray) (l:List Df) (day:Int) (h:AgO nm l) (hl:l.length≤1000000) (he:gErr nm l day≠0):PureC G.P 36 [vA nm l,vi day] (fun q=>q=.tup 2 (nthP [.agg 2 (nthP [.val (.slice none 0 0),.val (.map none)]),vi (gErr nm l day)])):=rows_pure (newGraph_r nm l day h hl) fun r rows hr=>by
  rcases hr with ⟨_,rfl,rfl⟩|⟨h1,_⟩
  · exact ⟨_,[],rfl,argCl (clT ⟨clA ⟨trivial,trivial,trivial⟩,trivial,trivial⟩)⟩
  · exact absurd h1 he
theorem nodS_len (l:List Df) (day:Int):(nodS l day).length≤l.length:=Nat.le_trans (List.length_filter_le _ _) (actL_len l day)
theorem mapS_len (l:List Df) (day:Int):∀ e,e ∈ mapS l day→e.2.length≤l.length:=fun e he=>by
  obtain ⟨x,hx,rfl⟩:=List.mem_map.1 he
  show (needS l (actL l day) x.toNat).1.length≤_
  unfold needS
  split
  · exact Nat.le_trans (List.length_filter_le _ _) (actL_len l day)
  · exact Nat.zero_le _
def OrdS (nm:ByteArray) (l:List Df) (day:Int):List Int×Int:=if gErr nm l day≠0 then ([],gErr nm l day) else ordF (nodS l day) (mapS l day) (nodS l day).length []
set_option maxHeartbeats 4000000 in
theorem Order_c (nm:ByteArray) (l:List Df) (day:Int) (h:AgO nm l) (hl:l.length≤1000000):PureC G.P 14 [vA nm l,vi day] (fun r=>r=.tup 2 (nthP [sV (OrdS nm l day).1,vi (OrdS nm l day).2])):=by
  by_cases he:gErr nm l day=0
  · have cg:=newGraph_c0 nm l day h hl he
    have co:=order_c (nodS l day) (mapS l day) (Nat.le_trans (nodS_len l day) hl) (fun e he=>Nat.le_trans (mapS_len l day e he) hl)
    refine pure_of (G:=G.toPg) (fn:=Tryz.f14) Tryz.func14 rfl rfl rfl ?_;intro Γ hk
    repeat' (first|refine gg ?_|exact trivial|with_reducible refine wA ?_ ?_|refine Y2.mk ?_ ?_|(refine pop_callc [] rfl rfl rfl rfl rfl rfl (fun _ h=>by cases h) (cg) (args_cl _ rfl) ?_;rintro _ rfl)|(refine pop_callc [] rfl rfl rfl rfl rfl rfl (fun _ h=>by cases h) (co) (args_cl _ rfl) ?_;rintro _ rfl)|refine gh ?_|exact qq|fail)
    refine kretv rfl ⟨trivial,trivial,trivial⟩ rfl ?_
    unfold OrdS;rw [if_neg (fun hh=>hh he)];rfl
  · have cg:=newGraph_c1 nm l day h hl he
    refine pure_of (G:=G.toPg) (fn:=Tryz.f14) Tryz.func14 rfl rfl rfl ?_;intro Γ hk
    repeat' (first|refine gg ?_|exact trivial|with_reducible refine wA ?_ ?_|refine Y2.mk ?_ ?_|(refine pop_callc [] rfl rfl rfl rfl rfl rfl (fun _ h=>by cases h) (cg) (args_cl _ rfl) ?_;rintro _ rfl)|refine gh ?_|exact qq|fail)
    refine pcond (b:=true) (eqB (by simpa using he)) ?_ ?_<;>intro h1
    · repeat' (first|refine gg ?_|exact trivial|with_reducible refine wA ?_ ?_|refine Y2.mk ?_ ?_|refine gh ?_|exact qq|fail)
      refine kret [] rfl ⟨trivial,trivial,trivial⟩ (qs:=[.vsl 0 1 (tI (lF 0 [])),vi (gErr nm l day)]) ⟨argNil,argVal,trivial⟩ ?_
      unfold OrdS;rw [if_pos he];rfl
    · cases h1
end Go.Proofs.YtcefhgomkehokaaGreat
