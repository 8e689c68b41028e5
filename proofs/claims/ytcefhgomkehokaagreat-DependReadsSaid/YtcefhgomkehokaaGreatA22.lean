/- payrollgen.SpoilAgreement. -/
import Derived.Test.YtcefhgomkehokaaGreatA21
import Derived.Test.YtcefhgomkehokaaGreatA10
import Derived.Test.YtcefhgomkehokaaGreatA15
import Derived.Test.YtcefhgomkehokaaGreatA07
import Derived.Test.YtcefhgomkehokaaGreatA08
import Derived.Test.YtcefhgomkehokaaGreatA14
import Derived.Test.YtcefhgomkehokaaGreatA05
set_option linter.unusedSimpArgs false
set_option linter.unusedVariables false
set_option maxRecDepth 100000
namespace Go.Proofs.YtcefhgomkehokaaGreat
structure DK (c:Nat) (d:Df):Prop where
  nm:d.nm.size≤9223372036854775807
  ef:∀ i,i < d.ne→-9223372036854775808≤(d.ef i).2.1∧(d.ef i).2.1≤9223372036854775807
  ne:d.ne≤100+c
  body:BK c d.body
  st : -9223372036854775808≤d.sn∧d.sn≤9223372036854775807
  w:d.body.w≤1000 * c
theorem DK.bd {c:Nat} (hc:c≤1000) {d:Df} (h:DK c d):BdD d:=⟨h.nm,h.ef,by have:=h.ne;omega,h.body.bd,h.st⟩
theorem DK.mono {c c' : Nat} {d:Df} (h:DK c d) (hc:c≤c'):DK c' d:=⟨h.nm,h.ef,by have:=h.ne;omega,h.body.mono hc,h.st,Nat.le_trans h.w (Nat.mul_le_mul_left _ hc)⟩
abbrev rAn (nm:ByteArray) (k l:Nat):Row:=⟨.own,true,1,2,fun _=>nthP [vs nm,.lsl l 0 k]⟩
theorem rAn_eq {τ:Nat→Option Nat} {nm:ByteArray} {k k' l l' : Nat} (h:τ l=some l') (hk:k'=k):RowEq ((⟨.own,true,1,2,fun _=>nthP [vs nm,.lsl l 0 k']⟩:Row).ren τ) (rAn nm k l'):=by
  subst hk
  exact var_eq ⟨PEq.refl _,by show PEq (match τ l with|some l'=>PV.lsl l' 0 k'|none=>.junk) _;rw [h];exact PEq.refl _,trivial⟩
theorem copyV_r (nm:ByteArray) (l:List Df) (hl:l.length≤1000):RowsC G.P 24 [] [vA nm l] (fun r rows=>r=.agg 2 (nthP [vs nm,.lsl 1 0 l.length])∧rows=[rAn nm l.length 1,oRow cD 21 l.length (lF dD l)]):=by
  refine rows_of (G:=G.toPg) (fn:=Tryz.f24) Tryz.func24 rfl rfl rfl ?_;intro Γ hk
  replace hk:Γ.k0=0:=hk
  repeat' (first|refine gg ?_|exact trivial|with_reducible refine wA ?_ ?_|refine Y2.mk ?_ ?_|refine xs_start (id:=1) true [.take 0,.take 1,.take 3,.take 4,.one 2,.one 5,.take 6,.one 7] 0 rfl rfl (by kernel_rfl) ?_|exact ⟨trivial,(by rw [hk];exact Nat.zero_le _),Nat.le_refl _,(show (0+l.length:Nat) * 216≤140737488355328 from by omega),(show (0+l.length:Nat)≤9223372036854775807 from by omega)⟩|refine gh ?_|exact qq|fail)
  refine xdone ?_
  exact kretr (st':=⟨[(2,.ptr 0 0 0)],[rAn nm l.length 1,oRow cD 21 l.length (lF dD l)]⟩) (can_rowsv [1,3] (k0_sel (show Γ.k0=0 from hk) rfl) rfl (.cons rfl (rAn_eq rfl (Nat.zero_add _)) (.cons rfl (o_eq cD_cl (by omega) fun a ha b hb=>by
    rw [appF_ge _ _ (Nat.zero_le _),Nat.sub_zero];rfl) .nil)) tmq) rfl ⟨Nat.zero_lt_one,trivial⟩ rfl ⟨rfl,rfl⟩
abbrev SpA (c n:Nat) (g:Nat→Int) (l:List Df):PV→Row→Prop:=fun r row'=>(∃ (nm:ByteArray) (l' : List Df),r=vA nm l'∧nm.size≤9223372036854775807∧l'.length≤l.length+1∧∀ d,d ∈ l'→DK (c+1) d)∧∃ at' : Int,0≤at'∧at'≤n∧row'=tapeRow n g at'
abbrev rZG:Row:=⟨.own,true,1,2,fun _=>nthP [vs ⟨#[]⟩,.val (.slice none 0 0)]⟩
abbrev rDq (d:Df):Row:=⟨.own,true,1,21,fun _=>nthP (cD d)⟩
theorem rDq_cl (d:Df):rowCl (rDq d):=fun i _ j _=>clL_nth _ j (cD_cl d)
theorem next4_t:TapC G.P 10 [vi 4] (fun r=>∃ x:Int,r=vi x∧(x=0∨x=1∨x=2∨x=3)):=(next_t 4 (by omega)).mono fun r ⟨x,h,h1,h2⟩=>⟨x,h,by omega⟩
theorem cellD {mem:List Row} {L:List Nat} {dk:Int} {dn:ByteArray} {tb:Bool} {tm th td dd:Int} {db:Ex} {dm dsn dsd:Int} {p q:PV} (h:ArgOk mem L p q):∀ (i:Nat),i < 1→∀ j,j < 21→ArgOk mem L (nthP [vi dk,vs dn,vb tb,vi tm,vi th,vi td,vi dd,p,vi db.op,vi db.vn,vi db.vd,vi db.um,vi db.uh,vi db.ud,vs db.nm,vi db.cnt,vi db.mode,.vsl db.nk 10 db.kc,vi dm,vi dsn,vi dsd] j) (nthP [vi dk,vs dn,vb tb,vi tm,vi th,vi td,vi dd,q,vi db.op,vi db.vn,vi db.vd,vi db.um,vi db.uh,vi db.ud,vs db.nm,vi db.cnt,vi db.mode,.vsl db.nk 10 db.kc,vi dm,vi dsn,vi dsd] j):=fun i hi j hj=>by
  rcases split21 hj with rfl|rfl|rfl|rfl|rfl|rfl|rfl|rfl|rfl|rfl|rfl|rfl|rfl|rfl|rfl|rfl|rfl|rfl|rfl|rfl|rfl
  all_goals first
    | exact h
    | exact argCl trivial
def MA (c n:Nat) (g:Nat→Int) (nm:ByteArray) (l:List Df) (ix:Nat) (st:PSt):Prop:=∃ (at' : Int) (d' : Df) (l' : List Df),0≤at'∧at'≤n∧DK (c+1) d'∧ix < l'.length∧l'.length≤l.length+1∧(∀ d,d ∈ l'→DK (c+1) d)∧st=⟨[(0,.ptr 0 0 0),(3,.ptr 1 0 0),(4,.ptr 2 0 0),(5,vi ix),(6,.ptr 4 0 0)],[tapeRow n g at',rAn nm l'.length 3,rZG,oRow cD 21 l'.length (lF dD l'),rDq d']⟩
abbrev rDx (dk:Int) (dn:ByteArray) (tb:Bool) (tm th td dd:Int) (dne:Nat) (dE:Nat→En) (db:Ex) (dm dsn dsd:Int):Row:=⟨.own,true,1,21,fun _=>nthP [vi dk,vs dn,vb tb,vi tm,vi th,vi td,vi dd,.vsl dne 3 (tF cN3 dE),vi db.op,vi db.vn,vi db.vd,vi db.um,vi db.uh,vi db.ud,vs db.nm,vi db.cnt,vi db.mode,.vsl db.nk 10 db.kc,vi dm,vi dsn,vi dsd]⟩
theorem rDx_cl (dk:Int) (dn:ByteArray) (tb:Bool) (tm th td dd:Int) (dne:Nat) (dE:Nat→En) (db:Ex) (dm dsn dsd:Int):rowCl (rDx dk dn tb tm th td dd dne dE db dm dsn dsd):=rDq_cl ⟨dk,dn,⟨tb,tm,th,td⟩,dd,dne,dE,db,dm,dsn,dsd⟩
theorem kA {N : Nat} {Γ : Fr} {K : Exit → PSt → Prop} {st : PSt} {c n : Nat} {g : Nat → Int} {nm : ByteArray} {l : List Df} {ix : Nat} {at' : Int} {l' : List Df} (dk : Int) (dn : ByteArray) (tb : Bool) (tm th td dd : Int) (dne : Nat) (dE : Nat → En) (db : Ex) (dm dsn dsd : Int) (b1 : 0 ≤ at') (b2 : at' ≤ n) (hx : ix < l'.length) (hl : l'.length ≤ l.length + 1) (hD : ∀ d, d ∈ l' → DK (c + 1) d)
    (hc:Can N Γ st ⟨[(0,.ptr 0 0 0),(3,.ptr 1 0 0),(4,.ptr 2 0 0),(5,vi ix),(6,.ptr 4 0 0)],[tapeRow n g at',rAn nm l'.length 3,rZG,oRow cD 21 l'.length (lF dD l'),rDx dk dn tb tm th td dd dne dE db dm dsn dsd]⟩) (hd:DK (c+1) ⟨dk,dn,⟨tb,tm,th,td⟩,dd,dne,dE,db,dm,dsn,dsd⟩):Kcut N Γ (MA c n g nm l ix) K .normal st:=kcut hc ⟨at',_,l',b1,b2,hd,hx,hl,hD,rfl⟩
set_option maxHeartbeats 8000000 in
theorem spoilA_rest (c : Nat) (hc3 : 3 ≤ c) (hc : c ≤ 100) (nm : ByteArray) (l : List Df) (hs : nm.size ≤ 9223372036854775807) (hl : l.length ≤ 100) (hD : ∀ d, d ∈ l → DK c d) (n : Nat) (g : Nat → Int) (hn : n ≤ 9223372036854775807) (Γ : Fr) (hk : Γ.k0 = 1) (at_ : Int) (b1 : 0 ≤ at_) (b2 : at_ ≤ n) (hpos : 0 < l.length) :
    PWp G.toPg Tryz.f7.ntmps Γ (dropS 3 (Tryz.f7.body.getD .skip)) ⟨[(0,.ptr 0 0 0),(3,.ptr 1 0 0),(4,.ptr 2 0 0)],[tapeRow n g at_,rAn nm l.length 3,rZG,oRow cD 21 l.length (lF dD l)]⟩ (KretP G.tab Tryz.f7.results.toList (SpA c n g l)):=by
  have at_D:∀ i,i < l.length→lF dD l i ∈ l:=fun i hi=>by
    unfold lF;rw [List.getD_eq_getElem?_getD,List.getElem?_eq_getElem hi];exact List.getElem_mem _
  refine pseq ?_
  refine pcut (fun st=>∃ (at' : Int) (ix:Nat),0≤at'∧at'≤n∧ix < l.length∧st=⟨[(0,.ptr 0 0 0),(3,.ptr 1 0 0),(4,.ptr 2 0 0),(5,vi ix)],[tapeRow n g at',rAn nm l.length 3,rZG,oRow cD 21 l.length (lF dD l)]⟩) ?_ ?_
  · repeat' (first|refine gg ?_|exact trivial|with_reducible refine wA ?_ ?_|refine Y2.mk ?_ ?_|(refine tn1 hn ?_;rintro at_ b1 b2 x hx1 hx2)|refine gh ?_|exact qq|fail)
    obtain ⟨ix,rfl⟩:∃ y:Nat,x=y:=⟨x.toNat,by omega⟩
    refine xdone ?_
    exact kcut (st':=⟨[(0,.ptr 0 0 0),(3,.ptr 1 0 0),(4,.ptr 2 0 0),(5,vi ix)],[tapeRow n g _,rAn nm l.length 3,rZG,oRow cD 21 l.length (lF dD l)]⟩) (can_rowsv [0,1,2,3] (k0_sel hk rfl) rfl (.cons rfl (RowEq.cl (tape_cl _ _ _)) (.cons rfl (rAn_eq rfl rfl) (.cons rfl rqq (.cons rfl (RowEq.cl (o_cl cD_cl _ _ _)) .nil)))) tmq) ⟨_,ix,b1,b2,by omega,rfl⟩
  clear b1 b2
  rintro _ ⟨at_,ix,b1,b2,hix,rfl⟩
  refine pseq ?_
  refine pcut (fun st=>∃ (dk:Int) (dn:ByteArray) (tb:Bool) (tm th td dd:Int) (dne:Nat) (dE:Nat→En) (db:Ex) (dm dsn dsd:Int),DK c ⟨dk,dn,⟨tb,tm,th,td⟩,dd,dne,dE,db,dm,dsn,dsd⟩∧st=⟨[(0,.ptr 0 0 0),(3,.ptr 1 0 0),(4,.ptr 2 0 0),(5,vi ix),(6,.ptr 4 0 0)],[tapeRow n g at_,rAn nm l.length 3,rZG,oRow cD 21 l.length (lF dD l),rDx dk dn tb tm th td dd dne dE db dm dsn dsd]⟩) ?_ ?_
  · repeat' (first|refine gg ?_|exact trivial|with_reducible refine wA ?_ ?_|refine Y2.mk ?_ ?_|refine gh ?_|exact qq|fail)
    have ex:0+((ix:Nat):Int).toNat=ix:=by omega
    rw [ex]
    exact kcut (st':=⟨[(0,.ptr 0 0 0),(3,.ptr 1 0 0),(4,.ptr 2 0 0),(5,vi ix),(6,.ptr 4 0 0)],[tapeRow n g _,rAn nm l.length 3,rZG,oRow cD 21 l.length (lF dD l),rDq (lF dD l ix)]⟩) (can_rowsv [0,1,2,3,4] (k0_sel hk rfl) rfl (.cons rfl (RowEq.cl (tape_cl _ _ _)) (.cons rfl (rAn_eq rfl rfl) (.cons rfl rqq (.cons rfl (RowEq.cl (o_cl cD_cl _ _ _)) (.cons rfl (RowEq.cl (rDq_cl (lF dD l ix))) .nil))))) tmq) ⟨_,_,_,_,_,_,_,_,_,_,_,_,_,hD _ (at_D ix hix),rfl⟩
  rintro _ ⟨dk,dn,tb,tm,th,td,dd,dne,dE,db,dm,dsn,dsd,hd,rfl⟩
  refine pseq ?_
  refine pcut (MA c n g nm l ix) ?_ ?_
  · have hD' : ∀ d,d ∈ l→DK (c+1) d:=fun d hd=>(hD d hd).mono (by omega)
    have hd':=hd.mono (c':=c+1) (by omega)
    have hne:dne≤100+c:=hd.ne
    repeat' (first|refine gg ?_|exact trivial|with_reducible refine wA ?_ ?_|refine Y2.mk ?_ ?_|(refine tn1 hn ?_;rintro at_ b1 b2 x hx1 hx2)|refine gh ?_|exact qq|fail)
    rcases (by omega:x=0∨x=1∨x=2∨x=3∨x=4∨x=5∨x=6∨x=7∨x=8∨x=9) with rfl|rfl|rfl|rfl|rfl|rfl|rfl|rfl|rfl|rfl
    · repeat' (first|refine gg ?_|exact trivial|with_reducible refine wA ?_ ?_|refine Y2.mk ?_ ?_|(refine tn1 hn ?_;rintro at_ b1 b2 x hx1 hx2)|refine gh ?_|exact qq|fail)
      rcases (by omega:x=0∨x=1∨x=2∨x=3∨x=4∨x=5) with rfl|rfl|rfl|rfl|rfl|rfl
      all_goals
        repeat' (first|refine gg ?_|exact trivial|with_reducible refine wA ?_ ?_|refine Y2.mk ?_ ?_|refine gh ?_|exact qq|fail)
        refine xdone ?_
        refine kA (l':=l) dk _ tb tm th td dd dne dE db dm dsn dsd b1 b2 hix (by omega) hD' (can_rowsv [0,1,2,3,4] (k0_sel hk rfl) rfl (.cons rfl (RowEq.cl (tape_cl _ _ _)) (.cons rfl (rAn_eq rfl rfl) (.cons rfl rqq (.cons rfl (RowEq.cl (o_cl cD_cl _ _ _)) (.cons rfl (RowEq.cl (rDx_cl dk _ tb tm th td dd dne dE db dm dsn dsd)) .nil))))) tmq) ?_
        exact ⟨Nat.le_of_ble_eq_true rfl,hd'.ef,hd'.ne,hd'.body,hd'.st,hd'.w⟩
    · repeat' (first|refine gg ?_|exact trivial|with_reducible refine wA ?_ ?_|refine Y2.mk ?_ ?_|(refine tn1 hn ?_;rintro at_ b1 b2 x hx1 hx2)|refine gh ?_|exact qq|fail)
      rcases (by omega:x=0∨x=1∨x=2∨x=3∨x=4) with rfl|rfl|rfl|rfl|rfl
      all_goals
        repeat' (first|refine gg ?_|exact trivial|with_reducible refine wA ?_ ?_|refine Y2.mk ?_ ?_|refine gh ?_|exact qq|fail)
        refine xdone ?_
        refine kA (l':=l) dk dn _ _ _ _ dd dne dE db dm dsn dsd b1 b2 hix (by omega) hD' (can_rowsv [0,1,2,3,4] (k0_sel hk rfl) rfl (.cons rfl (RowEq.cl (tape_cl _ _ _)) (.cons rfl (rAn_eq rfl rfl) (.cons rfl rqq (.cons rfl (RowEq.cl (o_cl cD_cl _ _ _)) (.cons rfl (RowEq.cl (rDx_cl dk dn _ _ _ _ dd dne dE db dm dsn dsd)) .nil))))) tmq) ?_
        exact ⟨hd'.nm,hd'.ef,hd'.ne,hd'.body,hd'.st,hd'.w⟩
    · repeat' (first|refine gg ?_|exact trivial|with_reducible refine wA ?_ ?_|refine Y2.mk ?_ ?_|(refine pop_tapl (G:=G) rfl rfl rfl rfl rfl rfl rfl rfl rfl rfl rfl (by omega) rfl (fun _=>rfl) rfl (pick_t _ _ rfl (by decide) (by decide)) hn (by assumption) (by assumption) ?_;rintro at_ _ b1 b2 ⟨x,rfl,hx⟩;simp only [unL,List.mem_cons,List.not_mem_nil,or_false] at hx)|refine gh ?_|exact qq|fail)
      refine xdone ?_
      refine kA (l':=l) dk dn tb tm th td _ dne dE db dm dsn dsd b1 b2 hix (by omega) hD' (can_rowsv [0,1,2,3,4] (k0_sel hk rfl) rfl (.cons rfl (RowEq.cl (tape_cl _ _ _)) (.cons rfl (rAn_eq rfl rfl) (.cons rfl rqq (.cons rfl (RowEq.cl (o_cl cD_cl _ _ _)) (.cons rfl (RowEq.cl (rDx_cl dk dn tb tm th td _ dne dE db dm dsn dsd)) .nil))))) tmq) ?_
      exact ⟨hd'.nm,hd'.ef,hd'.ne,hd'.body,hd'.st,hd'.w⟩
    iterate 2
      · have cS:=spoilW_t c hc3 hc db hd.body
        repeat' (first|refine gg ?_|exact trivial|with_reducible refine wA ?_ ?_|refine Y2.mk ?_ ?_|(refine t1 cS hn ?_;rintro at_ _ b1 b2 ⟨e2,rfl,he2,hw2⟩)|(refine t2 cS hn ?_;rintro at_ _ b1 b2 ⟨e2,rfl,he2,hw2⟩)|(refine t3 cS hn ?_;rintro at_ _ b1 b2 ⟨e2,rfl,he2,hw2⟩)|refine gh ?_|exact qq|fail)
        refine xdone ?_
        refine kA (l':=l) dk dn tb tm th td dd dne dE e2 dm dsn dsd b1 b2 hix (by omega) hD' (can_rowsv [0,1,2,3,4] (k0_sel hk rfl) rfl (.cons rfl (RowEq.cl (tape_cl _ _ _)) (.cons rfl (rAn_eq rfl rfl) (.cons rfl rqq (.cons rfl (RowEq.cl (o_cl cD_cl _ _ _)) (.cons rfl (RowEq.cl (rDx_cl dk dn tb tm th td dd dne dE e2 dm dsn dsd)) .nil))))) tmq) ?_
        exact ⟨hd'.nm,hd'.ef,hd'.ne,he2,hd'.st,show e2.w≤1000 * (c+1) from by have:db.w≤1000 * c:=hd.w;omega⟩
    · repeat' (first|refine gg ?_|exact trivial|with_reducible refine wA ?_ ?_|refine Y2.mk ?_ ?_|(refine tn1 hn ?_;rintro at_ b1 b2 x hx1 hx2)|refine gh ?_|exact qq|fail)
      refine xdone ?_
      refine kA (l':=l) _ dn tb tm th td dd dne dE db dm dsn dsd b1 b2 hix (by omega) hD' (can_rowsv [0,1,2,3,4] (k0_sel hk rfl) rfl (.cons rfl (RowEq.cl (tape_cl _ _ _)) (.cons rfl (rAn_eq rfl rfl) (.cons rfl rqq (.cons rfl (RowEq.cl (o_cl cD_cl _ _ _)) (.cons rfl (RowEq.cl (rDx_cl _ dn tb tm th td dd dne dE db dm dsn dsd)) .nil))))) tmq) ?_
      exact ⟨hd'.nm,hd'.ef,hd'.ne,hd'.body,hd'.st,hd'.w⟩
    · repeat' (first|refine gg ?_|exact trivial|with_reducible refine wA ?_ ?_|refine Y2.mk ?_ ?_|refine xs_startH (id:=22) [] false [.take 0,.take 3,.take 4,.take 5,.take 6,.take 8] 10 rfl (by kernel_rfl) ?_|refine BrAll.cons ?_ ?_|exact BrAll.nil|refine xs_brT (n:=16) [0,3,4,5,6,8] [(1,[],false,9),(7,[.one 1,.one 2,.take 12,.one 9],false,5)] (by decide +kernel) rfl (by kernel_rfl) (by kernel_rfl) ?_|refine xs_brT (n:=16) [0,1,2,3,4,5,6,7,8,9,12] [(10,[],false,4),(13,[.one 10,.one 11,.take 14,.one 15],true,0)] (by decide +kernel) rfl (by kernel_rfl) (by kernel_rfl) ?_|refine xs_brT (n:=16) [0,1,2,3,4,5,6,7,8,9,10,12] [(11,[.one 13,.take 14,.one 15],true,0),(13,[.one 11,.take 14,.one 15],true,0)] (by decide +kernel) rfl (by kernel_rfl) (by kernel_rfl) ?_|refine xs_brT (n:=16) [0,1,3,4,5,6,8] [(2,[.take 12],false,7),(7,[.one 2,.take 12,.one 9],false,5)] (by decide +kernel) rfl (by kernel_rfl) (by kernel_rfl) ?_|refine xs_brT (n:=16) [0,1,2,3,4,5,6,8,12] [(7,[.one 9],false,5),(9,[],false,6)] (by decide +kernel) rfl (by kernel_rfl) (by kernel_rfl) ?_|refine xs_brT (n:=16) [0,1,2,3,4,5,6,8,9,12] [(7,[],false,5),(13,[.one 7,.one 10,.one 11,.take 14,.one 15],true,0)] (by decide +kernel) rfl (by kernel_rfl) (by kernel_rfl) ?_|refine ⟨_,[],true,rfl,rfl,stepOp_pst rfl ?_ ?_⟩|(refine ⟨_,[4],true,rfl,rfl,stepOp_pst rfl ?_ ?_⟩)|(refine ⟨_,[4],false,rfl,rfl,stepOp_pst rfl ?_ ?_⟩)|(refine xs_one (ch:=[_]) rfl rfl rfl (pst_tapl (G:=G) rfl rfl rfl rfl rfl rfl rfl rfl rfl rfl rfl (by omega) rfl (fun _=>rfl) rfl (pick_t _ _ rfl (by decide) (by decide)) hn (by assumption) (by assumption) ?_);rintro at_ _ b1 b2 ⟨x,rfl,hx⟩;simp only [unL,List.mem_cons,List.not_mem_nil,or_false] at hx)|(refine ⟨_,[_],_,rfl,rfl,pst_tapl (G:=G) rfl rfl rfl rfl rfl rfl rfl rfl rfl rfl rfl (by omega) rfl (fun _=>rfl) rfl (pick_t _ _ rfl (by decide) (by decide)) hn (by assumption) (by assumption) ?_⟩;rintro at_ _ b1 b2 ⟨x,rfl,hx⟩;simp only [unL,List.mem_cons,List.not_mem_nil,or_false] at hx)|(refine t1 next4_t hn ?_;rintro at_ _ b1 b2 ⟨x4,rfl,(rfl|rfl|rfl|rfl)⟩)|(refine t2 next4_t hn ?_;rintro at_ _ b1 b2 ⟨x4,rfl,(rfl|rfl|rfl|rfl)⟩)|(refine t3 next4_t hn ?_;rintro at_ _ b1 b2 ⟨x4,rfl,(rfl|rfl|rfl|rfl)⟩)|refine gh ?_|exact qq|fail)
      all_goals
        refine xdone ?_
        refine kA (l':=l) dk dn tb tm th td dd dne dE db _ _ _ (by assumption) (by assumption) hix (by omega) hD' (can_rowsv [0,1,2,3,4] (k0_sel hk rfl) rfl (.cons rfl (RowEq.cl (tape_cl _ _ _)) (.cons rfl (rAn_eq rfl rfl) (.cons rfl rqq (.cons rfl (RowEq.cl (o_cl cD_cl _ _ _)) (.cons rfl (RowEq.cl (rDx_cl dk dn tb tm th td dd dne dE db _ _ _)) .nil))))) tmq) ?_
        exact ⟨hd'.nm,hd'.ef,hd'.ne,hd'.body,⟨by dsimp only;decide,by dsimp only;decide⟩,hd'.w⟩
    · repeat' (first|refine gg ?_|exact trivial|with_reducible refine wA ?_ ?_|refine Y2.mk ?_ ?_|(refine pop_tapl (G:=G) rfl rfl rfl rfl rfl rfl rfl rfl rfl rfl rfl (by omega) rfl (fun _=>rfl) rfl (pick_t _ _ rfl (by decide) (by decide)) hn (by assumption) (by assumption) ?_;rintro at_ _ b1 b2 ⟨x,rfl,hx⟩;simp only [unL,List.mem_cons,List.not_mem_nil,or_false] at hx)|(refine t1 decimal_t hn ?_;rintro at_ _ b1 b2 ⟨e,rfl,he⟩)|(refine t2 decimal_t hn ?_;rintro at_ _ b1 b2 ⟨e,rfl,he⟩)|(refine t3 decimal_t hn ?_;rintro at_ _ b1 b2 ⟨e,rfl,he⟩)|exact ⟨trivial,(by rw [hk];exact Nat.le_of_ble_eq_true rfl),Nat.le_refl _,(show (0+dne) * 24≤140737488355328 from by omega),(show 0+dne≤9223372036854775807 from by omega)⟩|exact ⟨Nat.le_refl _,(by rw [hk];exact Nat.le_of_ble_eq_true rfl),(show 0+(0+dne)≤0+dne from by omega),(show (0+dne+1) * 24≤140737488355328 from by omega),(show 0+dne+1≤9223372036854775807 from by omega)⟩|refine gh ?_|exact qq|fail)
      refine xdone ?_
      have hec : -9223372036854775808≤e.1∧e.1≤9223372036854775807:=by
        have key:∀ x ∈ decL,-9223372036854775808≤x.1∧x.1≤9223372036854775807:=by decide +kernel
        exact key e he
      refine kA (l':=l) dk dn tb tm th td dd (dne+1) (snocA dne dE (x,e.1,e.2)) db dm dsn dsd b1 b2 hix (by omega) hD' ((can_frzb [9] 4 (fun _=>nthP [vi dk,vs dn,vb tb,vi tm,vi th,vi td,vi dd,.vsl (dne+1) 3 (tF cN3 (snocA dne dE (x,e.1,e.2))),vi db.op,vi db.vn,vi db.vd,vi db.um,vi db.uh,vi db.ud,vs db.nm,vi db.cnt,vi db.mode,.vsl db.nk 10 db.kc,vi dm,vi dsn,vi dsd]) (tm:=[(0,.ptr 0 0 0),(3,.ptr 1 0 0),(4,.ptr 2 0 0),(5,vi ix),(6,.ptr 4 0 0)]) (by intro l hl;rw [hk];simp at hl;omega) rfl rfl rfl (cellD ?_) (by exact ⟨.inl rfl,.inl rfl,.inl rfl,.inl rfl,.inl rfl,trivial⟩)).trans (can_rowsv [0,1,2,3,4] (k0_sel hk rfl) rfl (.cons rfl (RowEq.cl (tape_cl _ _ _)) (.cons rfl (rAn_eq rfl rfl) (.cons rfl rqq (.cons rfl (RowEq.cl (o_cl cD_cl _ _ _)) (.cons rfl (RowEq.cl (rDx_cl dk dn tb tm th td dd (dne+1) (snocA dne dE (x,e.1,e.2)) db dm dsn dsd)) .nil))))) tmq)) ⟨hd'.nm,fun i hi=>?_,(show dne+1≤100+(c+1) from by omega),hd'.body,hd'.st,hd'.w⟩
      · show ArgOk _ _ (.lsl 9 0 (0+dne+1)) (.vsl (dne+1) 3 (tF cN3 (snocA dne dE (x,e.1,e.2))))
        rw [Nat.zero_add dne]
        refine argLslP rfl trivial (List.Mem.head _) (Nat.le_refl _) fun a ha b hb=>?_
        show ArgOk _ _ (appF dne _ _ a b) (nthP (cN3 (snocA dne dE (x,e.1,e.2) a)) b)
        unfold snocA
        by_cases e1:a < dne
        · rw [appF_lt _ _ e1]
          show ArgOk _ _ (tF cN3 dE (0+a) b) _
          rw [Nat.zero_add a,if_pos e1]
          exact argCl (tF_cl cN3_cl dE a b)
        · obtain rfl:a=dne:=by omega
          rw [appF_ge _ _ (Nat.le_refl _),Nat.sub_self,if_neg e1]
          have hb:b < 3:=hb
          rcases (by omega:b=0∨b=1∨b=2) with rfl|rfl|rfl
          all_goals exact argVal
      · have hi:i < dne+1:=hi
        show -9223372036854775808≤(snocA dne dE (x,e.1,e.2) i).2.1∧(snocA dne dE (x,e.1,e.2) i).2.1≤9223372036854775807
        unfold snocA
        by_cases e1:i < dne
        · rw [if_pos e1];exact hd'.ef i e1
        · rw [if_neg e1];exact hec
    · repeat' (first|refine gg ?_|exact trivial|with_reducible refine wA ?_ ?_|refine Y2.mk ?_ ?_|exact ⟨Nat.le_refl _,(by rw [hk];exact Nat.le_of_ble_eq_true rfl),Nat.le_of_eq (Nat.zero_add _),(show (_:Nat) * 216≤140737488355328 from by omega),(show (_:Nat)≤9223372036854775807 from by omega)⟩|refine gh ?_|exact qq|fail)
      have el:∀ y:Df,(l ++ [y]).length=l.length+1:=fun y=>by simp
      refine xdone ?_
      refine kA (l':=l ++ [⟨dk,dn,⟨tb,tm,th,td⟩,dd,dne,dE,db,dm,dsn,dsd⟩]) dk dn tb tm th td dd dne dE db dm dsn dsd b1 b2 (by rw [el];omega) (by rw [el];omega) (fun d hd0=>?_) (can_rowsv [0,1,2,6,4] (k0_sel hk rfl) rfl (.cons rfl (RowEq.cl (tape_cl _ _ _)) (.cons rfl (rAn_eq rfl (el _).symm) (.cons rfl rqq (.cons rfl (by rw [el];exact app_l cD_cl rfl rfl rfl) (.cons rfl (RowEq.cl (rDx_cl dk dn tb tm th td dd dne dE db dm dsn dsd)) .nil))))) tmq) hd'
      rcases List.mem_append.1 hd0 with h|h
      · exact hD' d h
      · obtain rfl:d=_:=by simpa using h
        exact hd'
    · repeat' (first|refine gg ?_|exact trivial|with_reducible refine wA ?_ ?_|refine Y2.mk ?_ ?_|refine gh ?_|exact qq|fail)
      have hwx:IntKind.i64.wrap ((ix:Int)+1)=((ix+1:Nat):Int):=w64 (by omega) (by omega)
      refine pcan (st':=⟨[(3,.ptr 1 0 0),(4,.ptr 2 0 0),(5,vi ix)],[tapeRow n g at_,rAn nm l.length 3,rZG,oRow cD 21 l.length (lF dD l)]⟩) (can_rowsv [0,1,2,3] (k0_sel hk rfl) rfl (.cons rfl (RowEq.cl (tape_cl _ _ _)) (.cons rfl (rAn_eq rfl rfl) (.cons rfl rqq (.cons rfl (RowEq.cl (o_cl cD_cl _ _ _)) .nil)))) tmq) ?_
      have hlE:(l.eraseIdx ix).length=l.length - 1:=by rw [List.length_eraseIdx,if_pos hix]
      have hEl:((ix:Int) - ((0:Nat):Int)).toNat+((l.length:Int) - IntKind.i64.wrap ((ix:Int)+1)).toNat=l.length - 1:=by rw [hwx];omega
      have hEc:∀ a,a < l.length - 1→∀ b,b < 21→appF ((ix:Int) - ((0:Nat):Int)).toNat (fun x=>tF cD (lF dD l) (0+((0:Nat):Int).toNat+x)) (fun x=>tF cD (lF dD l) (0+(IntKind.i64.wrap ((ix:Int)+1)).toNat+x)) a b=nthP (cD (lF dD (l.eraseIdx ix) a)) b:=fun a ha b hb=>by
        have e0:lF dD (l.eraseIdx ix) a=if a < ix then lF dD l a else lF dD l (a+1):=by
          unfold lF
          rw [List.getD_eq_getElem?_getD,List.getElem?_eraseIdx]
          split<;>rw [List.getD_eq_getElem?_getD]
        rw [e0,hwx]
        by_cases e1:a < ix
        · rw [appF_lt _ _ (by omega),if_pos e1,show 0+((0:Nat):Int).toNat+a=a by omega];rfl
        · rw [appF_ge _ _ (by omega),if_neg e1,show 0+(((ix+1:Nat):Int)).toNat+(a - ((ix:Int) - ((0:Nat):Int)).toNat)=a+1 by omega];rfl
      have c9:0+(IntKind.i64.wrap ((ix:Int)+1)).toNat+((l.length:Int) - IntKind.i64.wrap ((ix:Int)+1)).toNat≤l.length∧Γ.k0≤3∧0+((ix:Int) - 0).toNat≤l.length∧(((ix:Int) - 0).toNat+((l.length:Int) - IntKind.i64.wrap ((ix:Int)+1)).toNat) * 216≤140737488355328∧((ix:Int) - 0).toNat+((l.length:Int) - IntKind.i64.wrap ((ix:Int)+1)).toNat≤9223372036854775807:=⟨by rw [hwx];omega,by omega,by omega,by rw [hwx];omega,by rw [hwx];omega⟩
      have c3:True∧True∧(0:Int)≤0∧(0:Int)≤(ix:Int)∧(ix:Int)≤(l.length:Int):=⟨trivial,trivial,by omega,by omega,by omega⟩
      have c8:True∧True∧(0:Int)≤IntKind.i64.wrap ((ix:Int)+1)∧IntKind.i64.wrap ((ix:Int)+1)≤(l.length:Int)∧(l.length:Int)≤(l.length:Int):=⟨trivial,trivial,by rw [hwx];omega,by rw [hwx];omega,by omega⟩
      refine pcut (fun st=>st=⟨[(3,.ptr 1 0 0),(4,.ptr 2 0 0)],[tapeRow n g at_,rAn nm (l.length - 1) 3,rZG,oRow cD 21 (l.length - 1) (lF dD (l.eraseIdx ix))]⟩) ?_ ?_
      · (refine any_start [] 12 rfl ?_);(first|refine aT 0 ?_|refine aT2 0 ?_|(refine aC 0 ?_ ?_;rotate_left));(first|refine aT 2 ?_|refine aT2 2 ?_|(refine aC 2 ?_ ?_;rotate_left));(first|refine aT 4 ?_|refine aT2 4 ?_|(refine aC 4 ?_ ?_;rotate_left));(first|refine aT 6 ?_|refine aT2 6 ?_|(refine aC 6 ?_ ?_;rotate_left));(first|refine aT 7 ?_|refine aT2 7 ?_|(refine aC 7 ?_ ?_;rotate_left));(refine any_many [1,5] (by kernel_rfl) (by decide) rfl ⟨?_,?_,trivial⟩<;>first|((first|refine any_i 1 (ch:=[]) rfl rfl (pst_read rfl rfl rfl rfl trivial ?_)|refine any_i 1 (ch:=[]) rfl rfl (pst_read rfl rfl rfl rfl Nat.zero_lt_one ?_)|refine any_i 1 (ch:=[]) rfl rfl (pst_read rfl rfl rfl rfl (by exact ⟨by decide,by decide⟩) ?_)|refine any_i 1 (ch:=[]) rfl rfl (pst_read rfl rfl rfl rfl (And.intro (by omega) (by omega)) ?_)|refine any_i 1 (ch:=[]) rfl rfl (pst_read rfl rfl rfl rfl (show (_:Nat) < _ from by first|omega|(simp only [iRow];omega)) ?_)|refine any_i 1 (ch:=[]) rfl rfl (pst_read rfl rfl rfl rfl (show (_:Nat) < n from by omega) ?_)|(refine any_i 1 (ch:=[]) rfl rfl (pst_read rfl rfl rfl rfl ?_ ?_);rotate_left));(refine any_many [3,5] (by kernel_rfl) (by decide) rfl ⟨?_,?_,trivial⟩<;>first|((refine any_i 3 (ch:=[]) rfl rfl (pst_read2 rfl rfl rfl rfl (show True∧True∧(_:Int)≤_∧(_:Int)≤_∧(_:Int)≤_ from c3) ?_));(first|refine aO 5 rfl (ch:=[])  (pst_read rfl rfl rfl rfl trivial ?_)|refine aO 5 rfl (ch:=[])  (pst_read rfl rfl rfl rfl Nat.zero_lt_one ?_)|refine aO 5 rfl (ch:=[])  (pst_read rfl rfl rfl rfl (by exact ⟨by decide,by decide⟩) ?_)|refine aO 5 rfl (ch:=[])  (pst_read rfl rfl rfl rfl (And.intro (by omega) (by omega)) ?_)|refine aO 5 rfl (ch:=[])  (pst_read rfl rfl rfl rfl (show (_:Nat) < _ from by first|omega|(simp only [iRow];omega)) ?_)|refine aO 5 rfl (ch:=[])  (pst_read rfl rfl rfl rfl (show (_:Nat) < n from by omega) ?_)|(refine aO 5 rfl (ch:=[])  (pst_read rfl rfl rfl rfl ?_ ?_);rotate_left));(refine aO 8 rfl (ch:=[])  (pst_read2 rfl rfl rfl rfl (show True∧True∧(_:Int)≤_∧(_:Int)≤_∧(_:Int)≤_ from c8) ?_));(refine aO 9 rfl (ch:=[_])  ( pst_app rfl rfl rfl rfl (show (_:Nat)≤_∧_∧(_:Nat)≤_∧(_:Nat) * 216≤140737488355328∧(_:Nat)≤9223372036854775807 from c9) rfl ?_));(first|refine aT 10 ?_|refine aT2 10 ?_|(refine aC 10 ?_ ?_;rotate_left));(refine aO 11 rfl (ch:=[_])  (pst_store rfl rfl rfl rfl Nat.zero_lt_one ?_));(refine any_done (by kernel_rfl) ?_))|((first|refine any_i 5 (ch:=[]) rfl rfl (pst_read rfl rfl rfl rfl trivial ?_)|refine any_i 5 (ch:=[]) rfl rfl (pst_read rfl rfl rfl rfl Nat.zero_lt_one ?_)|refine any_i 5 (ch:=[]) rfl rfl (pst_read rfl rfl rfl rfl (by exact ⟨by decide,by decide⟩) ?_)|refine any_i 5 (ch:=[]) rfl rfl (pst_read rfl rfl rfl rfl (And.intro (by omega) (by omega)) ?_)|refine any_i 5 (ch:=[]) rfl rfl (pst_read rfl rfl rfl rfl (show (_:Nat) < _ from by first|omega|(simp only [iRow];omega)) ?_)|refine any_i 5 (ch:=[]) rfl rfl (pst_read rfl rfl rfl rfl (show (_:Nat) < n from by omega) ?_)|(refine any_i 5 (ch:=[]) rfl rfl (pst_read rfl rfl rfl rfl ?_ ?_);rotate_left));(refine any_many [3,8] (by kernel_rfl) (by decide) rfl ⟨?_,?_,trivial⟩<;>first|((refine any_i 3 (ch:=[]) rfl rfl (pst_read2 rfl rfl rfl rfl (show True∧True∧(_:Int)≤_∧(_:Int)≤_∧(_:Int)≤_ from c3) ?_));(refine aO 8 rfl (ch:=[])  (pst_read2 rfl rfl rfl rfl (show True∧True∧(_:Int)≤_∧(_:Int)≤_∧(_:Int)≤_ from c8) ?_));(refine aO 9 rfl (ch:=[_])  ( pst_app rfl rfl rfl rfl (show (_:Nat)≤_∧_∧(_:Nat)≤_∧(_:Nat) * 216≤140737488355328∧(_:Nat)≤9223372036854775807 from c9) rfl ?_));(first|refine aT 10 ?_|refine aT2 10 ?_|(refine aC 10 ?_ ?_;rotate_left));(refine aO 11 rfl (ch:=[_])  (pst_store rfl rfl rfl rfl Nat.zero_lt_one ?_));(refine any_done (by kernel_rfl) ?_))|((refine any_i 8 (ch:=[]) rfl rfl (pst_read2 rfl rfl rfl rfl (show True∧True∧(_:Int)≤_∧(_:Int)≤_∧(_:Int)≤_ from c8) ?_));(refine aO 3 rfl (ch:=[])  (pst_read2 rfl rfl rfl rfl (show True∧True∧(_:Int)≤_∧(_:Int)≤_∧(_:Int)≤_ from c3) ?_));(refine aO 9 rfl (ch:=[_])  ( pst_app rfl rfl rfl rfl (show (_:Nat)≤_∧_∧(_:Nat)≤_∧(_:Nat) * 216≤140737488355328∧(_:Nat)≤9223372036854775807 from c9) rfl ?_));(first|refine aT 10 ?_|refine aT2 10 ?_|(refine aC 10 ?_ ?_;rotate_left));(refine aO 11 rfl (ch:=[_])  (pst_store rfl rfl rfl rfl Nat.zero_lt_one ?_));(refine any_done (by kernel_rfl) ?_))))))|((first|refine any_i 5 (ch:=[]) rfl rfl (pst_read rfl rfl rfl rfl trivial ?_)|refine any_i 5 (ch:=[]) rfl rfl (pst_read rfl rfl rfl rfl Nat.zero_lt_one ?_)|refine any_i 5 (ch:=[]) rfl rfl (pst_read rfl rfl rfl rfl (by exact ⟨by decide,by decide⟩) ?_)|refine any_i 5 (ch:=[]) rfl rfl (pst_read rfl rfl rfl rfl (And.intro (by omega) (by omega)) ?_)|refine any_i 5 (ch:=[]) rfl rfl (pst_read rfl rfl rfl rfl (show (_:Nat) < _ from by first|omega|(simp only [iRow];omega)) ?_)|refine any_i 5 (ch:=[]) rfl rfl (pst_read rfl rfl rfl rfl (show (_:Nat) < n from by omega) ?_)|(refine any_i 5 (ch:=[]) rfl rfl (pst_read rfl rfl rfl rfl ?_ ?_);rotate_left));(refine any_many [1,8] (by kernel_rfl) (by decide) rfl ⟨?_,?_,trivial⟩<;>first|((first|refine any_i 1 (ch:=[]) rfl rfl (pst_read rfl rfl rfl rfl trivial ?_)|refine any_i 1 (ch:=[]) rfl rfl (pst_read rfl rfl rfl rfl Nat.zero_lt_one ?_)|refine any_i 1 (ch:=[]) rfl rfl (pst_read rfl rfl rfl rfl (by exact ⟨by decide,by decide⟩) ?_)|refine any_i 1 (ch:=[]) rfl rfl (pst_read rfl rfl rfl rfl (And.intro (by omega) (by omega)) ?_)|refine any_i 1 (ch:=[]) rfl rfl (pst_read rfl rfl rfl rfl (show (_:Nat) < _ from by first|omega|(simp only [iRow];omega)) ?_)|refine any_i 1 (ch:=[]) rfl rfl (pst_read rfl rfl rfl rfl (show (_:Nat) < n from by omega) ?_)|(refine any_i 1 (ch:=[]) rfl rfl (pst_read rfl rfl rfl rfl ?_ ?_);rotate_left));(refine any_many [3,8] (by kernel_rfl) (by decide) rfl ⟨?_,?_,trivial⟩<;>first|((refine any_i 3 (ch:=[]) rfl rfl (pst_read2 rfl rfl rfl rfl (show True∧True∧(_:Int)≤_∧(_:Int)≤_∧(_:Int)≤_ from c3) ?_));(refine aO 8 rfl (ch:=[])  (pst_read2 rfl rfl rfl rfl (show True∧True∧(_:Int)≤_∧(_:Int)≤_∧(_:Int)≤_ from c8) ?_));(refine aO 9 rfl (ch:=[_])  ( pst_app rfl rfl rfl rfl (show (_:Nat)≤_∧_∧(_:Nat)≤_∧(_:Nat) * 216≤140737488355328∧(_:Nat)≤9223372036854775807 from c9) rfl ?_));(first|refine aT 10 ?_|refine aT2 10 ?_|(refine aC 10 ?_ ?_;rotate_left));(refine aO 11 rfl (ch:=[_])  (pst_store rfl rfl rfl rfl Nat.zero_lt_one ?_));(refine any_done (by kernel_rfl) ?_))|((refine any_i 8 (ch:=[]) rfl rfl (pst_read2 rfl rfl rfl rfl (show True∧True∧(_:Int)≤_∧(_:Int)≤_∧(_:Int)≤_ from c8) ?_));(refine aO 3 rfl (ch:=[])  (pst_read2 rfl rfl rfl rfl (show True∧True∧(_:Int)≤_∧(_:Int)≤_∧(_:Int)≤_ from c3) ?_));(refine aO 9 rfl (ch:=[_])  ( pst_app rfl rfl rfl rfl (show (_:Nat)≤_∧_∧(_:Nat)≤_∧(_:Nat) * 216≤140737488355328∧(_:Nat)≤9223372036854775807 from c9) rfl ?_));(first|refine aT 10 ?_|refine aT2 10 ?_|(refine aC 10 ?_ ?_;rotate_left));(refine aO 11 rfl (ch:=[_])  (pst_store rfl rfl rfl rfl Nat.zero_lt_one ?_));(refine any_done (by kernel_rfl) ?_))))|((refine any_i 8 (ch:=[]) rfl rfl (pst_read2 rfl rfl rfl rfl (show True∧True∧(_:Int)≤_∧(_:Int)≤_∧(_:Int)≤_ from c8) ?_));(first|refine aO 1 rfl (ch:=[])  (pst_read rfl rfl rfl rfl trivial ?_)|refine aO 1 rfl (ch:=[])  (pst_read rfl rfl rfl rfl Nat.zero_lt_one ?_)|refine aO 1 rfl (ch:=[])  (pst_read rfl rfl rfl rfl (by exact ⟨by decide,by decide⟩) ?_)|refine aO 1 rfl (ch:=[])  (pst_read rfl rfl rfl rfl (And.intro (by omega) (by omega)) ?_)|refine aO 1 rfl (ch:=[])  (pst_read rfl rfl rfl rfl (show (_:Nat) < _ from by first|omega|(simp only [iRow];omega)) ?_)|refine aO 1 rfl (ch:=[])  (pst_read rfl rfl rfl rfl (show (_:Nat) < n from by omega) ?_)|(refine aO 1 rfl (ch:=[])  (pst_read rfl rfl rfl rfl ?_ ?_);rotate_left));(refine aO 3 rfl (ch:=[])  (pst_read2 rfl rfl rfl rfl (show True∧True∧(_:Int)≤_∧(_:Int)≤_∧(_:Int)≤_ from c3) ?_));(refine aO 9 rfl (ch:=[_])  ( pst_app rfl rfl rfl rfl (show (_:Nat)≤_∧_∧(_:Nat)≤_∧(_:Nat) * 216≤140737488355328∧(_:Nat)≤9223372036854775807 from c9) rfl ?_));(first|refine aT 10 ?_|refine aT2 10 ?_|(refine aC 10 ?_ ?_;rotate_left));(refine aO 11 rfl (ch:=[_])  (pst_store rfl rfl rfl rfl Nat.zero_lt_one ?_));(refine any_done (by kernel_rfl) ?_)))))
        all_goals
          exact kcut (st':=⟨[(3,.ptr 1 0 0),(4,.ptr 2 0 0)],[tapeRow n g at_,rAn nm (l.length - 1) 3,rZG,oRow cD 21 (l.length - 1) (lF dD (l.eraseIdx ix))]⟩) (can_rowsv [0,1,2,4] (k0_sel hk rfl) rfl (.cons rfl (RowEq.cl (tape_cl _ _ _)) (.cons rfl (rAn_eq rfl hEl) (.cons rfl rqq (.cons rfl (o_eq cD_cl (Nat.le_of_eq hEl.symm) hEc) .nil)))) tmq) rfl
      rintro _ rfl
      repeat' (first|refine gg ?_|exact trivial|with_reducible refine wA ?_ ?_|refine Y2.mk ?_ ?_|refine gh ?_|exact qq|fail)
      exact ktapL [3] rfl b1 b2 (by intro l hl;simp at hl;omega) rfl ⟨Nat.zero_lt_one,trivial⟩ (qs:=[vA nm (l.eraseIdx ix)]) ⟨argAgr (by rw [vDs,hlE];exact arg_o (s:=.own) cD_cl rfl trivial (List.Mem.head _)),trivial⟩ ⟨nm,_,rfl,hs,by rw [hlE];omega,fun d hd0=>hD' d (List.mem_of_mem_eraseIdx hd0)⟩
  · rintro _ ⟨at',d',l',b1,b2,hd2,hx2,hl2,hD2,rfl⟩
    repeat' (first|refine gg ?_|exact trivial|with_reducible refine wA ?_ ?_|refine Y2.mk ?_ ?_|refine gh ?_|exact qq|fail)
    have ex:0+((ix:Nat):Int).toNat=ix:=by omega
    rw [ex]
    refine ktapL [3] rfl b1 b2 (by intro l hl;simp at hl;omega) rfl ⟨Nat.zero_lt_one,trivial⟩ (qs:=[vA nm (l'.set ix d')]) ⟨argAgr ?_,trivial⟩ ⟨nm,l'.set ix d',rfl,hs,by rw [List.length_set];exact hl2,fun d hd0=>?_⟩
    · show ArgOk _ _ (.lsl 3 0 l'.length) (.vsl (l'.set ix d').length 21 (tF cD (lF dD (l'.set ix d'))))
      rw [List.length_set]
      refine argLslP rfl trivial (List.Mem.head _) (Nat.le_refl _) fun a ha b hb=>?_
      show ArgOk _ _ ((cond (Nat.beq a ix) (nthP (cD d')) (tF cD (lF dD l') a)) b) (nthP (cD (lF dD (l'.set ix d') a)) b)
      have hset:lF dD (l'.set ix d') a=if a=ix then d' else lF dD l' a:=by
        unfold lF
        simp only [List.getD_eq_getElem?_getD,List.getElem?_set]
        by_cases e1:ix=a
        · subst e1;simp [hx2]
        · simp [e1,Ne.symm e1]
      rw [hset]
      by_cases e1:a=ix
      · rw [if_pos e1,e1,show Nat.beq ix ix=true from Nat.beq_refl _]
        exact argCl (clL_nth _ b (cD_cl d'))
      · have eb:Nat.beq a ix=false:=by cases hb2:Nat.beq a ix;rfl;exact absurd (Nat.eq_of_beq_eq_true hb2) e1
        rw [if_neg e1,eb,cond_false]
        exact argCl (tF_cl cD_cl (lF dD l') a b)
    · rcases List.mem_or_eq_of_mem_set hd0 with h|rfl
      · exact hD2 d h
      · exact hd2
set_option maxHeartbeats 8000000 in
theorem spoilA_t (c:Nat) (hc3:3≤c) (hc:c≤100) (nm:ByteArray) (l:List Df) (hs:nm.size≤9223372036854775807) (hl:l.length≤100) (hD:∀ d,d ∈ l→DK c d):TapC G.P 7 [vA nm l] (fun r=>∃ (nm:ByteArray) (l' : List Df),r=vA nm l'∧nm.size≤9223372036854775807∧l'.length≤l.length+1∧∀ d,d ∈ l'→DK (c+1) d):=by
  intro n g at_ hn h1 h2
  refine ptr_of (G:=G.toPg) (fn:=Tryz.f7) Tryz.func7 rfl rfl rfl ?_;intro Γ hk
  refine pseq ?_
  refine pcut (fun st=>st=⟨[(0,.ptr 0 0 0),(3,.ptr 1 0 0),(4,.ptr 2 0 0)],[tapeRow n g at_,rAg18 nm l,rZG]⟩) ?_ ?_
  · repeat' (first|refine gg ?_|exact trivial|with_reducible refine wA ?_ ?_|refine Y2.mk ?_ ?_|refine gh ?_|exact qq|fail)
    exact kcut (st':=⟨[(0,.ptr 0 0 0),(3,.ptr 1 0 0),(4,.ptr 2 0 0)],[tapeRow n g at_,rAg18 nm l,rZG]⟩) (can_rowsv [0,1,2] (k0_sel hk rfl) rfl (.cons rfl (RowEq.cl (tape_cl _ _ _)) (.cons rfl rqq (.cons rfl rqq .nil))) tmq) rfl
  rintro _ rfl
  refine pseq ?_
  refine pcut (fun st=>st=⟨[(0,.ptr 0 0 0),(3,.ptr 1 0 0),(4,.ptr 2 0 0)],[tapeRow n g at_,rAn nm l.length 3,rZG,oRow cD 21 l.length (lF dD l)]⟩) ?_ ?_
  · repeat' (first|refine gg ?_|exact trivial|with_reducible refine wA ?_ ?_|refine Y2.mk ?_ ?_|refine gh ?_|exact qq|fail)
    refine pop_rowsd [] rfl rfl rfl rfl rfl rfl .nil (copyV_r nm l (by omega)) (by exact ⟨PEq.cl _ (clB_spec _ rfl),trivial⟩) ?_
    rintro r rows ⟨rfl,rfl⟩
    refine ⟨[rAn nm l.length 4,oRow cD 21 l.length (lF dD l)],_,.agg 2 (nthP [vs nm,.lsl 4 0 l.length]),⟨rAn_eq rfl rfl,RowEq.cl (o_cl cD_cl _ _ _),trivial⟩,rfl,peqA rfl,?_⟩
    repeat' (first|refine gg ?_|exact trivial|with_reducible refine wA ?_ ?_|refine Y2.mk ?_ ?_|refine gh ?_|exact qq|fail)
    exact kcut (st':=⟨[(0,.ptr 0 0 0),(3,.ptr 1 0 0),(4,.ptr 2 0 0)],[tapeRow n g at_,rAn nm l.length 3,rZG,oRow cD 21 l.length (lF dD l)]⟩) (can_rowsv [0,1,2,4] (k0_sel hk rfl) rfl (.cons rfl (RowEq.cl (tape_cl _ _ _)) (.cons rfl (rAn_eq rfl rfl) (.cons rfl rqq (.cons rfl (RowEq.cl (o_cl cD_cl _ _ _)) .nil)))) tmq) rfl
  rintro _ rfl
  refine pseq ?_
  refine pcut (fun st=>∃ (at' : Int),0≤at'∧at'≤n∧0 < l.length∧st=⟨[(0,.ptr 0 0 0),(3,.ptr 1 0 0),(4,.ptr 2 0 0)],[tapeRow n g at',rAn nm l.length 3,rZG,oRow cD 21 l.length (lF dD l)]⟩) ?_ ?_
  refine pseq ?_
  refine pcut (fun st=>∃ (at' : Int) (x:Bool),0≤at'∧at'≤n∧(x=false→0 < l.length)∧st=⟨[(0,.ptr 0 0 0),(3,.ptr 1 0 0),(4,.ptr 2 0 0),(17,vb x)],[tapeRow n g at',rAn nm l.length 3,rZG,oRow cD 21 l.length (lF dD l)]⟩) ?_ ?_
  · obtain ⟨b,hb0⟩:∃ b,((l.length:Int) == 0)=b:=⟨_,rfl⟩
    repeat' (first|refine gg ?_|exact trivial|with_reducible refine wA ?_ ?_|refine Y2.mk ?_ ?_|refine gh ?_|exact qq|fail)
    rw [hb0]
    cases b
    · have hpos : 0 < l.length := by
        have : (l.length : Int) ≠ 0 := by simpa using hb0
        omega
      repeat' (first|refine gg ?_|exact trivial|with_reducible refine wA ?_ ?_|refine Y2.mk ?_ ?_|(refine pop_opt 14 rfl rfl ?_)|(refine pop_unguard rfl rfl ?_)|(refine tn1 hn ?_;rintro at_ b1 b2 x hx1 hx2)|refine gh ?_|exact qq|fail)
      refine xdone ?_
      exact kcut (st':=⟨[(0,.ptr 0 0 0),(3,.ptr 1 0 0),(4,.ptr 2 0 0),(17,vb _)],[tapeRow n g _,rAn nm l.length 3,rZG,oRow cD 21 l.length (lF dD l)]⟩) (can_rowsv [0,1,2,3] (k0_sel hk rfl) rfl (.cons rfl (RowEq.cl (tape_cl _ _ _)) (.cons rfl (rAn_eq rfl rfl) (.cons rfl rqq (.cons rfl (RowEq.cl (o_cl cD_cl _ _ _)) .nil)))) tmq) ⟨_,_,b1,b2,(fun _=>hpos),rfl⟩
    · repeat' (first|refine gg ?_|exact trivial|with_reducible refine wA ?_ ?_|refine Y2.mk ?_ ?_|(refine pop_gfalse rfl rfl rfl rfl ?_)|refine gh ?_|exact qq|fail)
      refine xdone ?_
      exact kcut (st':=⟨[(0,.ptr 0 0 0),(3,.ptr 1 0 0),(4,.ptr 2 0 0),(17,vb true)],[tapeRow n g at_,rAn nm l.length 3,rZG,oRow cD 21 l.length (lF dD l)]⟩) (can_rowsv [0,1,2,3] (k0_sel hk rfl) rfl (.cons rfl (RowEq.cl (tape_cl _ _ _)) (.cons rfl (rAn_eq rfl rfl) (.cons rfl rqq (.cons rfl (RowEq.cl (o_cl cD_cl _ _ _)) .nil)))) tmq) ⟨at_,true,h1,h2,(fun h=>by cases h),rfl⟩
  rintro _ ⟨at',x,b1,b2,hx,rfl⟩
  refine pcond rfl ?_ ?_
  · intro hc1
    repeat' (first|refine gg ?_|exact trivial|with_reducible refine wA ?_ ?_|refine Y2.mk ?_ ?_|(refine tn1 hn ?_;rintro at_ b1 b2 x hx1 hx2)|refine gh ?_|exact qq|fail)
    rcases (by omega:x=0∨x=1∨x=2) with rfl|rfl|rfl
    all_goals
      repeat' (first|refine gg ?_|exact trivial|with_reducible refine wA ?_ ?_|refine Y2.mk ?_ ?_|refine gh ?_|exact qq|fail)
      exact ktapL [3] rfl b1 b2 (by intro l hl;simp at hl;omega) rfl ⟨Nat.zero_lt_one,trivial⟩ (qs:=[vA _ l]) ⟨argAgr (arg_o (s:=.own) cD_cl rfl trivial (List.Mem.head _)),trivial⟩ ⟨_,l,rfl,by decide,by omega,fun d hd=>(hD d hd).mono (by omega)⟩
  · intro hc1
    repeat' (first|refine gg ?_|exact trivial|with_reducible refine wA ?_ ?_|refine Y2.mk ?_ ?_|refine gh ?_|exact qq|fail)
    exact kcut (st':=⟨[(0,.ptr 0 0 0),(3,.ptr 1 0 0),(4,.ptr 2 0 0)],[tapeRow n g at',rAn nm l.length 3,rZG,oRow cD 21 l.length (lF dD l)]⟩) (can_rowsv [0,1,2,3] (k0_sel hk rfl) rfl (.cons rfl (RowEq.cl (tape_cl _ _ _)) (.cons rfl (rAn_eq rfl rfl) (.cons rfl rqq (.cons rfl (RowEq.cl (o_cl cD_cl _ _ _)) .nil)))) tmq) ⟨at',b1,b2,hx hc1,rfl⟩
  rintro _ ⟨at',b1,b2,hpos,rfl⟩
  exact spoilA_rest c hc3 hc nm l hs hl hD n g hn Γ hk at' b1 b2 hpos
end Go.Proofs.YtcefhgomkehokaaGreat
namespace Go.Proofs.YtcefhgomkehokaaGreat
theorem zeroX_w {e:Ex} (h:zeroX e=true):e.w≤1:=by
  unfold zeroX at h
  simp only [Bool.and_eq_true,decide_eq_true_eq] at h
  have h:=h.2.2.2.2.2.2
  cases e with
  | nil=>exact Nat.zero_le _
  | mk op vn vd um uh ud nm cnt mode nk kf =>
    have h:nk=0:=h
    subst h
    exact Nat.le_refl _
theorem gd_w {wild:Bool} {hh:Nat} {d:Df} (h:GD wild hh d) (h5:hh≤5):d.body.w≤900000:=by
  by_cases hk:d.kind=3∨d.kind=4
  · exact Nat.le_trans (w_valid 5 _ ((h.wt hk).vl 5 h5)) (by decide)
  · have hd:=h.df
    unfold defS at hd
    have hz:zeroX d.body=true:=by
      by_cases k1:d.kind=1
      · rw [if_pos k1] at hd;simp only [Bool.and_eq_true] at hd;exact hd.2.2.2.1
      · rw [if_neg k1] at hd
        by_cases k5:d.kind=5
        · rw [if_pos k5] at hd;simp only [Bool.and_eq_true] at hd;exact hd.2.2.2.1
        · rw [if_neg k5] at hd
          by_cases k2:d.kind=2
          · rw [if_pos k2] at hd;simp only [Bool.and_eq_true] at hd;exact hd.2.2.2.1
          · rw [if_neg k2,if_neg (fun e=>hk (.inl e)),if_neg (fun e=>hk (.inr e))] at hd;cases hd
    exact Nat.le_trans (zeroX_w hz) (by decide)
theorem good_ago {wild:Bool} {hh:Nat} {l:List Df} (h:AGood wild hh l) (h5:hh≤5):AgO n_metal l:=⟨by decide,fun d hd=>(h.all d hd).bd,fun d hd=>gd_w (h.all d hd) h5⟩
theorem argDs {mem:List Row} {L:List Nat} {x k:Nat} {l:List Df} (hk:l.length=k+1) (hr:rowAt mem x=some (oRow cD 21 (k+1) (lF dD l))) (hL:x ∈ L):ArgOk mem L (.lsl x 0 (k+1)) (vDs l):=by
  have:=arg_o (s:=.own) (L:=L) cD_cl hr trivial hL
  rw [← hk] at this ⊢
  exact this
end Go.Proofs.YtcefhgomkehokaaGreat
namespace Go.Proofs.YtcefhgomkehokaaGreat
abbrev q_a:ByteArray:=⟨#[97]⟩
abbrev q_b:ByteArray:=⟨#[98]⟩
abbrev q_m:ByteArray:=⟨#[109]⟩
abbrev dQr (nm:ByteArray) (b:ByteArray):Df:=⟨3,nm,t0,0,0,fun _=>(0,0,0),.mk 3 0 0 0 0 0 b 0 0 0 kn,0,0,0⟩
def mq2:List Df:=[dQr q_a q_b,dQr q_b q_a]
theorem mq_bd:∀ d,d ∈ mq2→BdD d:=by
  intro d hd
  simp only [mq2,List.mem_cons,List.not_mem_nil,or_false] at hd
  rcases hd with rfl|rfl
  · exact ⟨by decide,fun i hi=>absurd hi (Nat.not_lt_zero i),Nat.zero_le _,.mk ⟨by decide,by decide,by decide⟩ (fun i hi=>absurd hi (Nat.not_lt_zero i)),by show (-9223372036854775808:Int)≤0;decide,by show (0:Int)≤9223372036854775807;decide⟩
  · exact ⟨by decide,fun i hi=>absurd hi (Nat.not_lt_zero i),Nat.zero_le _,.mk ⟨by decide,by decide,by decide⟩ (fun i hi=>absurd hi (Nat.not_lt_zero i)),by show (-9223372036854775808:Int)≤0;decide,by show (0:Int)≤9223372036854775807;decide⟩
theorem mq_ok:AgO q_m mq2:=⟨by decide,mq_bd,by
  intro d hd
  simp only [mq2,List.mem_cons,List.not_mem_nil,or_false] at hd
  rcases hd with rfl|rfl
  · exact Nat.le_of_ble_eq_true rfl
  · exact Nat.le_of_ble_eq_true rfl⟩
theorem mq_ord:OrdS q_m mq2 0=([],11):=by decide +kernel
theorem mq_cyc:CycS q_m mq2 0=[0,1]:=by decide +kernel
theorem mq_nee:NeedsS q_m mq2 0 0=([1],0):=by decide +kernel
theorem mq_act:ActS q_m mq2 0=[0,1]:=by decide +kernel
theorem mq_dwn:DwnS q_m mq2 0 q_a=[0,1]:=by decide +kernel
abbrev rS2:Row:=⟨.own,true,1,2,fun _=>nthP [vs q_m,.lsl 0 0 2]⟩
set_option maxHeartbeats 4000000 in
theorem sane21_c:PureC G.P 11 [] (fun r=>r=vb true):=by
  have c1:=Order_c q_m mq2 0 mq_ok (by decide)
  have c2:=Cycle_c q_m mq2 0 mq_ok (by decide)
  have c3:=Needs_c q_m mq2 0 0 mq_ok (by decide)
  have c4:=Active_c q_m mq2 0 mq_ok (by decide)
  have c5:=Downstream_c q_m mq2 0 q_a mq_ok (by decide)
  rw [mq_ord] at c1
  rw [mq_cyc] at c2
  rw [mq_nee] at c3
  rw [mq_act] at c4
  rw [mq_dwn] at c5
  refine pure_of (G:=G.toPg) (fn:=Tryz.f11) Tryz.func11 rfl rfl rfl ?_;intro Γ hk
  repeat' (first|refine gg ?_|exact trivial|with_reducible refine wA ?_ ?_|refine Y2.mk ?_ ?_|refine gh ?_|exact qq|fail)
  refine ocan0 (st':=⟨[(3,.ptr 1 0 0),(18,.agg 2 (nthP [vs q_m,.lsl 0 0 2]))],[oRow cD 21 2 (lF dD mq2),rS2]⟩) (can_rowsv [2,3] (k0_sel (show Γ.k0=0 from hk) rfl) rfl (.cons rfl (o_eqP (Nat.le_refl _) fun a ha b hb=>by
    have hb:b < 21:=hb
    rcases (by omega:a=0∨a=1) with rfl|rfl<;>rcases split21 hb with rfl|rfl|rfl|rfl|rfl|rfl|rfl|rfl|rfl|rfl|rfl|rfl|rfl|rfl|rfl|rfl|rfl|rfl|rfl|rfl|rfl<;>first|exact PEq.refl _|exact peq_nil) (.cons rfl rqq .nil)) (by exact ⟨PEq.refl _,(show PEq (.agg 2 _) (.agg 2 _) from PEq.agg (fun i hi=>by rcases (by omega:i=0∨i=1) with rfl|rfl<;>exact PEq.refl _)),trivial⟩)) ?_
  refine pop_callc [0] rfl rfl rfl rfl rfl rfl (by intro l hl;rw [show Γ.k0=0 from hk];exact Nat.zero_le _) c1 ⟨argAgr (arg_o (s:=.own) cD_cl rfl trivial (List.Mem.head _)),argVal,trivial⟩ ?_
  rintro _ rfl
  repeat' (first|refine gg ?_|exact trivial|with_reducible refine wA ?_ ?_|refine Y2.mk ?_ ?_|refine gh ?_|exact qq|fail)
  refine pop_callc [0] rfl rfl rfl rfl rfl rfl (by intro l hl;rw [show Γ.k0=0 from hk];exact Nat.zero_le _) c2 ⟨argAgr (arg_o (s:=.imm) cD_cl rfl trivial (List.Mem.head _)),argVal,trivial⟩ ?_
  rintro _ rfl
  repeat' (first|refine gg ?_|exact trivial|with_reducible refine wA ?_ ?_|refine Y2.mk ?_ ?_|refine gh ?_|exact qq|fail)
  refine pop_callc [0] rfl rfl rfl rfl rfl rfl (by intro l hl;rw [show Γ.k0=0 from hk];exact Nat.zero_le _) c3 ⟨argAgr (arg_o (s:=.imm) cD_cl rfl trivial (List.Mem.head _)),argVal,argVal,trivial⟩ ?_
  rintro _ rfl
  repeat' (first|refine gg ?_|exact trivial|with_reducible refine wA ?_ ?_|refine Y2.mk ?_ ?_|(intro h;first|exact ⟨h,by decide,by decide⟩|exact ⟨by decide,by decide⟩|exact ⟨h,by decide⟩|exact ⟨h,h,by decide⟩|exact ⟨h,h,by decide,by decide⟩)|refine gh ?_|exact qq|fail)
  refine pop_opt 64 rfl rfl ?_
  refine pop_unguard rfl rfl ?_
  refine pop_callc [0] rfl rfl rfl rfl rfl rfl (by intro l hl;rw [show Γ.k0=0 from hk];exact Nat.zero_le _) c4 ⟨argAgr (arg_o (s:=.imm) cD_cl rfl trivial (List.Mem.head _)),argVal,trivial⟩ ?_
  rintro _ rfl
  repeat' (first|refine gg ?_|exact trivial|with_reducible refine wA ?_ ?_|refine Y2.mk ?_ ?_|(intro h;first|exact ⟨h,by decide,by decide⟩|exact ⟨by decide,by decide⟩|exact ⟨h,by decide⟩|exact ⟨h,h,by decide⟩|exact ⟨h,h,by decide,by decide⟩)|refine gh ?_|exact qq|fail)
  refine pop_opt 70 rfl rfl ?_
  refine pop_unguard rfl rfl ?_
  refine pop_callc [0] rfl rfl rfl rfl rfl rfl (by intro l hl;rw [show Γ.k0=0 from hk];exact Nat.zero_le _) c5 ⟨argAgr (arg_o (s:=.imm) cD_cl rfl trivial (List.Mem.head _)),argVal,argVal,trivial⟩ ?_
  rintro _ rfl
  repeat' (first|refine gg ?_|exact trivial|with_reducible refine wA ?_ ?_|refine Y2.mk ?_ ?_|(intro h;first|exact ⟨h,by decide,by decide⟩|exact ⟨by decide,by decide⟩|exact ⟨h,by decide⟩|exact ⟨h,h,by decide⟩|exact ⟨h,h,by decide,by decide⟩)|refine gh ?_|exact qq|fail)
  refine xdone ?_
  refine kretv rfl ⟨trivial,trivial⟩ rfl (eqB ?_)
  rfl
end Go.Proofs.YtcefhgomkehokaaGreat
namespace Go.Proofs.YtcefhgomkehokaaGreat
def IntsAt (w:World) (v:Value) (l:List Int):Prop :=
  ∃ (a:Option Addr) (cap:Nat),v=.slice a l.length cap∧l.length≤cap∧l.length≤9223372036854775807 ∧
    ∀ k,k < l.length→∃ b off,a=some ⟨b,off,none⟩∧b < w.heap.size∧w.cell? ⟨b,off+k,none⟩=some (.int .i64 (l.getD k 0))
theorem intsAt_of_row {w : World} {a : Option Addr} {len cap : Nat} {zs : List Int} (h : (a = none ∧ len = 0 ∧ cap = 0 ∧ zs = []) ∨ ∃ x, a = some x ∧ len ≤ cap ∧ cap ≤ maxLen ∧ zs.length = cap ∧ (∀ i, i < zs.length → w.cell? (x.add i) = some (.int .i64 (zs.getD i 0))) ∧ ∀ n ∈ zs, (Lit.int .i64 n).wf = true) :
    IntsAt w (.slice a len cap) (zs.take len):=by
  rcases h with ⟨rfl,rfl,rfl,rfl⟩|⟨x,rfl,h1,h2,h3,h4,_⟩
  · exact ⟨none,0,rfl,by simp,by simp,fun k hk=>by simp at hk⟩
  · have hl:(zs.take len).length=len:=by simp;omega
    unfold maxLen at h2
    refine ⟨some x,cap,by rw [hl],by rw [hl];omega,by rw [hl];omega,fun k hk=>?_⟩
    rw [hl] at hk
    have hc:=h4 k (by omega)
    have hc0:=h4 0 (by omega)
    obtain ⟨b,off,spot⟩:=x
    have hs:spot=none:=by
      cases spot with
      | none=>rfl
      | some q =>
        simp only [World.cell?,Addr.add,if_true] at hc0
        split at hc0<;>simp at hc0
    subst hs
    have hc2:w.cell? ⟨b,off+k,none⟩=some (.int .i64 (zs.getD k 0)):=by
      rw [← hc];congr 1;unfold Addr.add;split<;>simp_all
    refine ⟨b,off,rfl,?_,by rw [hc2];simp [List.getElem?_take,hk]⟩
    by_cases hb:b < w.heap.size
    · exact hb
    · simp [World.cell?,Array.getElem?_eq_none (show w.heap.size≤b by omega)] at hc2
theorem IntsAt.rel {w:World} {v:Value} {l:List Int} (h:IntsAt w v l) (ρ:Nat→Loc):VRel 0 ρ (fun b=>b < w.heap.size) w (.vsl l.length 1 (tI fun i=>l.getD i 0)) v:=by
  obtain ⟨a,cap,rfl,hcap,hl,hc⟩:=h
  refine ⟨a,cap,rfl,hcap,?_⟩
  by_cases h0:l.length=0
  · exact .inl h0
  · obtain ⟨b,off,e1,e2,_⟩:=hc 0 (by omega)
    refine .inr ⟨b,off,e1,e2,fun i hi j hj=>?_⟩
    obtain ⟨b',off',f1,f2,f3⟩:=hc i hi
    rw [e1] at f1
    simp only [Option.some.injEq,Addr.mk.injEq] at f1
    obtain ⟨rfl,rfl,_⟩:=f1
    obtain rfl:j=0:=by omega
    exact ⟨_,by simpa using f3,rfl,rfl⟩
theorem law_of {P : Program} {f : FuncId} {args : List PV} {vs : List Value} {w : World} (h : PureC P f args (fun r => r = vb true)) (ha : ARel (fun _ => ⟨0, 0, 0⟩) (fun b => b < w.heap.size) w args vs) (hG : GOk (fun b => b < w.heap.size) w := by exact fun x hx => by cases hx) :
    Calls P f vs.toArray w fun e w'=>e=.returned (.bool true)∧Ext w w' :=
  (h.2 _ _ w vs (fun _ h=>h) hG ha).mono fun e w' ⟨v,r,h1,h2,h3,h4⟩=>by
    subst h2;exact ⟨by rw [h1,show v=.bool true from h4],h3⟩
end Go.Proofs.YtcefhgomkehokaaGreat
namespace Go.Proofs.YtcefhgomkehokaaGreat
theorem bk_zero {c:Nat} {e:Ex} (h:zeroX e=true) (hb:Bd e):BK c e:=by
  have h0:e.nk=0:=by
    simp [zeroX] at h
    exact h.2.2.2.2.2.2
  cases hb with
  | nil=>exact .nil
  | mk hb _=>exact .mk hb (by have:_=0:=h0;simp only [Ex.nk] at this;omega) (fun i hi=>by have:_=0:=h0;simp only [Ex.nk] at this;omega)
theorem ents_ne {n:Nat} {f:Nat→En} (h:entsS n f=true):n≤64:=by
  unfold entsS at h
  simp only [Bool.and_eq_true,decide_eq_true_eq] at h
  exact h.1.2
theorem gd_w3 {wild:Bool} {hh:Nat} {d:Df} (h:GD wild hh d) (h5:hh≤5):d.body.w≤3000:=by
  by_cases hk:d.kind=3∨d.kind=4
  · exact Nat.le_trans (w_valid 5 _ ((h.wt hk).vl 5 h5)) (by decide)
  · have hd:=h.df
    unfold defS at hd
    have hz:zeroX d.body=true:=by
      by_cases k1:d.kind=1
      · rw [if_pos k1] at hd;simp only [Bool.and_eq_true] at hd;exact hd.2.2.2.1
      · rw [if_neg k1] at hd
        by_cases k5:d.kind=5
        · rw [if_pos k5] at hd;simp only [Bool.and_eq_true] at hd;exact hd.2.2.2.1
        · rw [if_neg k5] at hd
          by_cases k2:d.kind=2
          · rw [if_pos k2] at hd;simp only [Bool.and_eq_true] at hd;exact hd.2.2.2.1
          · rw [if_neg k2,if_neg (fun e=>hk (.inl e)),if_neg (fun e=>hk (.inr e))] at hd;cases hd
    exact Nat.le_trans (zeroX_w hz) (by decide)
theorem gd_dk {wild:Bool} {hh:Nat} {d:Df} (h:GD wild hh d) (h5:hh≤5):DK 3 d:=by
  have hd:=h.df
  have hne:d.ne≤64∧(zeroX d.body=true∨validS 32 d.body=true):=by
    unfold defS at hd
    repeat' split at hd
    all_goals first
      | cases hd;done
      | (simp only [Bool.and_eq_true, decide_eq_true_eq] at hd
         first
           | exact ⟨by omega,.inl hd.2.2.2.1⟩
           | exact ⟨by omega,.inr hd.2.2.2.1⟩
           | exact ⟨ents_ne hd.2.2.1,.inl hd.2.2.2.1⟩)
  refine ⟨h.bd.nm,h.bd.ef,by omega,?_,h.bd.st,gd_w3 h h5⟩
  rcases hne.2 with h2|h2
  · exact bk_zero h2 h.bd.body
  · exact BK.of_valid 32 _ h2 h.bd.body
theorem dk_ago {c:Nat} {nm:ByteArray} {l:List Df} (hc:c≤100) (hs:nm.size≤9223372036854775807) (h:∀ d,d ∈ l→DK c d):AgO nm l:=⟨hs,fun d hd=>(h d hd).bd (by omega),fun d hd=>by have:=(h d hd).w;omega⟩
theorem reads_ok (nm:ByteArray) (l:List Df) (day i:Int) (s:ByteArray) (h:AgO nm l) (hl:l.length≤900000):PureC G.P 8 [vA nm l,vi day,vi i,vs s] (fun r=>r=vb true) :=
  reads_c nm l day i s h hl (cyc_eq nm l day).1 (Nat.le_trans (cyc_eq nm l day).2 (by omega))
theorem wish_t:TapC G.P 9 [] (fun r=>∃ x:Int,r=vi x):=by
  intro n g at_ hn h1 h2
  refine ptr_of (G:=G.toPg) (fn:=Tryz.f9) Tryz.func9 rfl rfl rfl ?_;intro Γ hk
  repeat' (first|refine gg ?_|exact trivial|with_reducible refine wA ?_ ?_|refine Y2.mk ?_ ?_|(refine pop_tapl (G:=G) rfl rfl rfl rfl rfl rfl rfl rfl rfl rfl rfl (by omega) rfl (fun _=>rfl) rfl (pick_t _ _ rfl (by decide) (by decide)) hn (by assumption) (by assumption) ?_;rintro at_ _ b1 b2 ⟨x,rfl,hx⟩;simp only [unL,List.mem_cons,List.not_mem_nil,or_false] at hx)|refine gh ?_|exact qq|fail)
  refine xdone ?_
  exact ktap rfl b1 b2 rfl ⟨trivial,trivial⟩ rfl ⟨_,rfl⟩
def nms6:List ByteArray:=[n_h,n_r1,n_w,n_gross,n_r3,n_a]
theorem nm6_row {x:Int} (h1:0≤x) (h2:x < 6∨x=0):nthP [vs n_h,vs n_r1,vs n_w,vs n_gross,vs n_r3,vs n_a] ((0+x.toNat) * 1+0)=vs (lF ⟨#[]⟩ nms6 x.toNat):=by
  obtain ⟨k,rfl⟩:∃ k:Nat,x=k:=⟨x.toNat,by omega⟩
  rcases (by omega:k=0∨k=1∨k=2∨k=3∨k=4∨k=5) with rfl|rfl|rfl|rfl|rfl|rfl<;>rfl
set_option maxHeartbeats 16000000 in
theorem reads21_c (n:Nat) (g:Nat→Int) (day i:Int) (s:ByteArray) (hn:n≤9223372036854775807):PureC G.P 3 [.vsl n 1 (tI g),vi day,vi i,vs s] (fun r=>r=vb true):=by
  refine pure_of (G:=G.toPg) (fn:=Tryz.f3) Tryz.func3 rfl rfl rfl ?_;intro Γ hk
  repeat' (first|refine gg ?_|exact trivial|with_reducible refine wA ?_ ?_|refine Y2.mk ?_ ?_|refine gh ?_|exact qq|fail)
  refine pop_rowsc [] rfl rfl rfl rfl rfl rfl .nil (new_c n g) (by exact ⟨PEq.refl _,trivial⟩) ?_
  rintro r rows ⟨rfl,rfl⟩
  refine ⟨_,_,rfl,⟨tape_cl _ _ _,trivial⟩,rfl,?_⟩
  repeat' (first|refine gg ?_|exact trivial|with_reducible refine wA ?_ ?_|refine Y2.mk ?_ ?_|refine gh ?_|exact qq|fail)
  refine pop_rowsd [0] rfl rfl rfl rfl rfl rfl (by exact .cons rfl trivial (RowEq.cl (tape_cl _ _ _)) .nil) (agreement4_r 2 (by omega) true n g 0 hn (by omega) (by omega)) (by exact ⟨PEq.refl _,PEq.refl _,PEq.refl _,trivial⟩) ?_
  rintro r rows ⟨at_,k,l,b1,b2,hlk,hA,rfl,rfl⟩
  refine ⟨[tapeRow n g at_,rA (k+1) 2,oRow cD 21 (k+1) (lF dD l)],_,.agg 2 (nthP [vs n_metal,.lsl 2 0 (k+1)]),⟨RowEq.cl (tape_cl _ _ _),rA_eq rfl,RowEq.cl (o_cl cD_cl _ _ _),trivial⟩,rfl,peqA rfl,?_⟩
  have hk30:=hA.len
  have hDK:∀ d,d ∈ l→DK 3 d:=fun d hd=>gd_dk (hA.all d hd) (by omega)
  have hag:=good_ago hA (by omega)
  have hR:=fun day i s=>reads_ok n_metal l day i s hag (by omega)
  have cS:=spoilA_t 3 (by omega) (by omega) n_metal l (by decide) (by omega) hDK
  repeat' (first|refine gg ?_|exact trivial|with_reducible refine wA ?_ ?_|refine Y2.mk ?_ ?_|refine gh ?_|exact qq|fail)
  refine ocan0 (st':=⟨[(1,vi day),(2,vi i),(3,vs s),(9,.ptr 0 0 0),(10,.ptr 1 0 0),(17,.ptr 0 0 0),(18,vA n_metal l)],[tapeRow n g at_,rA1 n_metal l]⟩) ((can_frzb [2] 3 (fun _=>nthP [vs n_metal,vDs l]) (tm:=[(1,vi day),(2,vi i),(3,vs s),(9,.ptr 0 0 0),(10,.ptr 3 0 0),(17,.ptr 0 0 0),(18,vA n_metal l)]) (by intro l hl;rw [hk];exact Nat.zero_le _) rfl rfl rfl (fun i hi j hj=>by
    have hj:j < 2:=hj
    obtain rfl|rfl:j=0∨j=1:=by omega
    · exact argVal
    · exact argDs hlk rfl (List.Mem.head _)) (by exact ⟨.inl rfl,.inl rfl,.inl rfl,.inl rfl,.inl rfl,.inl rfl,.inr (argAgr (argDs hlk rfl (List.Mem.head _))),trivial⟩)).trans (can_rowsv [0,3] (k0_sel hk rfl) rfl (.cons rfl (RowEq.cl (tape_cl _ _ _)) (.cons rfl (RowEq.cl (rA1_cl _ _)) .nil)) (by exact ⟨PEq.refl _,PEq.refl _,PEq.refl _,PEq.refl _,PEq.refl _,PEq.refl _,PEq.cl (vA n_metal l) (clA ⟨trivial,trivial,trivial⟩),trivial⟩))) ?_
  clear hk30
  have hl30:=hA.len
  repeat' (first|refine gg ?_|exact trivial|with_reducible refine wA ?_ ?_|refine Y2.mk ?_ ?_|(refine t1 cS hn ?_;rintro at_ _ b1 b2 ⟨nm1,l1,rfl,hs1,hl1,hD1⟩)|(refine t2 cS hn ?_;rintro at_ _ b1 b2 ⟨nm1,l1,rfl,hs1,hl1,hD1⟩)|(refine t3 cS hn ?_;rintro at_ _ b1 b2 ⟨nm1,l1,rfl,hs1,hl1,hD1⟩)|refine gh ?_|exact qq|fail)
  have hag1:=dk_ago (by omega) hs1 hD1
  have hR1:=fun day i s=>reads_ok nm1 l1 day i s hag1 (by omega)
  have cS1:=spoilA_t 4 (by omega) (by omega) nm1 l1 hs1 (by omega) hD1
  have hwn:IntKind.i64.wrap ((l.length:Int)+2)=(l.length:Int)+2:=w64 (by omega) (by omega)
  repeat' (first|refine gg ?_|exact trivial|with_reducible refine wA ?_ ?_|refine Y2.mk ?_ ?_|refine xs_startH (id:=5) [1,2] false [.take 0,.take 1,.take 3,.take 4,.take 5,.take 9] 34 rfl (by kernel_rfl) ?_|refine BrAll.cons ?_ ?_|exact BrAll.nil|refine xs_brT (n:=40) [0,1,3,4,5,9] [(2,[],false,33),(8,[.one 2,.one 6,.take 7,.one 10,.take 11],false,28)] (by decide +kernel) rfl (by kernel_rfl) (by kernel_rfl) ?_|refine xs_brT (n:=40) [0,1,2,3,4,5,9] [(6,[.take 7],false,31),(8,[.one 6,.take 7,.one 10,.take 11],false,28)] (by decide +kernel) rfl (by kernel_rfl) (by kernel_rfl) ?_|refine xs_brT (n:=40) [0,1,2,3,4,5,6,7,9] [(8,[.one 10,.take 11],false,28),(10,[.one 8,.take 11],false,28)] (by decide +kernel) rfl (by kernel_rfl) (by kernel_rfl) ?_|refine xs_moreF (sch:=[.take 12]) (fin:=false) (m':=27) (n:=40) [0,1,2,3,4,5,6,7,8,9,10,11] (by decide +kernel) (by kernel_rfl) ?_|refine xs_moreF (sch:=[.one 13,.take 14,.take 15,.take 16,.take 18,.take 19,.one 17,.one 20,.one 21,.take 22,.take 23,.take 24,.take 25,.take 26,.take 27,.one 28,.take 29,.take 30,.take 31,.take 32,.one 33,.one 34,.take 35,.take 36,.one 37,.take 38,.take 39]) (fin:=true) (m':=0) (n:=40) [0,1,2,3,4,5,6,7,8,9,10,11,12] (by decide +kernel) (by kernel_rfl) ?_|refine ⟨_,[],true,rfl,rfl,stepOp_pst rfl ?_ ?_⟩|(rw [hwn])|(refine xs_takeR rfl rfl rfl rfl (pread_cell (q:=vs (lF ⟨#[]⟩ nms6 x.toNat)) rfl rfl rfl rfl rfl (nm6_row hx1 hx2)) rfl (show (0+x.toNat) < 6 from by omega) ?_)|(refine t1 wish_t hn ?_;rintro at_ _ b1 b2 ⟨wd,rfl⟩)|(refine t2 wish_t hn ?_;rintro at_ _ b1 b2 ⟨wd,rfl⟩)|(refine t3 wish_t hn ?_;rintro at_ _ b1 b2 ⟨wd,rfl⟩)|(refine tn2 hn ?_;rintro at_ b1 b2 x hx1 hx2)|(refine tn3 hn ?_;rintro at_ b1 b2 x hx1 hx2)|refine zz ((hR _ _ _)) ?_|refine gh ?_|exact qq|refine xs_growN 3 rfl rfl trivial ?_|fail)
  all_goals
    refine ps_opt 38 rfl rfl ?_
    refine ps_opt 39 rfl rfl ?_
    refine ps_opt 41 rfl rfl ?_
    refine ps_opt 42 rfl rfl ?_
    refine xs_one (ch:=[_]) rfl rfl rfl (pst_unguard rfl rfl (pz wish_t hn ?_))
    rintro at_ _ b1 b2 ⟨wd2,rfl⟩
    refine xs_one (ch:=[_]) rfl rfl rfl (pst_unguard rfl rfl (pzn hn ?_))
    rintro at_ _ b1 b2 ⟨x2,rfl,hx3,hx4⟩
    refine xs_one (ch:=[]) rfl rfl rfl (pst_unguard rfl rfl (pst_callv rfl rfl rfl rfl rfl (hR1 _ _ _) (by exact rfl) rfl rfl ?_))
    repeat' (first|refine gg ?_|exact trivial|with_reducible refine wA ?_ ?_|refine Y2.mk ?_ ?_|refine gh ?_|exact qq|fail)
    refine ps_opt 47 rfl rfl ?_
    refine ps_opt 48 rfl rfl ?_
    refine ps_opt 49 rfl rfl ?_
    refine ps_opt 50 rfl rfl ?_
    refine xs_one (ch:=[]) rfl rfl rfl (pst_unguard rfl rfl (pst_callv rfl rfl rfl rfl rfl (hR _ _ _) (by exact rfl) rfl rfl ?_))
    repeat' (first|refine gg ?_|exact trivial|with_reducible refine wA ?_ ?_|refine Y2.mk ?_ ?_|refine gh ?_|exact qq|fail)
    refine ps_opt 54 rfl rfl ?_
    refine ps_opt 55 rfl rfl ?_
    refine xs_one (ch:=[_]) rfl rfl rfl (pst_unguard rfl rfl (pz cS1 hn ?_))
    rintro at_ _ b1 b2 ⟨nm2,l2,rfl,hs2,hl2,hD2⟩
    have hag2:=dk_ago (by omega) hs2 hD2
    have hR2:=fun day i s=>reads_ok nm2 l2 day i s hag2 (by omega)
    refine xs_one (ch:=[]) rfl rfl rfl (pst_unguard rfl rfl (pst_callv rfl rfl rfl rfl rfl (hR2 _ _ _) (by exact rfl) rfl rfl ?_))
    repeat' (first|refine gg ?_|exact trivial|with_reducible refine wA ?_ ?_|refine Y2.mk ?_ ?_|refine zz sane21_c ?_|refine gh ?_|exact qq|fail)
    refine xdone ?_
    exact kretv rfl ⟨trivial,trivial⟩ rfl rfl
theorem depReads_walk (v:Value) (l:List Int) (x y:Int) (s:ByteArray) (w:World) (h:IntsAt w v l):Calls G.P 3 #[v,.int .i64 x,.int .i64 y,.string s] w fun e w'=>e=.returned (.bool true)∧Ext w w':=by
  have hl:l.length≤9223372036854775807:=by obtain ⟨_,_,_,_,h,_⟩:=h;exact h
  exact law_of (vs:=[v,.int .i64 x,.int .i64 y,.string s]) (reads21_c l.length _ x y s hl) ⟨h.rel _,rfl,rfl,rfl,trivial⟩
end Go.Proofs.YtcefhgomkehokaaGreat
