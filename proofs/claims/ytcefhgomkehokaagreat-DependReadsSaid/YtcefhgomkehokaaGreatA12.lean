/- The reference's walk: what the names of an expression mean (printed by wip/tools/gen_wk.py). -/
import Derived.Test.YtcefhgomkehokaaGreatA11
import Derived.Test.YtcefhgomkehokaaGreatA09
set_option linter.unusedSimpArgs false
set_option linter.unusedVariables false
set_option maxRecDepth 100000
namespace Go.Proofs.YtcefhgomkehokaaGreat
def mnE (l:List Df) (act:List Int) (e:Ex):Int:=(meanI l act e).getD (-1)
structure MemOk (f:Ex→Int) (P:List Int) (R:List Ex) (M:List Int):Prop where
  mem:∀ x,x ∈ M↔x ∈ P∨x ∈ R.map f
  len:M.length≤P.length+R.length
theorem MemOk.nil {f:Ex→Int} {P:List Int} : MemOk f P [] P:=⟨fun x=>by simp,by simp⟩
theorem MemOk.trans {f:Ex→Int} {P M N:List Int} {R S:List Ex} (h:MemOk f P R M) (h2:MemOk f M S N):MemOk f P (R ++ S) N:=⟨fun x=>by
  rw [h2.mem,h.mem,List.map_append,List.mem_append,or_assoc],by have:=h.len;have:=h2.len;rw [List.length_append];omega⟩
theorem MemOk.found {f:Ex→Int} {P M:List Int} {R:List Ex} {e:Ex} (h:MemOk f P R M) (he:f e ∈ M):MemOk f P ([e] ++ R) M:=⟨fun x=>by
  rw [h.mem,List.map_append,List.mem_append]
  constructor
  · rintro (h1|h1)
    · exact .inl h1
    · exact .inr (.inr h1)
  · rintro (h1|h1|h1)
    · exact .inl h1
    · have:x=f e:=by simpa using h1
      subst this
      exact (h.mem _).1 he
    · exact .inr h1,by have:=h.len;rw [List.length_append];omega⟩
theorem MemOk.add {f:Ex→Int} {P M:List Int} {R:List Ex} {e:Ex} (h:MemOk f P R M):MemOk f P ([e] ++ R) (M ++ [f e]):=⟨fun x=>by
  rw [List.mem_append,h.mem,List.map_append,List.mem_append,List.mem_singleton]
  constructor
  · rintro ((h1|h1)|h1)
    · exact .inl h1
    · exact .inr (.inr h1)
    · exact .inr (.inl (by simp [h1]))
  · rintro (h1|h1|h1)
    · exact .inl (.inl h1)
    · exact .inr (by simpa using h1)
    · exact .inl (.inr h1),by have:=h.len;rw [List.length_append,List.length_append,List.length_singleton,List.length_singleton];omega⟩
theorem MemOk.skip {f:Ex→Int} {P M:List Int} {R:List Ex} (h:MemOk f P R M):MemOk f P ([] ++ R) M:=h
theorem oI_cl (k:Nat) (g:Nat→Int):rowCl (oRow c1 1 k g):=fun i _ j _=>tF_cl c1_cl g i j
theorem rowI_nil {τ:Nat→Option Nat} {f:Nat→Nat→PV} {g:Nat→Int} : RowEq (Row.ren τ ⟨sOf 0,false,0,1,f⟩) (vRow c1 1 0 g):=⟨rfl,rfl,Nat.le_refl 0,fun i hi=>absurd hi (Nat.not_lt_zero i)⟩
def OwnI (f:Ex→Int) (P:List Int) (R:List Ex) (r:PV) (rows:List Row):Prop:=∃ (m:Nat) (M:List Int),M.length=m+1∧MemOk f P R M∧((r=.lsl 0 0 (m+1)∧rows=[oRow c1 1 (m+1) (lF 0 M)])∨∃ (k' : Nat) (g' : Nat→Int),r=.lsl 1 0 (m+1)∧rows=[oRow c1 1 k' g',oRow c1 1 (m+1) (lF 0 M)])
structure WkC (nm:ByteArray) (l:List Df) (act:List Int) (e:Ex):Prop where
  nil:RowsC G.P 74 [] [vA nm l,sV act,vX e,nilX] (fun r rows=>∃ (k:Nat) (M:List Int),M.length=k∧MemOk (mnE l act) [] (refsE e) M∧r=slP k 0∧rows=[vRow c1 1 k (lF 0 M)])
  own:∀ (P:List Int) (k:Nat),P.length=k+1→P.length+e.w≤1000000→RowsC G.P 74 [oRow c1 1 (k+1) (lF 0 P)] [vA nm l,sV act,vX e,.lsl 0 0 (k+1)] (OwnI (mnE l act) P (refsE e))
theorem app_I {τ:Nat→Option Nat} {P:List Int} {e:Int} {k M sz:Nat} {f g:Nat→Nat→PV} (hP:P.length=k) (hM:M=k+1) (hs:sz=1) (hf:f=tF c1 (lF 0 P)) (hg:∀ b,g 0 b=nthP (c1 e) b):RowEq (Row.ren τ ⟨.own,false,M,sz,appF k f g⟩) (oRow c1 1 (k+1) (lF 0 (P ++ [e]))):=by
  subst hM hs hf hP
  refine ⟨rfl,rfl,Nat.le_refl _,fun a ha b hb=>?_⟩
  have ha:a < P.length+1:=ha
  show PEq ((appF P.length (tF c1 (lF 0 P)) g a b).ren τ) (nthP (c1 (lF 0 (P ++ [e]) a)) b)
  by_cases h:a < P.length
  · rw [appF_lt _ _ h,lF_lt h];exact PEq.cl _ (tF_cl c1_cl _ a b)
  · obtain rfl:a=P.length:=by omega
    rw [appF_ge _ _ (Nat.le_refl _),Nat.sub_self,lF_at,hg];exact PEq.cl _ (clL_nth _ b (c1_cl e))
theorem mnE_op {l:List Df} {act:List Int} {op vn vd um uh ud:Int} {nm0:ByteArray} {cnt mode:Int} {nk:Nat} {kf:Nat→Ex} (h:op=3∨op=4):mnE l act (.mk op vn vd um uh ud nm0 cnt mode nk kf)=mnI l act nm0 (op == 4):=by
  unfold mnE mnI
  rw [mean_congr (e':=nmX (op == 4) nm0)]
  · rcases h with rfl|rfl<;>rfl
  · rfl
theorem argsW {τ:Nat→Option Nat} {nm:ByteArray} {l:List Df} {act:List Int} {kf:Nat→Ex} {i:Nat} {p q:PV} (h:PEq (p.ren τ) q):PEqL [(vA nm l).ren τ,(sV act).ren τ,(vX (kf i)).ren τ,p.ren τ] [vA nm l,sV act,vX (kf i),q]:=⟨PEq.cl _ (clA ⟨trivial,trivial,trivial⟩),PEq.refl _,PEq.cl _ (fun i _=>clL_nth _ i (cX_cl _)),h,trivial⟩
set_option maxHeartbeats 16000000 in
theorem walk_own (nm : ByteArray) (l : List Df) (act : List Int) (hl : l.length ≤ 1000000) (ha : act.length ≤ 1000000) (hin : ∀ x, x ∈ act → 0 ≤ x ∧ x < l.length) (op vn vd um uh ud : Int) (nm0 : ByteArray) (cnt mode : Int) (nk : Nat) (kf : Nat → Ex) (hnk : nk ≤ 1000000) (ih : ∀ i, i < nk → WkC nm l act (kf i)) (P : List Int) (k : Nat) (hP : P.length = k + 1) (hw : P.length + (Ex.mk op vn vd um uh ud nm0 cnt mode nk kf).w ≤ 1000000) :
    RowsC G.P 74 [oRow c1 1 (k+1) (lF 0 P)] [vA nm l,sV act,vX (.mk op vn vd um uh ud nm0 cnt mode nk kf),.lsl 0 0 (k+1)] (OwnI (mnE l act) P (refsE (.mk op vn vd um uh ud nm0 cnt mode nk kf))):=by
  have hR0 : ¬ (op=3∨op=4)→refsE (.mk op vn vd um uh ud nm0 cnt mode nk kf)=[] ++ flatK nk fun i=>refsE (kf i):=fun h=>by show (if op=3∨op=4 then _ else _) ++ _=_;rw [if_neg h]
  have hR1:(op=3∨op=4)→refsE (.mk op vn vd um uh ud nm0 cnt mode nk kf)=[(.mk op vn vd um uh ud nm0 cnt mode nk kf)] ++ flatK nk fun i=>refsE (kf i):=fun h=>by show (if op=3∨op=4 then _ else _) ++ _=_;rw [if_pos h]
  have hJ:∀ (M:List Int) (i:Nat),i < nk→MemOk (mnE l act) P (flatK i fun i=>refsE (kf i)) M→M.length+(kf i).w≤1000000:=fun M i hi hM=>by
    have:=bound_X (op:=op) (vn:=vn) (vd:=vd) (um:=um) (uh:=uh) (ud:=ud) (nm:=nm0) (cnt:=cnt) (mode:=mode) (kf:=kf) (E0:=[]) (Nat.zero_le _) hi
    have:=hM.len
    rw [List.nil_append] at *
    omega
  have hB:∀ (M:List Int),MemOk (mnE l act) P (flatK nk fun i=>refsE (kf i)) M→M.length≤1000000:=fun M hM=>by
    have h1:=hM.len
    have h2:=refs_len (.mk op vn vd um uh ud nm0 cnt mode nk kf)
    have h3:(flatK nk fun i=>refsE (kf i)).length≤(refsE (.mk op vn vd um uh ud nm0 cnt mode nk kf)).length:=by
      rw [refsE,List.length_append];omega
    omega
  refine rows_of (G:=G.toPg) (fn:=Tryz.f74) Tryz.func74 rfl rfl rfl ?_;intro Γ hk
  replace hk:Γ.k0=1:=hk
  repeat' (first|refine gg ?_|exact trivial|with_reducible refine wA ?_ ?_|refine Y2.mk ?_ ?_|refine gh ?_|exact qq|fail)
  refine pcan (st':=⟨[(1,sV act),(3,.lsl 0 0 (k+1)),(4,.ptr 1 0 0),(6,.ptr 2 0 0),(9,vi ((0:Nat):Int))],[oRow c1 1 (k+1) (lF 0 P),rA1 nm l,rXE (.mk op vn vd um uh ud nm0 cnt mode nk kf)]⟩) (can_rowsv [0,1,2] (k0_sel hk rfl) rfl (.cons rfl (RowEq.cl (oI_cl _ _)) (.cons rfl (RowEq.cl (rA1_cl _ _)) (.cons rfl (RowEq.cl (rXE_cl _)) .nil))) tmq) ?_
  refine ploop (fun q st=>∃ (i m:Nat) (M:List Int),i≤nk∧M.length=m+1∧MemOk (mnE l act) P (flatK i fun i=>refsE (kf i)) M∧q=nk - i∧(st=⟨[(1,sV act),(3,.lsl 0 0 (m+1)),(4,.ptr 1 0 0),(6,.ptr 2 0 0),(9,vi i)],[oRow c1 1 (m+1) (lF 0 M),rA1 nm l,rXE (.mk op vn vd um uh ud nm0 cnt mode nk kf)]⟩∨∃ (k2:Nat) (g2:Nat→Int),st=⟨[(1,sV act),(3,.lsl 1 0 (m+1)),(4,.ptr 2 0 0),(6,.ptr 3 0 0),(9,vi i)],[oRow c1 1 k2 g2,oRow c1 1 (m+1) (lF 0 M),rA1 nm l,rXE (.mk op vn vd um uh ud nm0 cnt mode nk kf)]⟩)) nk ⟨0,k,P,Nat.zero_le _,hP,.nil,by omega,.inl rfl⟩ ?_
  rintro _ _ ⟨i,m,M,hi,hMl,hM,rfl,hst⟩
  have hw1:IntKind.i64.wrap ((i:Int)+1)=((i+1:Nat):Int):=w64 (by omega) (by omega)
  rcases hst with rfl|⟨k2,g2,rfl⟩
  · repeat' (first|refine gg ?_|exact trivial|with_reducible refine wA ?_ ?_|refine Y2.mk ?_ ?_|refine gh ?_|exact qq|fail)
    refine pcond rfl ?_ ?_<;>intro hc
    · have hc:i < nk:=by have:(i:Int) < (nk:Int):=of_decide_eq_true hc;omega
      have hcI:(0:Int)≤(i:Int)∧(i:Int) < (nk:Int):=⟨by omega,by omega⟩
      have ihk:=(ih i hc).own M m hMl (hJ M i hc hM)
      repeat' (first|refine gg ?_|exact trivial|with_reducible refine wA ?_ ?_|refine Y2.mk ?_ ?_|refine xs_startH (id:=4) [1,2] true [.take 0,.take 1,.take 2,.take 3,.take 4,.take 5,.take 6,.take 7,.one 8,.take 9] 0 rfl (by kernel_rfl) ?_|exact hc|exact hcI|(refine xs_one (ch:=[0]) rfl rfl rfl (pst_rowsc [0] rfl rfl rfl rfl rfl rfl (by exact .cons rfl trivial (RowEq.cl (oI_cl _ _)) .nil) ihk (by exact argsW (PEq.refl _)) ?_);rintro r rows ⟨m2,M2,hM2l,hM2,⟨rfl,rfl⟩|⟨k3,g3,rfl,rfl⟩⟩)|(refine ⟨_,_,rfl,⟨oI_cl _ _,trivial⟩,rfl,?_⟩)|(refine ⟨_,_,rfl,⟨oI_cl _ _,oI_cl _ _,trivial⟩,rfl,?_⟩)|refine gh ?_|exact qq|fail)
      · refine xdone ?_
        rw [hw1]
        exact kloop_next (st':=⟨[(1,sV act),(3,.lsl 0 0 (m2+1)),(4,.ptr 1 0 0),(6,.ptr 2 0 0),(9,vi ((i+1:Nat):Int))],[oRow c1 1 (m2+1) (lF 0 M2),rA1 nm l,rXE (.mk op vn vd um uh ud nm0 cnt mode nk kf)]⟩) (nk - (i+1)) (can_rowsv [0,1,2] (k0_sel hk rfl) rfl (.cons rfl (RowEq.cl (oI_cl _ _)) (.cons rfl (RowEq.cl (rA1_cl _ _)) (.cons rfl (RowEq.cl (rXE_cl _)) .nil))) tmq) (by omega) ⟨i+1,m2,M2,by omega,hM2l,hM.trans hM2,rfl,.inl rfl⟩
      · refine xdone ?_
        rw [hw1]
        exact kloop_next (st':=⟨[(1,sV act),(3,.lsl 1 0 (m2+1)),(4,.ptr 2 0 0),(6,.ptr 3 0 0),(9,vi ((i+1:Nat):Int))],[oRow c1 1 _ _,oRow c1 1 (m2+1) (lF 0 M2),rA1 nm l,rXE (.mk op vn vd um uh ud nm0 cnt mode nk kf)]⟩) (nk - (i+1)) (can_rowsv [0,3,1,2] (k0_sel hk rfl) rfl (.cons rfl (RowEq.cl (oI_cl _ _)) (.cons rfl (RowEq.cl (oI_cl _ _)) (.cons rfl (RowEq.cl (rA1_cl _ _)) (.cons rfl (RowEq.cl (rXE_cl _)) .nil)))) tmq) (by omega) ⟨i+1,m2,M2,by omega,hM2l,hM.trans hM2,rfl,.inr ⟨_,_,rfl⟩⟩
    · have hin:nk=i:=by have : ¬ (i:Int) < (nk:Int):=of_decide_eq_false hc;omega
      subst hin
      have hMb:=hB M hM
      repeat' (first|refine gg ?_|exact trivial|with_reducible refine wA ?_ ?_|refine Y2.mk ?_ ?_|refine gh ?_|exact qq|fail)
      refine pcond (b:=!decide (op=3∨op=4)) ?_ ?_ ?_
      · refine eqB ?_
        show (bif !(op == 3) then !(op == 4) else false)=_
        by_cases e1:op=3<;>by_cases e2:op=4<;>simp [e1,e2]
      · intro h
        have h:=of_decide_eq_false (nv_t h)
        repeat' (first|refine gg ?_|exact trivial|with_reducible refine wA ?_ ?_|refine Y2.mk ?_ ?_|refine gh ?_|exact qq|fail)
        refine kretr (st':=⟨[(8,.lsl 0 0 (m+1))],[oRow c1 1 (m+1) (lF 0 M)]⟩) (can_rowsv [0] (k0_sel hk rfl) rfl (.cons rfl (RowEq.cl (oI_cl _ _)) .nil) tmq) rfl ⟨trivial,trivial⟩ rfl ⟨m,M,hMl,(by rw [hR0 h];exact hM),.inl ⟨rfl,rfl⟩⟩
      · intro h
        have h:=of_decide_eq_true (nv_f h)
        have cm:=means21_c nm l act nm0 (op == 4) hl ha hin
        have hmn:=mnE_op (l:=l) (act:=act) (vn:=vn) (vd:=vd) (um:=um) (uh:=uh) (ud:=ud) (nm0:=nm0) (cnt:=cnt) (mode:=mode) (nk:=nk) (kf:=kf) h
        rw [hR1 h]
        rw [← hmn] at cm
        obtain ⟨mn,hmn2⟩:∃ mn,mnE l act (.mk op vn vd um uh ud nm0 cnt mode nk kf)=mn:=⟨_,rfl⟩
        rw [hmn2] at cm
        have hAd:MemOk (mnE l act) P ([(.mk op vn vd um uh ud nm0 cnt mode nk kf)] ++ flatK nk fun i=>refsE (kf i)) (M ++ [mn]):=by rw [← hmn2];exact hM.add
        repeat' (first|refine gg ?_|exact trivial|with_reducible refine wA ?_ ?_|refine Y2.mk ?_ ?_|refine zz cm ?_|refine gh ?_|exact qq|fail)
        refine pcan (st':=⟨[(3,.lsl 0 0 (m+1)),(10,vi mn),(11,vi ((0:Nat):Int))],[oRow c1 1 (m+1) (lF 0 M)]⟩) (can_rowsv [0] (k0_sel hk rfl) rfl (.cons rfl (RowEq.cl (oI_cl _ _)) .nil) tmq) ?_
        refine ploop (fun q st=>∃ j:Nat,j≤(m+1)∧(∀ j',j' < j→lF 0 M j'≠mn)∧q=(m+1) - j∧st=⟨[(3,.lsl 0 0 (m+1)),(10,vi mn),(11,vi j)],[oRow c1 1 (m+1) (lF 0 M)]⟩) (m+1) ⟨0,Nat.zero_le _,fun j hj=>absurd hj (Nat.not_lt_zero j),rfl,rfl⟩ ?_
        rintro _ _ ⟨j,hj,hv,rfl,rfl⟩
        have hwj:IntKind.i64.wrap ((j:Int)+1)=((j+1:Nat):Int):=w64 (by omega) (by omega)
        repeat' (first|refine gg ?_|exact trivial|with_reducible refine wA ?_ ?_|refine Y2.mk ?_ ?_|refine gh ?_|exact qq|fail)
        refine pcond rfl ?_ ?_<;>intro hc
        · have hc:j < (m+1):=by have:(j:Int) < (((m+1):Nat):Int):=of_decide_eq_true hc;omega
          have hz:0+(j:Int).toNat=j:=by omega
          repeat' (first|refine gg ?_|exact trivial|with_reducible refine wA ?_ ?_|refine Y2.mk ?_ ?_|(exact (show 0+(j:Int).toNat < (m+1) by omega))|(exact ⟨(show (0:Int)≤(j:Int) by omega),(show (j:Int) < (((m+1):Nat):Int) by omega)⟩)|refine gh ?_|exact qq|fail)
          refine pcond (b:=decide (lF 0 M j=mn)) ?_ ?_ ?_
          · refine eqB ?_
            rw [hz];exact bqd _ _
          · intro h1
            have h1:=of_decide_eq_true h1
            have hin:mnE l act (.mk op vn vd um uh ud nm0 cnt mode nk kf) ∈ M:=by rw [hmn2,← h1,lF_get' (by omega)];exact List.getElem_mem _
            repeat' (first|refine gg ?_|exact trivial|with_reducible refine wA ?_ ?_|refine Y2.mk ?_ ?_|refine gh ?_|exact qq|fail)
            refine xdone ?_
            refine kretr (st':=⟨[(8,.lsl 0 0 (m+1))],[oRow c1 1 (m+1) (lF 0 M)]⟩) (can_rowsv [0] (k0_sel hk rfl) rfl (.cons rfl (RowEq.cl (oI_cl _ _)) .nil) tmq) rfl ⟨trivial,trivial⟩ rfl ⟨m,M,hMl,(hM.found hin),.inl ⟨rfl,rfl⟩⟩
          · intro h1
            have h1:=of_decide_eq_false h1
            repeat' (first|refine gg ?_|exact trivial|with_reducible refine wA ?_ ?_|refine Y2.mk ?_ ?_|refine gh ?_|exact qq|fail)
            refine xdone ?_
            rw [hwj]
            exact kloop_next (st':=⟨[(3,.lsl 0 0 (m+1)),(10,vi mn),(11,vi ((j+1:Nat):Int))],[oRow c1 1 (m+1) (lF 0 M)]⟩) ((m+1) - (j+1)) (can_rowsv [0] (k0_sel hk rfl) rfl (.cons rfl (RowEq.cl (oI_cl _ _)) .nil) tmq) (by omega) ⟨j+1,by omega,fun j' hj'=>by
              by_cases e:j'=j
              · subst e;exact h1
              · exact hv j' (by omega),rfl,rfl⟩
        · refine xw 9 rfl trivial ?_
          refine xdone ?_
          refine kloop_exit ?_
          refine xk 7 rfl (by first|exact ⟨trivial,trivial,trivial,trivial⟩|exact ⟨trivial,trivial,trivial⟩|exact ⟨trivial,trivial⟩) ?_
          show POps _ _ _ _ (_ :: _) _ _
          refine pop_app2 rfl rfl rfl rfl rfl rfl rfl rfl rfl rfl rfl rfl rfl rfl rfl trivial rfl (Nat.le_refl 1) (Nat.le_refl (m+1)) (Nat.succ_pos m) Nat.zero_lt_one (show (m+1+1) * 8≤140737488355328 by omega) (show m+1+1≤9223372036854775807 by omega) rfl rfl ?_ ?_
          · repeat' (first|refine gg ?_|exact trivial|with_reducible refine wA ?_ ?_|refine Y2.mk ?_ ?_|refine gh ?_|exact qq|fail)
            refine xdone ?_
            refine kretr (st':=⟨[(8,.lsl 0 0 (m+1+1))],[oRow c1 1 (m+1+1) (lF 0 (M ++ [mn]))]⟩) (can_rowsv [0] (k0_sel hk rfl) rfl (.cons rfl (app_I hMl rfl rfl rfl fun b=>by show nthP _ (0 * 1+b)=_;rw [Nat.zero_mul,Nat.zero_add]) .nil) tmq) rfl ⟨trivial,trivial⟩ rfl ⟨(m+1),(M ++ [mn]),(by rw [List.length_append,hMl];rfl),hAd,.inl ⟨rfl,rfl⟩⟩
          · repeat' (first|refine gg ?_|exact trivial|with_reducible refine wA ?_ ?_|refine Y2.mk ?_ ?_|refine gh ?_|exact qq|fail)
            refine xdone ?_
            refine kretr (st':=⟨[(8,.lsl 1 0 (m+1+1))],[oRow c1 1 _ _,oRow c1 1 (m+1+1) (lF 0 (M ++ [mn]))]⟩) (can_rowsv [0,2] (k0_sel hk rfl) rfl (.cons rfl (RowEq.cl (oI_cl _ _)) (.cons rfl (app_I hMl rfl rfl rfl fun b=>by show nthP _ (0 * 1+b)=_;rw [Nat.zero_mul,Nat.zero_add]) .nil)) tmq) rfl ⟨trivial,trivial⟩ rfl ⟨(m+1),(M ++ [mn]),(by rw [List.length_append,hMl];rfl),hAd,.inr ⟨_,_,rfl,rfl⟩⟩
  · repeat' (first|refine gg ?_|exact trivial|with_reducible refine wA ?_ ?_|refine Y2.mk ?_ ?_|refine gh ?_|exact qq|fail)
    refine pcond rfl ?_ ?_<;>intro hc
    · have hc:i < nk:=by have:(i:Int) < (nk:Int):=of_decide_eq_true hc;omega
      have hcI:(0:Int)≤(i:Int)∧(i:Int) < (nk:Int):=⟨by omega,by omega⟩
      have ihk:=(ih i hc).own M m hMl (hJ M i hc hM)
      repeat' (first|refine gg ?_|exact trivial|with_reducible refine wA ?_ ?_|refine Y2.mk ?_ ?_|refine xs_startH (id:=4) [0,2,3] true [.take 0,.take 1,.take 2,.take 3,.take 4,.take 5,.take 6,.take 7,.one 8,.take 9] 0 rfl (by kernel_rfl) ?_|exact hc|exact hcI|(refine xs_one (ch:=[1]) rfl rfl rfl (pst_rowsc [1] rfl rfl rfl rfl rfl rfl (by exact .cons rfl trivial (RowEq.cl (oI_cl _ _)) .nil) ihk (by exact argsW (PEq.refl _)) ?_);rintro r rows ⟨m2,M2,hM2l,hM2,⟨rfl,rfl⟩|⟨k3,g3,rfl,rfl⟩⟩)|(refine ⟨_,_,rfl,⟨oI_cl _ _,trivial⟩,rfl,?_⟩)|(refine ⟨_,_,rfl,⟨oI_cl _ _,oI_cl _ _,trivial⟩,rfl,?_⟩)|refine gh ?_|exact qq|fail)
      · refine xdone ?_
        rw [hw1]
        exact kloop_next (st':=⟨[(1,sV act),(3,.lsl 1 0 (m2+1)),(4,.ptr 2 0 0),(6,.ptr 3 0 0),(9,vi ((i+1:Nat):Int))],[oRow c1 1 _ _,oRow c1 1 (m2+1) (lF 0 M2),rA1 nm l,rXE (.mk op vn vd um uh ud nm0 cnt mode nk kf)]⟩) (nk - (i+1)) (can_rowsv [0,1,2,3] (k0_sel hk rfl) rfl (.cons rfl (RowEq.cl (oI_cl _ _)) (.cons rfl (RowEq.cl (oI_cl _ _)) (.cons rfl (RowEq.cl (rA1_cl _ _)) (.cons rfl (RowEq.cl (rXE_cl _)) .nil)))) tmq) (by omega) ⟨i+1,m2,M2,by omega,hM2l,hM.trans hM2,rfl,.inr ⟨_,_,rfl⟩⟩
      · refine xdone ?_
        rw [hw1]
        exact kloop_next (st':=⟨[(1,sV act),(3,.lsl 1 0 (m2+1)),(4,.ptr 2 0 0),(6,.ptr 3 0 0),(9,vi ((i+1:Nat):Int))],[oRow c1 1 _ _,oRow c1 1 (m2+1) (lF 0 M2),rA1 nm l,rXE (.mk op vn vd um uh ud nm0 cnt mode nk kf)]⟩) (nk - (i+1)) (can_rowsv [0,4,2,3] (k0_sel hk rfl) rfl (.cons rfl (RowEq.cl (oI_cl _ _)) (.cons rfl (RowEq.cl (oI_cl _ _)) (.cons rfl (RowEq.cl (rA1_cl _ _)) (.cons rfl (RowEq.cl (rXE_cl _)) .nil)))) tmq) (by omega) ⟨i+1,m2,M2,by omega,hM2l,hM.trans hM2,rfl,.inr ⟨_,_,rfl⟩⟩
    · have hin:nk=i:=by have : ¬ (i:Int) < (nk:Int):=of_decide_eq_false hc;omega
      subst hin
      have hMb:=hB M hM
      repeat' (first|refine gg ?_|exact trivial|with_reducible refine wA ?_ ?_|refine Y2.mk ?_ ?_|refine gh ?_|exact qq|fail)
      refine pcond (b:=!decide (op=3∨op=4)) ?_ ?_ ?_
      · refine eqB ?_
        show (bif !(op == 3) then !(op == 4) else false)=_
        by_cases e1:op=3<;>by_cases e2:op=4<;>simp [e1,e2]
      · intro h
        have h:=of_decide_eq_false (nv_t h)
        repeat' (first|refine gg ?_|exact trivial|with_reducible refine wA ?_ ?_|refine Y2.mk ?_ ?_|refine gh ?_|exact qq|fail)
        refine kretr (st':=⟨[(8,.lsl 1 0 (m+1))],[oRow c1 1 _ _,oRow c1 1 (m+1) (lF 0 M)]⟩) (can_rowsv [0,1] (k0_sel hk rfl) rfl (.cons rfl (RowEq.cl (oI_cl _ _)) (.cons rfl (RowEq.cl (oI_cl _ _)) .nil)) tmq) rfl ⟨trivial,trivial⟩ rfl ⟨m,M,hMl,(by rw [hR0 h];exact hM),.inr ⟨_,_,rfl,rfl⟩⟩
      · intro h
        have h:=of_decide_eq_true (nv_f h)
        have cm:=means21_c nm l act nm0 (op == 4) hl ha hin
        have hmn:=mnE_op (l:=l) (act:=act) (vn:=vn) (vd:=vd) (um:=um) (uh:=uh) (ud:=ud) (nm0:=nm0) (cnt:=cnt) (mode:=mode) (nk:=nk) (kf:=kf) h
        rw [hR1 h]
        rw [← hmn] at cm
        obtain ⟨mn,hmn2⟩:∃ mn,mnE l act (.mk op vn vd um uh ud nm0 cnt mode nk kf)=mn:=⟨_,rfl⟩
        rw [hmn2] at cm
        have hAd:MemOk (mnE l act) P ([(.mk op vn vd um uh ud nm0 cnt mode nk kf)] ++ flatK nk fun i=>refsE (kf i)) (M ++ [mn]):=by rw [← hmn2];exact hM.add
        repeat' (first|refine gg ?_|exact trivial|with_reducible refine wA ?_ ?_|refine Y2.mk ?_ ?_|refine zz cm ?_|refine gh ?_|exact qq|fail)
        refine pcan (st':=⟨[(3,.lsl 1 0 (m+1)),(10,vi mn),(11,vi ((0:Nat):Int))],[oRow c1 1 k2 g2,oRow c1 1 (m+1) (lF 0 M)]⟩) (can_rowsv [0,1] (k0_sel hk rfl) rfl (.cons rfl (RowEq.cl (oI_cl _ _)) (.cons rfl (RowEq.cl (oI_cl _ _)) .nil)) tmq) ?_
        refine ploop (fun q st=>∃ j:Nat,j≤(m+1)∧(∀ j',j' < j→lF 0 M j'≠mn)∧q=(m+1) - j∧st=⟨[(3,.lsl 1 0 (m+1)),(10,vi mn),(11,vi j)],[oRow c1 1 k2 g2,oRow c1 1 (m+1) (lF 0 M)]⟩) (m+1) ⟨0,Nat.zero_le _,fun j hj=>absurd hj (Nat.not_lt_zero j),rfl,rfl⟩ ?_
        rintro _ _ ⟨j,hj,hv,rfl,rfl⟩
        have hwj:IntKind.i64.wrap ((j:Int)+1)=((j+1:Nat):Int):=w64 (by omega) (by omega)
        repeat' (first|refine gg ?_|exact trivial|with_reducible refine wA ?_ ?_|refine Y2.mk ?_ ?_|refine gh ?_|exact qq|fail)
        refine pcond rfl ?_ ?_<;>intro hc
        · have hc:j < (m+1):=by have:(j:Int) < (((m+1):Nat):Int):=of_decide_eq_true hc;omega
          have hz:0+(j:Int).toNat=j:=by omega
          repeat' (first|refine gg ?_|exact trivial|with_reducible refine wA ?_ ?_|refine Y2.mk ?_ ?_|(exact (show 0+(j:Int).toNat < (m+1) by omega))|(exact ⟨(show (0:Int)≤(j:Int) by omega),(show (j:Int) < (((m+1):Nat):Int) by omega)⟩)|refine gh ?_|exact qq|fail)
          refine pcond (b:=decide (lF 0 M j=mn)) ?_ ?_ ?_
          · refine eqB ?_
            rw [hz];exact bqd _ _
          · intro h1
            have h1:=of_decide_eq_true h1
            have hin:mnE l act (.mk op vn vd um uh ud nm0 cnt mode nk kf) ∈ M:=by rw [hmn2,← h1,lF_get' (by omega)];exact List.getElem_mem _
            repeat' (first|refine gg ?_|exact trivial|with_reducible refine wA ?_ ?_|refine Y2.mk ?_ ?_|refine gh ?_|exact qq|fail)
            refine xdone ?_
            refine kretr (st':=⟨[(8,.lsl 1 0 (m+1))],[oRow c1 1 _ _,oRow c1 1 (m+1) (lF 0 M)]⟩) (can_rowsv [0,1] (k0_sel hk rfl) rfl (.cons rfl (RowEq.cl (oI_cl _ _)) (.cons rfl (RowEq.cl (oI_cl _ _)) .nil)) tmq) rfl ⟨trivial,trivial⟩ rfl ⟨m,M,hMl,(hM.found hin),.inr ⟨_,_,rfl,rfl⟩⟩
          · intro h1
            have h1:=of_decide_eq_false h1
            repeat' (first|refine gg ?_|exact trivial|with_reducible refine wA ?_ ?_|refine Y2.mk ?_ ?_|refine gh ?_|exact qq|fail)
            refine xdone ?_
            rw [hwj]
            exact kloop_next (st':=⟨[(3,.lsl 1 0 (m+1)),(10,vi mn),(11,vi ((j+1:Nat):Int))],[oRow c1 1 k2 g2,oRow c1 1 (m+1) (lF 0 M)]⟩) ((m+1) - (j+1)) (can_rowsv [0,1] (k0_sel hk rfl) rfl (.cons rfl (RowEq.cl (oI_cl _ _)) (.cons rfl (RowEq.cl (oI_cl _ _)) .nil)) tmq) (by omega) ⟨j+1,by omega,fun j' hj'=>by
              by_cases e:j'=j
              · subst e;exact h1
              · exact hv j' (by omega),rfl,rfl⟩
        · repeat' (first|refine gg ?_|exact trivial|with_reducible refine wA ?_ ?_|refine Y2.mk ?_ ?_|exact ⟨Nat.le_refl _,(by rw [hk];exact Nat.le_of_ble_eq_true rfl),Nat.le_of_eq (Nat.zero_add _),(show (_:Nat) * 8≤140737488355328 from by omega),(show (_:Nat)≤9223372036854775807 from by omega)⟩|refine gh ?_|exact qq|fail)
          refine xdone ?_
          refine kretr (st':=⟨[(8,.lsl 1 0 (m+1+1))],[oRow c1 1 _ _,oRow c1 1 (m+1+1) (lF 0 (M ++ [mn]))]⟩) (can_rowsv [0,3] (k0_sel hk rfl) rfl (.cons rfl (RowEq.cl (oI_cl _ _)) (.cons rfl (app_l c1_cl hMl rfl rfl) .nil)) tmq) rfl ⟨trivial,trivial⟩ rfl ⟨m+1,(M ++ [mn]),(by rw [List.length_append,hMl];rfl),hAd,.inr ⟨_,_,rfl,rfl⟩⟩
set_option maxHeartbeats 16000000 in
theorem walk_nil (nm : ByteArray) (l : List Df) (act : List Int) (hl : l.length ≤ 1000000) (ha : act.length ≤ 1000000) (hin : ∀ x, x ∈ act → 0 ≤ x ∧ x < l.length) (op vn vd um uh ud : Int) (nm0 : ByteArray) (cnt mode : Int) (nk : Nat) (kf : Nat → Ex) (hnk : nk ≤ 1000000) (ih : ∀ i, i < nk → WkC nm l act (kf i)) (hw : (Ex.mk op vn vd um uh ud nm0 cnt mode nk kf).w ≤ 1000000) :
    RowsC G.P 74 [] [vA nm l,sV act,vX (.mk op vn vd um uh ud nm0 cnt mode nk kf),nilX] (fun r rows=>∃ (k:Nat) (M:List Int),M.length=k∧MemOk (mnE l act) [] (refsE (.mk op vn vd um uh ud nm0 cnt mode nk kf)) M∧r=slP k 0∧rows=[vRow c1 1 k (lF 0 M)]):=by
  have hR0 : ¬ (op=3∨op=4)→refsE (.mk op vn vd um uh ud nm0 cnt mode nk kf)=[] ++ flatK nk fun i=>refsE (kf i):=fun h=>by show (if op=3∨op=4 then _ else _) ++ _=_;rw [if_neg h]
  have hR1:(op=3∨op=4)→refsE (.mk op vn vd um uh ud nm0 cnt mode nk kf)=[(.mk op vn vd um uh ud nm0 cnt mode nk kf)] ++ flatK nk fun i=>refsE (kf i):=fun h=>by show (if op=3∨op=4 then _ else _) ++ _=_;rw [if_pos h]
  have hJ:∀ (M:List Int) (i:Nat),i < nk→MemOk (mnE l act) [] (flatK i fun i=>refsE (kf i)) M→M.length+(kf i).w≤1000000:=fun M i hi hM=>by
    have:=bound_X (op:=op) (vn:=vn) (vd:=vd) (um:=um) (uh:=uh) (ud:=ud) (nm:=nm0) (cnt:=cnt) (mode:=mode) (kf:=kf) (E0:=[]) (Nat.zero_le _) hi
    have:=hM.len
    rw [List.nil_append] at *
    simp only [List.length_nil] at this;omega
  have hB:∀ (M:List Int),MemOk (mnE l act) [] (flatK nk fun i=>refsE (kf i)) M→M.length≤1000000:=fun M hM=>by
    have h1:=hM.len
    have h2:=refs_len (.mk op vn vd um uh ud nm0 cnt mode nk kf)
    have h3:(flatK nk fun i=>refsE (kf i)).length≤(refsE (.mk op vn vd um uh ud nm0 cnt mode nk kf)).length:=by
      rw [refsE,List.length_append];omega
    simp only [List.length_nil] at h1;omega
  refine rows_of (G:=G.toPg) (fn:=Tryz.f74) Tryz.func74 rfl rfl rfl ?_;intro Γ hk
  replace hk:Γ.k0=0:=hk
  repeat' (first|refine gg ?_|exact trivial|with_reducible refine wA ?_ ?_|refine Y2.mk ?_ ?_|refine gh ?_|exact qq|fail)
  refine pcan (can_virt (vRow c1 1 0 (lF 0 [])) rfl) ?_
  refine pcan (st':=⟨[(1,sV act),(3,slP 0 0),(4,.ptr 1 0 0),(6,.ptr 2 0 0),(9,vi ((0:Nat):Int))],[vRow c1 1 0 (lF 0 []),rA1 nm l,rXE (.mk op vn vd um uh ud nm0 cnt mode nk kf)]⟩) (can_rowsv [2,0,1] (k0_sel hk rfl) rfl (.cons rfl (RowEq.cl (v_cl c1_cl _ _ _)) (.cons rfl (RowEq.cl (rA1_cl _ _)) (.cons rfl (RowEq.cl (rXE_cl _)) .nil))) tmq) ?_
  refine ploop (fun q st=>∃ (i m:Nat) (M:List Int),i≤nk∧M.length=m∧MemOk (mnE l act) [] (flatK i fun i=>refsE (kf i)) M∧q=nk - i∧st=⟨[(1,sV act),(3,slP m 0),(4,.ptr 1 0 0),(6,.ptr 2 0 0),(9,vi i)],[vRow c1 1 m (lF 0 M),rA1 nm l,rXE (.mk op vn vd um uh ud nm0 cnt mode nk kf)]⟩) nk ⟨0,0,[],Nat.zero_le _,rfl,.nil,by omega,rfl⟩ ?_
  rintro _ _ ⟨i,m,M,hi,hMl,hM,rfl,rfl⟩
  have hw1:IntKind.i64.wrap ((i:Int)+1)=((i+1:Nat):Int):=w64 (by omega) (by omega)
  have hcI:i < nk→(0:Int)≤(i:Int)∧(i:Int) < (nk:Int):=fun _=>⟨by omega,by omega⟩
  rcases m with _|m
  · have hMe:=List.length_eq_zero_iff.1 hMl
    repeat' (first|refine gg ?_|exact trivial|with_reducible refine wA ?_ ?_|refine Y2.mk ?_ ?_|refine gh ?_|exact qq|fail)
    refine pcond rfl ?_ ?_<;>intro hc
    · have hc:i < nk:=by have:(i:Int) < (nk:Int):=of_decide_eq_true hc;omega
      have hcI:=hcI hc
      have ihk:=(ih i hc).nil
      repeat' (first|refine gg ?_|exact trivial|with_reducible refine wA ?_ ?_|refine Y2.mk ?_ ?_|refine xs_startH (id:=4) [0,1,2] true [.take 0,.take 1,.take 2,.take 3,.take 4,.take 5,.take 6,.take 7,.one 8,.take 9] 0 rfl (by kernel_rfl) ?_|exact hc|exact hcI|(refine xs_one (ch:=[]) rfl rfl rfl (pst_rowsc [] rfl rfl rfl rfl rfl rfl .nil ihk (by exact argsW (PEq.refl _)) ?_);rintro r rows ⟨k2,M2,hM2l,hM2,rfl,rfl⟩;rcases k2 with _|k2)|(refine ⟨_,_,rfl,⟨v_cl c1_cl _ _ _,trivial⟩,rfl,?_⟩)|refine gh ?_|exact qq|fail)
      · refine xdone ?_
        rw [hw1]
        exact kloop_next (st':=⟨[(1,sV act),(3,slP 0 0),(4,.ptr 1 0 0),(6,.ptr 2 0 0),(9,vi ((i+1:Nat):Int))],[vRow c1 1 0 (lF 0 M2),rA1 nm l,rXE (.mk op vn vd um uh ud nm0 cnt mode nk kf)]⟩) (nk - (i+1)) (can_rowsv [0,1,2] (k0_sel hk rfl) rfl (.cons rfl (rowI_nil) (.cons rfl (RowEq.cl (rA1_cl _ _)) (.cons rfl (RowEq.cl (rXE_cl _)) .nil))) tmq) (by omega) ⟨i+1,0,M2,by omega,hM2l,hM.trans (by rw [hMe];exact hM2),rfl,rfl⟩
      · refine xdone ?_
        rw [hw1]
        exact kloop_next (st':=⟨[(1,sV act),(3,slP (k2+1) 0),(4,.ptr 1 0 0),(6,.ptr 2 0 0),(9,vi ((i+1:Nat):Int))],[vRow c1 1 (k2+1) (lF 0 M2),rA1 nm l,rXE (.mk op vn vd um uh ud nm0 cnt mode nk kf)]⟩) (nk - (i+1)) (can_rowsv [3,1,2] (k0_sel hk rfl) rfl (.cons rfl (RowEq.cl (v_cl c1_cl _ _ _)) (.cons rfl (RowEq.cl (rA1_cl _ _)) (.cons rfl (RowEq.cl (rXE_cl _)) .nil))) tmq) (by omega) ⟨i+1,(k2+1),M2,by omega,hM2l,hM.trans (by rw [hMe];exact hM2),rfl,rfl⟩
    · have hin:nk=i:=by have : ¬ (i:Int) < (nk:Int):=of_decide_eq_false hc;omega
      subst hin
      have hMb:=hB M hM
      repeat' (first|refine gg ?_|exact trivial|with_reducible refine wA ?_ ?_|refine Y2.mk ?_ ?_|refine gh ?_|exact qq|fail)
      refine pcond (b:=!decide (op=3∨op=4)) ?_ ?_ ?_
      · refine eqB ?_
        show (bif !(op == 3) then !(op == 4) else false)=_
        by_cases e1:op=3<;>by_cases e2:op=4<;>simp [e1,e2]
      · intro h
        have h:=of_decide_eq_false (nv_t h)
        repeat' (first|refine gg ?_|exact trivial|with_reducible refine wA ?_ ?_|refine Y2.mk ?_ ?_|refine gh ?_|exact qq|fail)
        refine kretr (st':=⟨[(8,slP 0 0)],[vRow c1 1 0 (lF 0 M)]⟩) (can_rowsv [0] (k0_sel hk rfl) rfl (.cons rfl (RowEq.cl (v_cl c1_cl _ _ _)) .nil) tmq) rfl ⟨trivial,trivial⟩ rfl ⟨0,M,hMl,(by rw [hR0 h];exact hM),rfl,rfl⟩
      · intro h
        have h:=of_decide_eq_true (nv_f h)
        have cm:=means21_c nm l act nm0 (op == 4) hl ha hin
        have hmn:=mnE_op (l:=l) (act:=act) (vn:=vn) (vd:=vd) (um:=um) (uh:=uh) (ud:=ud) (nm0:=nm0) (cnt:=cnt) (mode:=mode) (nk:=nk) (kf:=kf) h
        rw [hR1 h]
        rw [← hmn] at cm
        obtain ⟨mn,hmn2⟩:∃ mn,mnE l act (.mk op vn vd um uh ud nm0 cnt mode nk kf)=mn:=⟨_,rfl⟩
        rw [hmn2] at cm
        have hAd:MemOk (mnE l act) [] ([(.mk op vn vd um uh ud nm0 cnt mode nk kf)] ++ flatK nk fun i=>refsE (kf i)) (M ++ [mn]):=by rw [← hmn2];exact hM.add
        repeat' (first|refine gg ?_|exact trivial|with_reducible refine wA ?_ ?_|refine Y2.mk ?_ ?_|refine zz cm ?_|refine gh ?_|exact qq|fail)
        refine pcan (st':=⟨[(3,slP 0 0),(10,vi mn),(11,vi ((0:Nat):Int))],[vRow c1 1 0 (lF 0 M)]⟩) (can_rowsv [0] (k0_sel hk rfl) rfl (.cons rfl (RowEq.cl (v_cl c1_cl _ _ _)) .nil) tmq) ?_
        refine ploop (fun q st=>∃ j:Nat,j≤0∧(∀ j',j' < j→lF 0 M j'≠mn)∧q=0 - j∧st=⟨[(3,slP 0 0),(10,vi mn),(11,vi j)],[vRow c1 1 0 (lF 0 M)]⟩) 0 ⟨0,Nat.zero_le _,fun j hj=>absurd hj (Nat.not_lt_zero j),rfl,rfl⟩ ?_
        rintro _ _ ⟨j,hj,hv,rfl,rfl⟩
        have hwj:IntKind.i64.wrap ((j:Int)+1)=((j+1:Nat):Int):=w64 (by omega) (by omega)
        obtain rfl:j=0:=by omega
        repeat' (first|refine gg ?_|exact trivial|with_reducible refine wA ?_ ?_|refine Y2.mk ?_ ?_|exact ⟨Nat.le_refl _,(by rw [hk];exact Nat.le_of_ble_eq_true rfl),Nat.le_of_eq (Nat.zero_add _),(show (_:Nat) * 8≤140737488355328 from by omega),(show (_:Nat)≤9223372036854775807 from by omega)⟩|refine gh ?_|exact qq|fail)
        refine xdone ?_
        refine kretr (st':=⟨[(8,slP (0+1) 0)],[vRow c1 1 (0+1) (lF 0 (M ++ [mn]))]⟩) (can_rowsv [2] (k0_sel hk rfl) rfl (.cons rfl (app_l0 c1_cl hMl rfl) .nil) tmq) rfl ⟨trivial,trivial⟩ rfl ⟨(0+1),(M ++ [mn]),(by rw [List.length_append,hMl];rfl),hAd,rfl,rfl⟩
  · repeat' (first|refine gg ?_|exact trivial|with_reducible refine wA ?_ ?_|refine Y2.mk ?_ ?_|refine gh ?_|exact qq|fail)
    refine pcond rfl ?_ ?_<;>intro hc
    · have hc:i < nk:=by have:(i:Int) < (nk:Int):=of_decide_eq_true hc;omega
      have hcI:=hcI hc
      have ihk:=(ih i hc).own M m hMl (hJ M i hc hM)
      repeat' (first|refine gg ?_|exact trivial|with_reducible refine wA ?_ ?_|refine Y2.mk ?_ ?_|refine xs_startH (id:=4) [1,2] true [.take 0,.take 1,.take 2,.take 3,.take 4,.take 5,.take 6,.take 7,.one 8,.take 9] 0 rfl (by kernel_rfl) ?_|exact hc|exact hcI|(refine xs_one (ch:=[0]) rfl rfl rfl (pst_rowsc [0] rfl rfl rfl rfl rfl rfl (by exact .cons rfl trivial (RowEq.cl (oI_cl _ _)) .nil) ihk (by exact argsW (PEq.refl _)) ?_);rintro r rows ⟨m2,M2,hM2l,hM2,⟨rfl,rfl⟩|⟨k3,g3,rfl,rfl⟩⟩)|(refine ⟨_,_,rfl,⟨oI_cl _ _,trivial⟩,rfl,?_⟩)|(refine ⟨_,_,rfl,⟨oI_cl _ _,oI_cl _ _,trivial⟩,rfl,?_⟩)|refine gh ?_|exact qq|fail)
      · refine xdone ?_
        rw [hw1]
        exact kloop_next (st':=⟨[(1,sV act),(3,slP (m2+1) 0),(4,.ptr 1 0 0),(6,.ptr 2 0 0),(9,vi ((i+1:Nat):Int))],[vRow c1 1 (m2+1) (lF 0 M2),rA1 nm l,rXE (.mk op vn vd um uh ud nm0 cnt mode nk kf)]⟩) (nk - (i+1)) (can_rowsv [0,1,2] (k0_sel hk rfl) rfl (.cons rfl (RowEq.cl (v_cl c1_cl _ _ _)) (.cons rfl (RowEq.cl (rA1_cl _ _)) (.cons rfl (RowEq.cl (rXE_cl _)) .nil))) tmq) (by omega) ⟨i+1,(m2+1),M2,by omega,hM2l,hM.trans hM2,rfl,rfl⟩
      · refine xdone ?_
        rw [hw1]
        exact kloop_next (st':=⟨[(1,sV act),(3,slP (m2+1) 0),(4,.ptr 1 0 0),(6,.ptr 2 0 0),(9,vi ((i+1:Nat):Int))],[vRow c1 1 (m2+1) (lF 0 M2),rA1 nm l,rXE (.mk op vn vd um uh ud nm0 cnt mode nk kf)]⟩) (nk - (i+1)) (can_rowsv [3,1,2] (k0_sel hk rfl) rfl (.cons rfl (RowEq.cl (v_cl c1_cl _ _ _)) (.cons rfl (RowEq.cl (rA1_cl _ _)) (.cons rfl (RowEq.cl (rXE_cl _)) .nil))) tmq) (by omega) ⟨i+1,(m2+1),M2,by omega,hM2l,hM.trans hM2,rfl,rfl⟩
    · have hin:nk=i:=by have : ¬ (i:Int) < (nk:Int):=of_decide_eq_false hc;omega
      subst hin
      have hMb:=hB M hM
      repeat' (first|refine gg ?_|exact trivial|with_reducible refine wA ?_ ?_|refine Y2.mk ?_ ?_|refine gh ?_|exact qq|fail)
      refine pcond (b:=!decide (op=3∨op=4)) ?_ ?_ ?_
      · refine eqB ?_
        show (bif !(op == 3) then !(op == 4) else false)=_
        by_cases e1:op=3<;>by_cases e2:op=4<;>simp [e1,e2]
      · intro h
        have h:=of_decide_eq_false (nv_t h)
        repeat' (first|refine gg ?_|exact trivial|with_reducible refine wA ?_ ?_|refine Y2.mk ?_ ?_|refine gh ?_|exact qq|fail)
        refine kretr (st':=⟨[(8,slP (m+1) 0)],[vRow c1 1 (m+1) (lF 0 M)]⟩) (can_rowsv [0] (k0_sel hk rfl) rfl (.cons rfl (RowEq.cl (v_cl c1_cl _ _ _)) .nil) tmq) rfl ⟨trivial,trivial⟩ rfl ⟨(m+1),M,hMl,(by rw [hR0 h];exact hM),rfl,rfl⟩
      · intro h
        have h:=of_decide_eq_true (nv_f h)
        have cm:=means21_c nm l act nm0 (op == 4) hl ha hin
        have hmn:=mnE_op (l:=l) (act:=act) (vn:=vn) (vd:=vd) (um:=um) (uh:=uh) (ud:=ud) (nm0:=nm0) (cnt:=cnt) (mode:=mode) (nk:=nk) (kf:=kf) h
        rw [hR1 h]
        rw [← hmn] at cm
        obtain ⟨mn,hmn2⟩:∃ mn,mnE l act (.mk op vn vd um uh ud nm0 cnt mode nk kf)=mn:=⟨_,rfl⟩
        rw [hmn2] at cm
        have hAd:MemOk (mnE l act) [] ([(.mk op vn vd um uh ud nm0 cnt mode nk kf)] ++ flatK nk fun i=>refsE (kf i)) (M ++ [mn]):=by rw [← hmn2];exact hM.add
        repeat' (first|refine gg ?_|exact trivial|with_reducible refine wA ?_ ?_|refine Y2.mk ?_ ?_|refine zz cm ?_|refine gh ?_|exact qq|fail)
        refine pcan (st':=⟨[(3,slP (m+1) 0),(10,vi mn),(11,vi ((0:Nat):Int))],[vRow c1 1 (m+1) (lF 0 M)]⟩) (can_rowsv [0] (k0_sel hk rfl) rfl (.cons rfl (RowEq.cl (v_cl c1_cl _ _ _)) .nil) tmq) ?_
        refine ploop (fun q st=>∃ j:Nat,j≤(m+1)∧(∀ j',j' < j→lF 0 M j'≠mn)∧q=(m+1) - j∧st=⟨[(3,slP (m+1) 0),(10,vi mn),(11,vi j)],[vRow c1 1 (m+1) (lF 0 M)]⟩) (m+1) ⟨0,Nat.zero_le _,fun j hj=>absurd hj (Nat.not_lt_zero j),rfl,rfl⟩ ?_
        rintro _ _ ⟨j,hj,hv,rfl,rfl⟩
        have hwj:IntKind.i64.wrap ((j:Int)+1)=((j+1:Nat):Int):=w64 (by omega) (by omega)
        repeat' (first|refine gg ?_|exact trivial|with_reducible refine wA ?_ ?_|refine Y2.mk ?_ ?_|refine gh ?_|exact qq|fail)
        refine pcond rfl ?_ ?_<;>intro hc
        · have hc:j < (m+1):=by have:(j:Int) < (((m+1):Nat):Int):=of_decide_eq_true hc;omega
          have hz:0+(j:Int).toNat=j:=by omega
          repeat' (first|refine gg ?_|exact trivial|with_reducible refine wA ?_ ?_|refine Y2.mk ?_ ?_|(exact (show 0+(j:Int).toNat < (m+1) by omega))|(exact ⟨(show (0:Int)≤(j:Int) by omega),(show (j:Int) < (((m+1):Nat):Int) by omega)⟩)|refine gh ?_|exact qq|fail)
          refine pcond (b:=decide (lF 0 M j=mn)) ?_ ?_ ?_
          · refine eqB ?_
            rw [hz];exact bqd _ _
          · intro h1
            have h1:=of_decide_eq_true h1
            have hin:mnE l act (.mk op vn vd um uh ud nm0 cnt mode nk kf) ∈ M:=by rw [hmn2,← h1,lF_get' (by omega)];exact List.getElem_mem _
            repeat' (first|refine gg ?_|exact trivial|with_reducible refine wA ?_ ?_|refine Y2.mk ?_ ?_|refine gh ?_|exact qq|fail)
            refine xdone ?_
            refine kretr (st':=⟨[(8,slP (m+1) 0)],[vRow c1 1 (m+1) (lF 0 M)]⟩) (can_rowsv [0] (k0_sel hk rfl) rfl (.cons rfl (RowEq.cl (v_cl c1_cl _ _ _)) .nil) tmq) rfl ⟨trivial,trivial⟩ rfl ⟨(m+1),M,hMl,(hM.found hin),rfl,rfl⟩
          · intro h1
            have h1:=of_decide_eq_false h1
            repeat' (first|refine gg ?_|exact trivial|with_reducible refine wA ?_ ?_|refine Y2.mk ?_ ?_|refine gh ?_|exact qq|fail)
            refine xdone ?_
            rw [hwj]
            exact kloop_next (st':=⟨[(3,slP (m+1) 0),(10,vi mn),(11,vi ((j+1:Nat):Int))],[vRow c1 1 (m+1) (lF 0 M)]⟩) ((m+1) - (j+1)) (can_rowsv [0] (k0_sel hk rfl) rfl (.cons rfl (RowEq.cl (v_cl c1_cl _ _ _)) .nil) tmq) (by omega) ⟨j+1,by omega,fun j' hj'=>by
              by_cases e:j'=j
              · subst e;exact h1
              · exact hv j' (by omega),rfl,rfl⟩
        · repeat' (first|refine gg ?_|exact trivial|with_reducible refine wA ?_ ?_|refine Y2.mk ?_ ?_|exact ⟨Nat.le_refl _,(by rw [hk];exact Nat.le_of_ble_eq_true rfl),Nat.le_of_eq (Nat.zero_add _),(show (_:Nat) * 8≤140737488355328 from by omega),(show (_:Nat)≤9223372036854775807 from by omega)⟩|refine gh ?_|exact qq|fail)
          refine xdone ?_
          refine kretr (st':=⟨[(8,slP (m+1+1) 0)],[vRow c1 1 (m+1+1) (lF 0 (M ++ [mn]))]⟩) (can_rowsv [2] (k0_sel hk rfl) rfl (.cons rfl (app_l c1_cl hMl rfl rfl) .nil) tmq) rfl ⟨trivial,trivial⟩ rfl ⟨(m+1+1),(M ++ [mn]),(by rw [List.length_append,hMl];rfl),hAd,rfl,rfl⟩
theorem walk_c (nm:ByteArray) (l:List Df) (act:List Int) (hl:l.length≤1000000) (ha:act.length≤1000000) (hin:∀ x,x ∈ act→0≤x∧x < l.length):∀ (n:Nat) (e:Ex),validS n e=true→e.w≤900000→WkC nm l act e
  | 0,_,h,_=>by cases h
  | n+1,.nil,h,_=>absurd h (by rw [validS];simp [Ex.nk,Ex.op,kidsN])
  | n+1,.mk op vn vd um uh ud nm0 cnt mode nk kf,h,hw=>by
    simp only [validS,Bool.and_eq_true,decide_eq_true_eq] at h
    obtain ⟨h1,_,h3⟩:=h
    have h1:(nk:Int)=kidsN op:=h1
    have h3:=allK_iff.1 h3
    have hk:=kidsN_le op
    have ih:∀ i,i < nk→WkC nm l act (kf i):=fun i hi=>walk_c nm l act hl ha hin n (kf i) (h3 i hi) (Nat.le_trans (w_kid (e:=.mk op vn vd um uh ud nm0 cnt mode nk kf) hi) hw)
    exact ⟨walk_nil nm l act hl ha hin op vn vd um uh ud nm0 cnt mode nk kf (by omega) ih (by omega),fun P k hP hw2=>walk_own nm l act hl ha hin op vn vd um uh ud nm0 cnt mode nk kf (by omega) ih P k hP hw2⟩
theorem walk0_c (nm:ByteArray) (l:List Df) (act:List Int) (hl:l.length≤1000000) (ha:act.length≤1000000) (hin:∀ x,x ∈ act→0≤x∧x < l.length) (e:Ex) (hv:validS 32 e=true) (hw:e.w≤900000):PureC G.P 74 [vA nm l,sV act,vX e,nilX] (fun r=>∃ M,MemOk (mnE l act) [] (refsE e) M∧r=sV M):=rows_pure (walk_c nm l act hl ha hin 32 e hv hw).nil fun r rows ⟨k,M,h1,h2,h3,h4⟩=>by
  subst h3 h4
  refine ⟨_,[0],⟨M,h2,rfl⟩,?_⟩
  subst h1
  rcases M with _|⟨x,M⟩
  · exact argNil
  · exact argTI (arg_v (n:=(x :: M).length) (l:=0) c1_cl rfl (List.Mem.head _))
end Go.Proofs.YtcefhgomkehokaaGreat
namespace Go.Proofs.YtcefhgomkehokaaGreat
theorem meanI_ge {l:List Df} {act:List Int} (hin:∀ x,x ∈ act→0≤x∧x < l.length) {e:Ex} {j:Int} (h:meanI l act e=some j):0≤j:=by
  rcases meanI_mem h with ⟨h1,_⟩|h1
  · exact h1
  · exact (hin j h1).1
theorem mem_mean {l:List Df} {act:List Int} (hin:∀ x,x ∈ act→0≤x∧x < l.length) {R:List Ex} {M:List Int} (h:MemOk (mnE l act) [] R M) {x:Int} (hx:0≤x):x ∈ M↔x ∈ R.filterMap (meanI l act):=by
  rw [h.mem,List.mem_map,List.mem_filterMap]
  constructor
  · rintro (h1|⟨r,hr,h1⟩)
    · cases h1
    · refine ⟨r,hr,?_⟩
      unfold mnE at h1
      cases hm:meanI l act r with
      | none=>rw [hm] at h1;simp at h1;omega
      | some j=>rw [hm] at h1;simp at h1;rw [h1]
  · rintro ⟨r,hr,h1⟩
    exact .inr ⟨r,hr,by unfold mnE;rw [h1];rfl⟩
theorem mem_none {l:List Df} {act:List Int} (hin:∀ x,x ∈ act→0≤x∧x < l.length) {R:List Ex} {M:List Int} (h:MemOk (mnE l act) [] R M):decide ((-1:Int) ∈ M)=!R.all (fun e=>(meanI l act e).isSome):=by
  rw [Bool.eq_iff_iff,decide_eq_true_eq,h.mem,List.mem_map]
  rw [Bool.not_eq_true',List.all_eq_false]
  constructor
  · rintro (h1|⟨r,hr,h1⟩)
    · cases h1
    · refine ⟨r,hr,?_⟩
      unfold mnE at h1
      cases hm:meanI l act r with
      | none=>simp
      | some j=>rw [hm] at h1;have:=meanI_ge hin hm;simp at h1;omega
  · rintro ⟨r,hr,h1⟩
    refine .inr ⟨r,hr,?_⟩
    unfold mnE
    cases hm:meanI l act r with
    | none=>rfl
    | some j=>rw [hm] at h1;simp at h1
theorem filter_take {p:Int→Bool} {L:List Int} {q:Nat} (hq:q < L.length):(L.take (q+1)).filter p=(L.take q).filter p ++ if p (lF 0 L q)=true then [lF 0 L q] else []:=by
  rw [List.take_succ_eq_append_getElem hq,List.filter_append,lF_get' hq]
  congr 1
  rw [List.filter_cons,List.filter_nil]
theorem filter_take_len {p:Int→Bool} {L:List Int} {q:Nat} : ((L.take q).filter p).length≤L.length:=by
  have h1:=List.length_filter_le p (L.take q)
  rw [List.length_take] at h1;omega
set_option maxHeartbeats 8000000 in
theorem needs21_c (nm:ByteArray) (l:List Df) (act:List Int) (i:Nat) (hi:i < l.length) (hl:l.length≤1000000) (ha:act.length≤1000000) (hin:∀ x,x ∈ act→0≤x∧x < l.length) (hb:BodyOk (lF dD l i)):PureC G.P 51 [vA nm l,sV act,vi i] (fun r=>r=.tup 2 (nthP [sV (needL l act (refsE (lF dD l i).body)),vb ((refsE (lF dD l i).body).all (fun e=>(meanI l act e).isSome))])):=by
  have cw:=walk0_c nm l act hl ha hin (lF dD l i).body hb.1 hb.2
  have hrl:=refs_len (lF dD l i).body
  have hbw:=hb.2
  refine pure_of (G:=G.toPg) (fn:=Tryz.f51) Tryz.func51 rfl rfl rfl ?_;intro Γ hk
  repeat' (first|refine gg ?_|exact trivial|with_reducible refine wA ?_ ?_|refine Y2.mk ?_ ?_|refine xs_start (id:=1) true [.take 0,.take 1,.take 2,.take 3,.take 4,.take 5,.take 6,.take 7,.one 8,.take 9] 0 rfl rfl (by kernel_rfl) ?_|refine xs_start (id:=6) true [.take 0,.take 1,.take 2,.take 3,.take 4,.take 5,.take 6,.take 7,.one 8,.take 9,.take 10,.take 11,.take 12,.take 13,.take 14,.one 15,.take 16] 0 rfl rfl (by kernel_rfl) ?_|exact ⟨(show (0:Int)≤(i:Int) by omega),(show ((i:Nat):Int) < ((l.length:Nat):Int) by omega)⟩|exact (show ((i:Nat):Int).toNat < l.length by omega)|(refine xs_one (ch:=[]) rfl rfl rfl (pst_rowsc [] rfl rfl rfl rfl rfl rfl .nil (pure_rows cw) (by exact ⟨PEq.cl _ (clA ⟨trivial,trivial,trivial⟩),PEq.refl _,PEq.cl _ (fun i _=>clL_nth _ i (cX_cl _)),PEq.refl _,trivial⟩) ?_);rintro r rows ⟨⟨M,hM,rfl⟩,rfl⟩;refine ⟨_,_,rfl,trivial,rfl,?_⟩)|refine gh ?_|exact qq|fail)
  have hMl:M.length≤1000000:=by have:=hM.len;simp only [List.length_nil] at this;omega
  obtain ⟨p,hp⟩:∃ p:Int→Bool,p=fun x=>comp (lF dD l x.toNat) && decide (x ∈ M):=⟨_,rfl⟩
  refine pcan (can_virt (vRow c1 1 0 (lF 0 [])) rfl) ?_
  refine pcan (st':=⟨[(1,sV act),(3,.ptr 0 0 0),(8,sV M),(9,slP 0 1),(10,vi ((0:Nat):Int))],[rA1 nm l,vRow c1 1 0 (lF 0 ((act.take 0).filter p))]⟩) (can_rowsv [0,1] (k0_sel hk rfl) rfl (.cons rfl (RowEq.cl (rA1_cl _ _)) (.cons rfl (RowEq.cl (v_cl c1_cl _ _ _)) .nil)) tmq) ?_
  refine ploop (fun z st=>∃ q k:Nat,q≤act.length∧((act.take q).filter p).length=k∧z=act.length - q∧st=⟨[(1,sV act),(3,.ptr 0 0 0),(8,sV M),(9,slP k 1),(10,vi q)],[rA1 nm l,vRow c1 1 k (lF 0 ((act.take q).filter p))]⟩) act.length ⟨0,0,by omega,rfl,by omega,rfl⟩ ?_
  rintro _ _ ⟨q,k,hq,hk2,rfl,rfl⟩
  have hw1:IntKind.i64.wrap ((q:Int)+1)=((q+1:Nat):Int):=w64 (by omega) (by omega)
  have hkl:=filter_take_len (p:=p) (L:=act) (q:=q)
  repeat' (first|refine gg ?_|exact trivial|with_reducible refine wA ?_ ?_|refine Y2.mk ?_ ?_|refine gh ?_|exact qq|fail)
  refine pcond rfl ?_ ?_<;>intro hc
  · have hc:q < act.length:=by have:=of_decide_eq_true hc;omega
    have hx:=hin (lF 0 act q) (by rw [lF_get' hc];exact List.getElem_mem hc)
    have cr:=isRoutine_c (lF dD l (lF 0 act q).toNat)
    have ch:=has_c M (lF 0 act q) hMl
    have hf:=filter_take (p:=p) hc
    repeat' (first|refine gg ?_|exact trivial|with_reducible refine wA ?_ ?_|refine Y2.mk ?_ ?_|refine xs_start (id:=1) true [.take 0,.take 1,.take 2,.take 3,.take 4,.take 5,.take 6,.take 7,.one 8,.take 9] 0 rfl rfl (by kernel_rfl) ?_|refine xs_start (id:=6) true [.take 0,.take 1,.take 2,.take 3,.take 4,.take 5,.take 6,.take 7,.one 8,.take 9,.take 10,.take 11,.take 12,.take 13,.take 14,.one 15,.take 16] 0 rfl rfl (by kernel_rfl) ?_|exact hx|(exact (show (lF 0 act q).toNat < l.length by omega))|(intro hh;exact ⟨hh,by omega,by omega⟩)|(intro hh;exact ⟨by omega,by omega⟩)|refine zz cr ?_|refine zz ch ?_|refine gh ?_|exact qq|fail)
    refine pcond (b:=p (lF 0 act q)) ?_ ?_ ?_
    · refine eqB ?_
      rw [hp]
      show (bif comp (lF dD l (lF 0 act q).toNat) then decide (lF 0 act q ∈ M) else false)=(comp (lF dD l (lF 0 act q).toNat) && decide (lF 0 act q ∈ M))
      cases comp (lF dD l (lF 0 act q).toNat)<;>rfl
    · intro h1
      rw [if_pos h1] at hf
      rcases k with _|k
      · repeat' (first|refine gg ?_|exact trivial|with_reducible refine wA ?_ ?_|refine Y2.mk ?_ ?_|exact ⟨Nat.le_refl _,(by rw [hk];exact Nat.le_of_ble_eq_true rfl),Nat.le_of_eq (Nat.zero_add _),(show (_:Nat) * 8≤140737488355328 from by omega),(show (_:Nat)≤9223372036854775807 from by omega)⟩|(exact (show (_:Nat) < _ by omega))|refine gh ?_|exact qq|fail)
        refine xdone ?_
        rw [hw1]
        exact kloop_next (st':=⟨[(1,sV act),(3,.ptr 0 0 0),(8,sV M),(9,slP (0+1) 1),(10,vi ((q+1:Nat):Int))],[rA1 nm l,vRow c1 1 (0+1) (lF 0 ((act.take q).filter p ++ [lF 0 act q]))]⟩) (act.length - (q+1)) (can_rowsv [0,3] (k0_sel hk rfl) rfl (.cons rfl (RowEq.cl (rA1_cl _ _)) (.cons rfl (app_l0 c1_cl hk2 rfl) .nil)) tmq) (by omega) ⟨q+1,0+1,by omega,by rw [hf,List.length_append,hk2];rfl,rfl,by rw [hf]⟩
      · repeat' (first|refine gg ?_|exact trivial|with_reducible refine wA ?_ ?_|refine Y2.mk ?_ ?_|exact ⟨Nat.le_refl _,(by rw [hk];exact Nat.le_of_ble_eq_true rfl),Nat.le_of_eq (Nat.zero_add _),(show (_:Nat) * 8≤140737488355328 from by omega),(show (_:Nat)≤9223372036854775807 from by omega)⟩|(exact (show (_:Nat) < _ by omega))|refine gh ?_|exact qq|fail)
        refine xdone ?_
        rw [hw1]
        exact kloop_next (st':=⟨[(1,sV act),(3,.ptr 0 0 0),(8,sV M),(9,slP (k+1+1) 1),(10,vi ((q+1:Nat):Int))],[rA1 nm l,vRow c1 1 (k+1+1) (lF 0 ((act.take q).filter p ++ [lF 0 act q]))]⟩) (act.length - (q+1)) (can_rowsv [0,3] (k0_sel hk rfl) rfl (.cons rfl (RowEq.cl (rA1_cl _ _)) (.cons rfl (app_l c1_cl hk2 rfl rfl) .nil)) tmq) (by omega) ⟨q+1,k+1+1,by omega,by rw [hf,List.length_append,hk2];rfl,rfl,by rw [hf]⟩
    · intro h1
      rw [if_neg (by rw [h1];decide),List.append_nil] at hf
      repeat' (first|refine gg ?_|exact trivial|with_reducible refine wA ?_ ?_|refine Y2.mk ?_ ?_|refine gh ?_|exact qq|fail)
      refine xdone ?_
      rw [hw1]
      exact kloop_next (st':=⟨[(1,sV act),(3,.ptr 0 0 0),(8,sV M),(9,slP k 1),(10,vi ((q+1:Nat):Int))],[rA1 nm l,vRow c1 1 k (lF 0 ((act.take q).filter p))]⟩) (act.length - (q+1)) (can_rowsv [0,1] (k0_sel hk rfl) rfl (.cons rfl (RowEq.cl (rA1_cl _ _)) (.cons rfl (RowEq.cl (v_cl c1_cl _ _ _)) .nil)) (by exact ⟨PEq.refl _,PEq.refl _,PEq.refl _,peq_slP rfl,PEq.refl _,trivial⟩)) (by omega) ⟨q+1,k,by omega,by rw [hf];exact hk2,rfl,by rw [hf]⟩
  · have hql:q=act.length:=by have:=of_decide_eq_false hc;omega
    subst hql
    have ch:=has_c M (-1) hMl
    have hnL:(act.take act.length).filter p=needL l act (refsE (lF dD l i).body):=by
      rw [List.take_length,hp]
      unfold needL
      refine List.filter_congr fun x hx=>?_
      rw [show decide (x ∈ M)=decide (x ∈ (refsE (lF dD l i).body).filterMap (meanI l act)) from by rw [decide_eq_decide];exact mem_mean hin hM (hin x hx).1]
    have hno:=mem_none hin hM
    have hal:(!decide ((-1:Int) ∈ M))=(refsE (lF dD l i).body).all (fun e=>(meanI l act e).isSome):=by rw [hno,Bool.not_not]
    rcases k with _|k
    · repeat' (first|refine gg ?_|exact trivial|with_reducible refine wA ?_ ?_|refine Y2.mk ?_ ?_|refine zz ch ?_|refine gh ?_|exact qq|fail)
      refine xdone ?_
      refine kret [1] rfl ⟨trivial,trivial,trivial⟩ (qs:=[.vsl 0 1 (tI (lF 0 ((act.take act.length).filter p))),vb (!decide ((-1:Int) ∈ M))]) ⟨argTI (arg_v (n:=0) (l:=1) c1_cl rfl (List.Mem.head _)),argVal,trivial⟩ ?_
      rw [← hnL,← hal,show sV ((act.take act.length).filter p)=.vsl 0 1 (tI (lF 0 ((act.take act.length).filter p))) from by show PV.vsl _ _ _=_;rw [hk2]];rfl
    · repeat' (first|refine gg ?_|exact trivial|with_reducible refine wA ?_ ?_|refine Y2.mk ?_ ?_|refine zz ch ?_|refine gh ?_|exact qq|fail)
      refine xdone ?_
      refine kret [1] rfl ⟨trivial,trivial,trivial⟩ (qs:=[.vsl (k+1) 1 (tI (lF 0 ((act.take act.length).filter p))),vb (!decide ((-1:Int) ∈ M))]) ⟨argTI (arg_v (n:=k+1) (l:=1) c1_cl rfl (List.Mem.head _)),argVal,trivial⟩ ?_
      rw [← hnL,← hal,show sV ((act.take act.length).filter p)=.vsl (k+1) 1 (tI (lF 0 ((act.take act.length).filter p))) from by show PV.vsl _ _ _=_;rw [hk2]];rfl
set_option maxHeartbeats 8000000 in
theorem Needs21_c (nm:ByteArray) (l:List Df) (day i:Int) (h:AgO nm l) (hl:l.length≤1000000):PureC G.P 28 [vA nm l,vi day,vi i] (fun r=>r=.tup 2 (nthP [sV (NeedsS nm l day i).1,vi (NeedsS nm l day i).2])):=by
  have cv:=valid18_c nm l h.nm h.bd
  have cd:=inDays_c day
  have cA:=Active21_c nm l day h hl
  have hck:=chk_days (nm:=nm) (l:=l) (day:=day)
  cases ha:agrS nm l with
  | false =>
    rw [ha] at hck cv
    have hck:chkE nm l day=1:=hck
    have hN:NeedsS nm l day i=([],1):=by unfold NeedsS;rw [hck];rfl
    rw [hN]
    refine pure_of (G:=G.toPg) (fn:=Tryz.f28) Tryz.func28 rfl rfl rfl ?_;intro Γ hk
    repeat' (first|refine gg ?_|exact trivial|with_reducible refine wA ?_ ?_|refine Y2.mk ?_ ?_|refine zz cv ?_|refine gh ?_|exact qq|fail)
    refine xdone ?_
    exact kret [] rfl ⟨trivial,trivial,trivial⟩ (qs:=[.vsl 0 1 (tI (lF 0 [])),vi 1]) ⟨argNil,argVal,trivial⟩ rfl
  | true =>
    rw [ha] at hck cv
    cases hd:dayS day with
    | false =>
      rw [hd] at hck cd
      have hck:chkE nm l day=2:=hck
      have hN:NeedsS nm l day i=([],2):=by unfold NeedsS;rw [hck];rfl
      rw [hN]
      refine pure_of (G:=G.toPg) (fn:=Tryz.f28) Tryz.func28 rfl rfl rfl ?_;intro Γ hk
      repeat' (first|refine gg ?_|exact trivial|with_reducible refine wA ?_ ?_|refine Y2.mk ?_ ?_|refine zz cv ?_|refine zz cd ?_|refine gh ?_|exact qq|fail)
      refine xdone ?_
      exact kret [] rfl ⟨trivial,trivial,trivial⟩ (qs:=[.vsl 0 1 (tI (lF 0 [])),vi 2]) ⟨argNil,argVal,trivial⟩ rfl
    | true =>
      rw [hd] at hck cd
      have hck:chkE nm l day=0:=hck
      have hAS:ActS nm l day=actL l day:=by unfold ActS;rw [hck];rfl
      rw [hAS] at cA
      have hAl:=actL_len l day
      have hin:=actL_in (l:=l) (day:=day)
      have hN:NeedsS nm l day i=if i ∈ actL l day∧comp (lF dD l i.toNat)=true then needS l (actL l day) i.toNat else ([],16):=by unfold NeedsS;rw [hck];rfl
      rw [hN]
      have ch:=has_c (actL l day) i (by omega)
      refine pure_of (G:=G.toPg) (fn:=Tryz.f28) Tryz.func28 rfl rfl rfl ?_;intro Γ hk
      by_cases hi:i ∈ actL l day
      · have hib:=hin i hi
        rw [decide_eq_true hi] at ch
        obtain ⟨j,rfl⟩:=Int.eq_ofNat_of_zero_le hib.1
        have cr:=isRoutine_c (lF dD l (j:Int).toNat)
        repeat' (first|refine gg ?_|exact trivial|with_reducible refine wA ?_ ?_|refine Y2.mk ?_ ?_|(refine pop_callc [] rfl rfl rfl rfl rfl rfl (fun _ h=>by cases h) (cA) (args_cl _ rfl) ?_;rintro _ rfl)|refine zz cv ?_|refine zz cd ?_|refine zz ch ?_|refine zz cr ?_|refine gh ?_|exact qq|fail)
        refine pcond (b:=!comp (lF dD l j)) ?_ ?_ ?_
        · exact eqB rfl
        · intro h1
          have h1:=nv_t h1
          rw [if_neg (by rw [Int.toNat_natCast,h1];simp)]
          repeat' (first|refine gg ?_|exact trivial|with_reducible refine wA ?_ ?_|refine Y2.mk ?_ ?_|refine gh ?_|exact qq|fail)
          refine xdone ?_
          exact kret [] rfl ⟨trivial,trivial,trivial⟩ (qs:=[.vsl 0 1 (tI (lF 0 [])),vi 16]) ⟨argNil,argVal,trivial⟩ rfl
        · intro h1
          have h1:=nv_f h1
          rw [if_pos (by rw [Int.toNat_natCast];exact ⟨hi,h1⟩),Int.toNat_natCast]
          have cn:=needs21_c nm l (actL l day) j (by omega) hl (by omega) hin (h.body ha (by omega) h1)
          unfold needS
          cases hall:(refsE (lF dD l j).body).all (fun e=>(meanI l (actL l day) e).isSome) with
          | true =>
            rw [hall] at cn
            rw [if_pos rfl]
            repeat' (first|refine gg ?_|exact trivial|with_reducible refine wA ?_ ?_|refine Y2.mk ?_ ?_|(refine pop_callc [] rfl rfl rfl rfl rfl rfl (fun _ h=>by cases h) (cn) (args_cl _ rfl) ?_;rintro _ rfl)|refine gh ?_|exact qq|fail)
            refine xdone ?_
            exact kretv rfl ⟨trivial,trivial,trivial⟩ rfl rfl
          | false =>
            rw [hall] at cn
            rw [if_neg (by decide)]
            repeat' (first|refine gg ?_|exact trivial|with_reducible refine wA ?_ ?_|refine Y2.mk ?_ ?_|(refine pop_callc [] rfl rfl rfl rfl rfl rfl (fun _ h=>by cases h) (cn) (args_cl _ rfl) ?_;rintro _ rfl)|refine gh ?_|exact qq|fail)
            refine xdone ?_
            exact kret [] rfl ⟨trivial,trivial,trivial⟩ (qs:=[.vsl 0 1 (tI (lF 0 [])),vi 7]) ⟨argNil,argVal,trivial⟩ rfl
      · rw [decide_eq_false hi] at ch
        rw [if_neg (fun hh=>hi hh.1)]
        repeat' (first|refine gg ?_|exact trivial|with_reducible refine wA ?_ ?_|refine Y2.mk ?_ ?_|(refine pop_callc [] rfl rfl rfl rfl rfl rfl (fun _ h=>by cases h) (cA) (args_cl _ rfl) ?_;rintro _ rfl)|(intro hh;exact absurd hh (by decide))|(refine pop_gfalse rfl rfl rfl rfl ?_)|refine zz cv ?_|refine zz cd ?_|refine zz ch ?_|refine gh ?_|exact qq|fail)
        refine xdone ?_
        exact kret [] rfl ⟨trivial,trivial,trivial⟩ (qs:=[.vsl 0 1 (tI (lF 0 [])),vi 16]) ⟨argNil,argVal,trivial⟩ rfl
end Go.Proofs.YtcefhgomkehokaaGreat
namespace Go.Proofs.YtcefhgomkehokaaGreat
set_option maxHeartbeats 8000000 in
theorem routines21_c (nm:ByteArray) (l:List Df) (act:List Int) (hl:l.length≤1000000) (ha:act.length≤1000000) (hin:∀ x,x ∈ act→0≤x∧x < l.length):PureC G.P 52 [vA nm l,sV act] (fun r=>r=sV (nodL l act)):=by
  obtain ⟨p,hp⟩:∃ p:Int→Bool,p=fun x=>comp (lF dD l x.toNat):=⟨_,rfl⟩
  have hnL:nodL l act=act.filter p:=by rw [hp];rfl
  rw [hnL]
  refine pure_of (G:=G.toPg) (fn:=Tryz.f52) Tryz.func52 rfl rfl rfl ?_;intro Γ hk
  repeat' (first|refine gg ?_|exact trivial|with_reducible refine wA ?_ ?_|refine Y2.mk ?_ ?_|refine gh ?_|exact qq|fail)
  refine pcan (can_virt (vRow c1 1 0 (lF 0 [])) rfl) ?_
  refine pcan (st':=⟨[(1,sV act),(2,.ptr 0 0 0),(5,slP 0 1),(6,vi ((0:Nat):Int))],[rA1 nm l,vRow c1 1 0 (lF 0 ((act.take 0).filter p))]⟩) (can_rowsv [0,1] (k0_sel hk rfl) rfl (.cons rfl (RowEq.cl (rA1_cl _ _)) (.cons rfl (RowEq.cl (v_cl c1_cl _ _ _)) .nil)) tmq) ?_
  refine ploop (fun z st=>∃ q k:Nat,q≤act.length∧((act.take q).filter p).length=k∧z=act.length - q∧st=⟨[(1,sV act),(2,.ptr 0 0 0),(5,slP k 1),(6,vi q)],[rA1 nm l,vRow c1 1 k (lF 0 ((act.take q).filter p))]⟩) act.length ⟨0,0,by omega,rfl,by omega,rfl⟩ ?_
  rintro _ _ ⟨q,k,hq,hk2,rfl,rfl⟩
  have hw1:IntKind.i64.wrap ((q:Int)+1)=((q+1:Nat):Int):=w64 (by omega) (by omega)
  have hkl:=filter_take_len (p:=p) (L:=act) (q:=q)
  repeat' (first|refine gg ?_|exact trivial|with_reducible refine wA ?_ ?_|refine Y2.mk ?_ ?_|refine gh ?_|exact qq|fail)
  refine pcond rfl ?_ ?_<;>intro hc
  · have hc:q < act.length:=by have:=of_decide_eq_true hc;omega
    have hx:=hin (lF 0 act q) (by rw [lF_get' hc];exact List.getElem_mem hc)
    have cr:=isRoutine_c (lF dD l (lF 0 act q).toNat)
    have hf:=filter_take (p:=p) hc
    repeat' (first|refine gg ?_|exact trivial|with_reducible refine wA ?_ ?_|refine Y2.mk ?_ ?_|refine xs_start (id:=5) true [.take 0,.take 1,.take 2,.take 3,.take 4,.take 5,.take 6,.take 7,.one 8] 0 rfl rfl (by kernel_rfl) ?_|exact hx|(exact (show (lF 0 act q).toNat < l.length by omega))|refine zz cr ?_|refine gh ?_|exact qq|fail)
    refine pcond (b:=p (lF 0 act q)) ?_ ?_ ?_
    · refine eqB ?_
      rw [hp]
    · intro h1
      rw [if_pos h1] at hf
      rcases k with _|k
      · repeat' (first|refine gg ?_|exact trivial|with_reducible refine wA ?_ ?_|refine Y2.mk ?_ ?_|exact ⟨Nat.le_refl _,(by rw [hk];exact Nat.le_of_ble_eq_true rfl),Nat.le_of_eq (Nat.zero_add _),(show (_:Nat) * 8≤140737488355328 from by omega),(show (_:Nat)≤9223372036854775807 from by omega)⟩|(exact (show (_:Nat) < _ by omega))|refine gh ?_|exact qq|fail)
        refine xdone ?_
        rw [hw1]
        exact kloop_next (st':=⟨[(1,sV act),(2,.ptr 0 0 0),(5,slP (0+1) 1),(6,vi ((q+1:Nat):Int))],[rA1 nm l,vRow c1 1 (0+1) (lF 0 ((act.take q).filter p ++ [lF 0 act q]))]⟩) (act.length - (q+1)) (can_rowsv [0,3] (k0_sel hk rfl) rfl (.cons rfl (RowEq.cl (rA1_cl _ _)) (.cons rfl (app_l0 c1_cl hk2 rfl) .nil)) tmq) (by omega) ⟨q+1,0+1,by omega,by rw [hf,List.length_append,hk2];rfl,rfl,by rw [hf]⟩
      · repeat' (first|refine gg ?_|exact trivial|with_reducible refine wA ?_ ?_|refine Y2.mk ?_ ?_|exact ⟨Nat.le_refl _,(by rw [hk];exact Nat.le_of_ble_eq_true rfl),Nat.le_of_eq (Nat.zero_add _),(show (_:Nat) * 8≤140737488355328 from by omega),(show (_:Nat)≤9223372036854775807 from by omega)⟩|(exact (show (_:Nat) < _ by omega))|refine gh ?_|exact qq|fail)
        refine xdone ?_
        rw [hw1]
        exact kloop_next (st':=⟨[(1,sV act),(2,.ptr 0 0 0),(5,slP (k+1+1) 1),(6,vi ((q+1:Nat):Int))],[rA1 nm l,vRow c1 1 (k+1+1) (lF 0 ((act.take q).filter p ++ [lF 0 act q]))]⟩) (act.length - (q+1)) (can_rowsv [0,3] (k0_sel hk rfl) rfl (.cons rfl (RowEq.cl (rA1_cl _ _)) (.cons rfl (app_l c1_cl hk2 rfl rfl) .nil)) tmq) (by omega) ⟨q+1,k+1+1,by omega,by rw [hf,List.length_append,hk2];rfl,rfl,by rw [hf]⟩
    · intro h1
      rw [if_neg (by rw [h1];decide),List.append_nil] at hf
      repeat' (first|refine gg ?_|exact trivial|with_reducible refine wA ?_ ?_|refine Y2.mk ?_ ?_|refine gh ?_|exact qq|fail)
      refine xdone ?_
      rw [hw1]
      exact kloop_next (st':=⟨[(1,sV act),(2,.ptr 0 0 0),(5,slP k 1),(6,vi ((q+1:Nat):Int))],[rA1 nm l,vRow c1 1 k (lF 0 ((act.take q).filter p))]⟩) (act.length - (q+1)) (can_rowsv [0,1] (k0_sel hk rfl) rfl (.cons rfl (RowEq.cl (rA1_cl _ _)) (.cons rfl (RowEq.cl (v_cl c1_cl _ _ _)) .nil)) (by exact ⟨PEq.refl _,PEq.refl _,peq_slP rfl,PEq.refl _,trivial⟩)) (by omega) ⟨q+1,k,by omega,by rw [hf];exact hk2,rfl,by rw [hf]⟩
  · have hql:q=act.length:=by have:=of_decide_eq_false hc;omega
    subst hql
    have hX:(act.take act.length).filter p=act.filter p:=by rw [List.take_length]
    rw [← hX]
    rcases k with _|k
    · repeat' (first|refine gg ?_|exact trivial|with_reducible refine wA ?_ ?_|refine Y2.mk ?_ ?_|refine gh ?_|exact qq|fail)
      refine xdone ?_
      refine kret [1] rfl ⟨trivial,trivial⟩ (qs:=[.vsl 0 1 (tI (lF 0 ((act.take act.length).filter p)))]) ⟨argTI (arg_v (n:=0) (l:=1) c1_cl rfl (List.Mem.head _)),trivial⟩ ?_
      rw [show sV ((act.take act.length).filter p)=.vsl 0 1 (tI (lF 0 ((act.take act.length).filter p))) from by show PV.vsl _ _ _=_;rw [hk2]];rfl
    · repeat' (first|refine gg ?_|exact trivial|with_reducible refine wA ?_ ?_|refine Y2.mk ?_ ?_|refine gh ?_|exact qq|fail)
      refine xdone ?_
      refine kret [1] rfl ⟨trivial,trivial⟩ (qs:=[.vsl (k+1) 1 (tI (lF 0 ((act.take act.length).filter p)))]) ⟨argTI (arg_v (n:=k+1) (l:=1) c1_cl rfl (List.Mem.head _)),trivial⟩ ?_
      rw [show sV ((act.take act.length).filter p)=.vsl (k+1) 1 (tI (lF 0 ((act.take act.length).filter p))) from by show PV.vsl _ _ _=_;rw [hk2]];rfl
def mentR (l:List Df) (act:List Int) (s:ByteArray) (r:Ex):Bool:=(r.nm.toList == s.toList) && decide (0≤mnE l act r)
theorem any_flat {α:Type} {g:Nat→List α} {p:α→Bool} : ∀ {n:Nat},(flatK n g).any p=(List.range n).any fun i=>(g i).any p
  | 0=>rfl
  | n+1=>by rw [flatK,List.any_append,any_flat,List.range_succ,List.any_append];simp
set_option maxHeartbeats 8000000 in
theorem ment_one (nm : ByteArray) (l : List Df) (act : List Int) (hl : l.length ≤ 1000000) (ha : act.length ≤ 1000000) (hin : ∀ x, x ∈ act → 0 ≤ x ∧ x < l.length) (s : ByteArray) (op vn vd um uh ud : Int) (nm0 : ByteArray) (cnt mode : Int) (nk : Nat) (kf : Nat → Ex) (hnk : nk ≤ 1000000) (ih : ∀ i, i < nk → PureC G.P 59 [vA nm l, sV act, vX (kf i), vs s] (fun r => r = vb ((refsE (kf i)).any (mentR l act s)))) :
    PureC G.P 59 [vA nm l,sV act,vX (.mk op vn vd um uh ud nm0 cnt mode nk kf),vs s] (fun r=>r=vb ((refsE (.mk op vn vd um uh ud nm0 cnt mode nk kf)).any (mentR l act s))):=by
  refine pure_of (G:=G.toPg) (fn:=Tryz.f59) Tryz.func59 rfl rfl rfl ?_;intro Γ hk
  repeat' (first|refine gg ?_|exact trivial|with_reducible refine wA ?_ ?_|refine Y2.mk ?_ ?_|refine gh ?_|exact qq|fail)
  refine pcan (st':=⟨[(1,sV act),(3,vs s),(4,.ptr 0 0 0),(6,.ptr 1 0 0),(9,vi ((0:Nat):Int))],[rA1 nm l,rXE (.mk op vn vd um uh ud nm0 cnt mode nk kf)]⟩) (can_rowsv [0,1] (k0_sel hk rfl) rfl (.cons rfl (RowEq.cl (rA1_cl _ _)) (.cons rfl (RowEq.cl (rXE_cl _)) .nil)) tmq) ?_
  refine ploop (fun z st=>∃ i:Nat,i≤nk∧(∀ j,j < i→(refsE (kf j)).any (mentR l act s)=false)∧z=nk - i∧st=⟨[(1,sV act),(3,vs s),(4,.ptr 0 0 0),(6,.ptr 1 0 0),(9,vi i)],[rA1 nm l,rXE (.mk op vn vd um uh ud nm0 cnt mode nk kf)]⟩) nk ⟨0,by omega,fun j hj=>absurd hj (Nat.not_lt_zero j),by omega,rfl⟩ ?_
  rintro _ _ ⟨i,hi,hv,rfl,rfl⟩
  have hw1:IntKind.i64.wrap ((i:Int)+1)=((i+1:Nat):Int):=w64 (by omega) (by omega)
  repeat' (first|refine gg ?_|exact trivial|with_reducible refine wA ?_ ?_|refine Y2.mk ?_ ?_|refine gh ?_|exact qq|fail)
  refine pcond rfl ?_ ?_<;>intro hc
  · have hc:i < nk:=by have:(i:Int) < (nk:Int):=of_decide_eq_true hc;omega
    have hcI:(0:Int)≤(i:Int)∧(i:Int) < (nk:Int):=⟨by omega,by omega⟩
    have ci:=ih i hc
    repeat' (first|refine gg ?_|exact trivial|with_reducible refine wA ?_ ?_|refine Y2.mk ?_ ?_|refine xs_start (id:=4) true [.take 0,.take 1,.take 2,.take 3,.take 4,.take 5,.take 6,.take 7,.one 8] 0 rfl rfl (by kernel_rfl) ?_|exact hc|exact hcI|refine zz ci ?_|refine gh ?_|exact qq|fail)
    refine pcond (b:=(refsE (kf i)).any (mentR l act s)) rfl ?_ ?_
    · intro h1
      repeat' (first|refine gg ?_|exact trivial|with_reducible refine wA ?_ ?_|refine Y2.mk ?_ ?_|refine gh ?_|exact qq|fail)
      refine kretv rfl ⟨trivial,trivial⟩ rfl (eqB ?_)
      symm
      rw [refsE,List.any_append,any_flat,Bool.or_eq_true]
      exact .inr (List.any_eq_true.2 ⟨i,List.mem_range.2 hc,h1⟩)
    · intro h1
      repeat' (first|refine gg ?_|exact trivial|with_reducible refine wA ?_ ?_|refine Y2.mk ?_ ?_|refine gh ?_|exact qq|fail)
      rw [hw1]
      exact kloop_next (st':=⟨[(1,sV act),(3,vs s),(4,.ptr 0 0 0),(6,.ptr 1 0 0),(9,vi ((i+1:Nat):Int))],[rA1 nm l,rXE (.mk op vn vd um uh ud nm0 cnt mode nk kf)]⟩) (nk - (i+1)) (can_rowsv [0,1] (k0_sel hk rfl) rfl (.cons rfl (RowEq.cl (rA1_cl _ _)) (.cons rfl (RowEq.cl (rXE_cl _)) .nil)) tmq) (by omega) ⟨i+1,by omega,fun j hj=>by
        by_cases e:j=i
        · subst e;exact h1
        · exact hv j (by omega),rfl,rfl⟩
  · have hin2:nk=i:=by have : ¬ (i:Int) < (nk:Int):=of_decide_eq_false hc;omega
    subst hin2
    have cm:=means21_c nm l act s (op == 4) hl ha hin
    repeat' (first|refine gg ?_|exact trivial|with_reducible refine wA ?_ ?_|refine Y2.mk ?_ ?_|(refine z4 cm ?_ (hp:=by exact fun h=>⟨h,h,h,h,trivial⟩))|refine gh ?_|exact qq|fail)
    refine xdone ?_
    refine kretv rfl ⟨trivial,trivial⟩ rfl (eqB ?_)
    rw [refsE,List.any_append,any_flat]
    have h0:((List.range nk).any fun i=>(refsE (kf i)).any (mentR l act s))=false:=by
      rw [List.any_eq_false]
      intro j hj
      rw [hv j (List.mem_range.1 hj)];decide
    rw [h0,Bool.or_false]
    show (bif bif bif op == 3 then true else op == 4 then nm0.toList == s.toList else false then decide (0≤mnI l act s (op == 4)) else false)=_
    by_cases h34:op=3∨op=4
    · rw [if_pos h34,List.any_cons,List.any_nil,Bool.or_false]
      unfold mentR
      rw [mnE_op h34,show (bif op == 3 then true else op == 4)=true from by rcases h34 with rfl|rfl<;>rfl]
      show (bif nm0.toList == s.toList then _ else false)=(nm0.toList == s.toList && _)
      by_cases e:nm0.toList=s.toList
      · rw [ba_eq e]
        simp
      · rw [show (nm0.toList == s.toList)=false from by simpa using e];rfl
    · rw [if_neg h34, show (bif op == 3 then true else op == 4) = false from by
        have h3 : (op == 3) = false := by simp; omega
        have h4 : (op == 4) = false := by simp; omega
        rw [h3,h4];rfl]
      rfl
theorem mentions21_c (nm:ByteArray) (l:List Df) (act:List Int) (hl:l.length≤1000000) (ha:act.length≤1000000) (hin:∀ x,x ∈ act→0≤x∧x < l.length) (s:ByteArray):∀ (n:Nat) (e:Ex),validS n e=true→PureC G.P 59 [vA nm l,sV act,vX e,vs s] (fun r=>r=vb ((refsE e).any (mentR l act s)))
  | 0,_,h=>by cases h
  | n+1,.nil,h=>absurd h (by rw [validS];simp [Ex.nk,Ex.op,kidsN])
  | n+1,.mk op vn vd um uh ud nm0 cnt mode nk kf,h=>by
    simp only [validS,Bool.and_eq_true,decide_eq_true_eq] at h
    obtain ⟨h1,_,h3⟩:=h
    have h1:(nk:Int)=kidsN op:=h1
    have h3:=allK_iff.1 h3
    have hk:=kidsN_le op
    exact ment_one nm l act hl ha hin s op vn vd um uh ud nm0 cnt mode nk kf (by omega) fun i hi=>mentions21_c nm l act hl ha hin s n (kf i) (h3 i hi)
end Go.Proofs.YtcefhgomkehokaaGreat
namespace Go.Proofs.YtcefhgomkehokaaGreat
open Go.MapKept
section
variable {G:Pg} {N:Nat} {Γ:Fr} {st:PSt} {K:Exit→PSt→Prop} {ops:Array Oper} {o:Oper} {rest:List Oper} {l:Nat} {KT:Type} [DecidableEq KT] {kv:KT→Value} {t:TypeId} {x y z:Operand} {m:List (KT×Int)}
theorem pop_mins (M : MapT G.P t kv) (kk : KT) (v : Int) (hg : o.guard = none) (hd : o.dst = none) (ho : o.op = .insert t x y z) (hx : st.ev x = .mref l) (hy : st.ev y = .val (kv kk)) (hz : st.ev z = vi v) (hr : rowAt st.mem l = some (mRow kv m)) (hk : Γ.k0 ≤ l) (hni : noIt st.mem = true) {m' : List Row}
    (hm:setM st.mem l (mRow kv (mset m kk v)) some=some m') (h:POps G N Γ ops rest ⟨st.tm,m'⟩ K):POps G N Γ ops (o :: rest) st K:=.mk fun ρ I a w hrel=>by
  have hw:Region.wanted o (yielded ops a.tmps)=true:=by simp [Region.wanted,hg]
  simp only [wpList,hw,if_true]
  refine .inl ?_
  rw [rowAt_get] at hr
  rw [setM_eq] at hm
  simp only [Option.some.injEq] at hm
  subst hm
  have hxv:=ev_rel hrel x
  rw [hx] at hxv
  obtain ⟨_,hxv⟩:=hxv
  have hyv:=ev_rel hrel y
  rw [hy] at hyv
  have hyv:a.eval y=kv kk:=hyv
  have hzv:=ev_rel hrel z
  rw [hz] at hzv
  have hzv:a.eval z=.int .i64 v:=hzv
  obtain ⟨_,_,hs⟩:=hrel.fr.m.side l _ hr rfl
  obtain ⟨es,clock,q1,q2,q3⟩:=(hs Nat.zero_lt_one).1 rfl
  obtain ⟨es',clock',g1,g2,g3⟩:=run_mset M q1 (mapV_eq q3) q2 kk v
  have hv:(execOp a.eval o).run G.P w=.ok .skip { w with heap:=w.heap.setIfInBounds (ρ l).b (.map es' clock') }:=by
    unfold execOp
    rw [ho]
    simp only [hxv,hyv,hzv,Sem.run_bind,g1,Result.andThen,Sem.run_pure]
  simp only [Oper.wp,hv,Oper.upon_skip,hd,Act.put]
  refine h.go ρ I _ _ (hrel.setMap hr rfl hk hni (mRow kv (mset m kk v)) rfl rfl g2 fun k' ρ' w'=>?_)
  show mapV es'=mV kv (mset m kk v)
  have:=congrArg (List.map fun e:Value×Value=>Value.tuple #[e.1,e.2]) g3
  rw [List.map_map,List.map_map] at this
  unfold mapV mV
  congr 1
  apply Array.ext'
  rw [Array.toList_map]
  exact this
end
def mapIId:MapT G.P 96 kI:=⟨3,3,_,Tryz.underlying96,Tryz.underlying3,fun _=>rfl,kI_inj,Tryz.zeroValue3⟩
/-! ### the distances to a node -/
theorem nd_len:∀ {A B:List Int},A.Nodup→(∀ x,x ∈ A→x ∈ B)→A.length≤B.length
  | [],_,_,_=>Nat.zero_le _
  | a :: A,B,h,hs=>by
    rw [List.nodup_cons] at h
    have ha:=hs a (List.mem_cons_self ..)
    have h1:=nd_len (B:=B.erase a) h.2 fun x hx=>by
      have hne:x≠a:=fun e=>h.1 (e ▸ hx)
      exact (List.mem_erase_of_ne hne).2 (hs x (List.mem_cons_of_mem _ hx))
    rw [List.length_erase_of_mem ha] at h1
    have:=List.length_pos_of_mem ha
    show A.length+1≤_
    omega
abbrev DS:=List (Int×Int)×List Int
def disStep (L:List (Int×List Int)) (nx:Int) (s:DS) (i:Int):DS:=if (mget s.1 i).isSome=false∧nx ∈ sget L i then (s.1 ++ [(i,(mget s.1 nx).getD 0+1)],s.2 ++ [i]) else s
def disIn (L:List (Int×List Int)) (nx:Int) (s:DS) (N:List Int):DS:=N.foldl (disStep L nx) s
theorem disIn_snoc {L:List (Int×List Int)} {nx:Int} {s:DS} {N:List Int} {i:Int} : disIn L nx s (N ++ [i])=disStep L nx (disIn L nx s N) i:=by
  unfold disIn;rw [List.foldl_append];rfl
def disF (N:List Int) (L:List (Int×List Int)):Nat→DS→List (Int×Int)
  | 0,s=>s.1
  | f+1,s=>match s.2 with
    | []=>s.1
    | q :: Q=>disF N L f (disIn L q (s.1,Q) N)
theorem disF_nil {N:List Int} {L:List (Int×List Int)} {f:Nat} {s:DS} (h:s.2=[]):disF N L f s=s.1:=by
  cases f with
  | zero=>rfl
  | succ f=>rw [disF,h]
theorem disF_cons {N:List Int} {L:List (Int×List Int)} {f:Nat} {m:List (Int×Int)} {q:Int} {Q:List Int} : disF N L (f+1) (m,q :: Q)=disF N L f (disIn L q (m,Q) N):=rfl
theorem mget_app {m:List (Int×Int)} {k:Int} {e:Int×Int} (h:e.1≠k):mget (m ++ [e]) k=mget m k:=by
  induction m with
  | nil=>show (if e.1=k then _ else _)=_;rw [if_neg h]
  | cons a m ih =>
    show (if a.1=k then _ else mget (m ++ [e]) k)=(if a.1=k then _ else mget m k)
    rw [ih]
theorem mget_some {m:List (Int×Int)} {k d:Int} (h:mget m k=some d):(k,d) ∈ m:=by
  induction m with
  | nil=>cases h
  | cons a m ih =>
    have h:(if a.1=k then some a.2 else mget m k)=some d:=h
    by_cases e:a.1=k
    · rw [if_pos e] at h
      injection h with h
      rw [← e,← h];exact List.mem_cons_self ..
    · rw [if_neg e] at h
      exact List.mem_cons_of_mem _ (ih h)
theorem mget_is {m:List (Int×Int)} {k:Int} (h:k ∈ m.map (·.1)):∃ d,mget m k=some d:=by
  induction m with
  | nil=>cases h
  | cons a m ih =>
    by_cases e:a.1=k
    · exact ⟨a.2,if_pos e⟩
    · rcases List.mem_cons.1 h with h|h
      · exact absurd h.symm e
      · obtain ⟨d,hd⟩:=ih h
        exact ⟨d,(if_neg e).trans hd⟩
theorem mget_no {m:List (Int×Int)} {k:Int} (h:mget m k=none) : ¬ k ∈ m.map (·.1):=fun hk=>by
  obtain ⟨d,hd⟩:=mget_is hk
  rw [h] at hd;cases hd
theorem mget_snoc {m:List (Int×Int)} {k d:Int} (h:mget m k=none):mget (m ++ [(k,d)]) k=some d:=by
  induction m with
  | nil=>show (if k=k then _ else _)=_;rw [if_pos rfl]
  | cons a m ih =>
    have h:(if a.1=k then some a.2 else mget m k)=none:=h
    by_cases e:a.1=k
    · rw [if_pos e] at h;cases h
    · rw [if_neg e] at h
      exact (if_neg e).trans (ih h)
structure InvD (N:List Int) (L:List (Int×List Int)) (to:Int) (p:Nat) (s:DS):Prop where
  ks:∃ P:List Int,P.length=p∧s.1.map (·.1)=P ++ s.2
  nd:(s.1.map (·.1)).Nodup
  sub:∀ e,e ∈ s.1→e.1=to∨e.1 ∈ N
  val:∀ e,e ∈ s.1→0≤e.2∧e.2≤s.1.length
  zero:∀ e,e ∈ s.1→e.2=0→e.1=to
  pos:∀ e,e ∈ s.1→0 < e.2→∃ y,y ∈ sget L e.1∧mget s.1 y=some (e.2 - 1)
theorem InvD.len {N:List Int} {L:List (Int×List Int)} {to:Int} {p:Nat} {s:DS} (h:InvD N L to p s):s.1.length≤N.length+1:=by
  have:=nd_len (B:=to :: N) h.nd fun x hx=>by
    obtain ⟨e,he,rfl⟩:=List.mem_map.1 hx
    rcases h.sub e he with h1|h1
    · rw [h1];exact List.mem_cons_self ..
    · exact List.mem_cons_of_mem _ h1
  simpa using this
theorem InvD.len2 {N:List Int} {L:List (Int×List Int)} {to:Int} {p:Nat} {s:DS} (h:InvD N L to p s):s.1.length=p+s.2.length:=by
  obtain ⟨P,h1,h2⟩:=h.ks
  have:=congrArg List.length h2
  rw [List.length_map,List.length_append] at this
  omega
theorem InvD.step {N:List Int} {L:List (Int×List Int)} {to:Int} {p:Nat} {s:DS} {nx i:Int} (h:InvD N L to p s) (hi:i ∈ N) (hn:nx ∈ s.1.map (·.1)):InvD N L to p (disStep L nx s i):=by
  unfold disStep
  by_cases hc:(mget s.1 i).isSome=false∧nx ∈ sget L i
  · rw [if_pos hc]
    have hno:mget s.1 i=none:=by
      cases hm:mget s.1 i with
      | none=>rfl
      | some d=>rw [hm] at hc;cases hc.1
    obtain ⟨d,hd⟩:=mget_is hn
    have hdm:=h.val _ (mget_some hd)
    have hkey:∀ y,y ∈ s.1.map (·.1)→i≠y:=fun y hy e=>mget_no hno (e ▸ hy)
    rw [hd]
    show InvD N L to p (s.1 ++ [(i,d+1)],s.2 ++ [i])
    obtain ⟨P,hP1,hP2⟩:=h.ks
    refine ⟨⟨P,hP1,?_⟩,?_,?_,?_,?_,?_⟩
    · rw [List.map_append,hP2,List.append_assoc];rfl
    · rw [List.map_append,List.nodup_append]
      refine ⟨h.nd,by simp,fun a ha b hb=>?_⟩
      have:b=i:=by simpa using hb
      subst this
      exact fun e=>hkey a ha e.symm
    · intro e he
      rcases List.mem_append.1 he with he|he
      · exact h.sub e he
      · rw [List.mem_singleton.1 he];exact .inr hi
    · intro e he
      rw [List.length_append]
      rcases List.mem_append.1 he with he|he
      · have:=h.val e he
        refine ⟨this.1,?_⟩
        show e.2≤((s.1.length+1:Nat):Int)
        omega
      · rw [List.mem_singleton.1 he]
        have h2:d≤s.1.length:=hdm.2
        have h3:0≤d:=hdm.1
        refine ⟨by show 0≤d+1;omega,?_⟩
        show d+1≤((s.1.length+1:Nat):Int)
        omega
    · intro e he h0
      rcases List.mem_append.1 he with he|he
      · exact h.zero e he h0
      · rw [List.mem_singleton.1 he] at h0
        have h3:0≤d:=hdm.1
        have:d+1=0:=h0
        omega
    · intro e he h0
      rcases List.mem_append.1 he with he|he
      · obtain ⟨y,hy1,hy2⟩:=h.pos e he h0
        exact ⟨y,hy1,by rw [mget_app (hkey y (List.mem_map.2 ⟨_,mget_some hy2,rfl⟩))];exact hy2⟩
      · rw [List.mem_singleton.1 he]
        exact ⟨nx,hc.2,by rw [mget_app (hkey nx hn)];show _=some (d+1 - 1);rw [hd,show d+1 - 1=d by omega]⟩
  · rw [if_neg hc];exact h
theorem disStep_sub {L:List (Int×List Int)} {s:DS} {nx i k:Int} (h:k ∈ s.1.map (·.1)):k ∈ (disStep L nx s i).1.map (·.1):=by
  unfold disStep
  split
  · rw [List.map_append];exact List.mem_append_left _ h
  · exact h
end Go.Proofs.YtcefhgomkehokaaGreat
namespace Go.Proofs.YtcefhgomkehokaaGreat
open Go.MapKept
theorem InvD.pop {N:List Int} {L:List (Int×List Int)} {to:Int} {p:Nat} {m:List (Int×Int)} {q:Int} {Q:List Int} (h:InvD N L to p (m,q :: Q)):InvD N L to (p+1) (m,Q)∧q ∈ m.map (·.1):=by
  obtain ⟨P,h1,h2⟩:=h.ks
  have h2:m.map (·.1)=P ++ q :: Q:=h2
  refine ⟨⟨⟨P ++ [q],by simp [h1],?_⟩,h.nd,h.sub,h.val,h.zero,h.pos⟩,by rw [h2];simp⟩
  show m.map (·.1)=P ++ [q] ++ Q
  rw [h2,List.append_assoc];rfl
theorem InvD.fold {N:List Int} {L:List (Int×List Int)} {to:Int} {p:Nat} {nx:Int} : ∀ (A:List Int) (s:DS),InvD N L to p s→nx ∈ s.1.map (·.1)→(∀ x,x ∈ A→x ∈ N)→InvD N L to p (disIn L nx s A)∧nx ∈ (disIn L nx s A).1.map (·.1)
  | [],s,h,hn,_=>⟨h,hn⟩
  | a :: A,s,h,hn,hA=>InvD.fold A (disStep L nx s a) (h.step (hA a (List.mem_cons_self ..)) hn) (disStep_sub hn) (fun x hx=>hA x (List.mem_cons_of_mem _ hx))
theorem inv0 (N:List Int) (L:List (Int×List Int)) (to:Int):InvD N L to 0 ([(to,0)],[to]):=⟨⟨[],rfl,rfl⟩,List.nodup_cons.2 ⟨List.not_mem_nil,List.nodup_nil⟩,fun e he=>by rw [List.mem_singleton.1 he];exact .inl rfl,fun e he=>by rw [List.mem_singleton.1 he];exact ⟨Int.le_refl _,Int.natCast_nonneg _⟩,fun e he _=>by rw [List.mem_singleton.1 he],fun e he h0=>by rw [List.mem_singleton.1 he] at h0;exact absurd h0 (Int.lt_irrefl _)⟩
theorem disF_inv {N:List Int} {L:List (Int×List Int)} {to:Int} : ∀ (f p:Nat) (s:DS),InvD N L to p s→N.length+2≤p+f→∃ p',InvD N L to p' (disF N L f s,[])
  | 0,p,s,h,hf=>by have:=h.len;have:=h.len2;omega
  | f+1,p,(m,[]),h,hf=>⟨p,h⟩
  | f+1,p,(m,q :: Q),h,hf=>by
    obtain ⟨h1,h2⟩:=h.pop
    exact disF_inv f (p+1) _ (InvD.fold N _ h1 h2 (fun x hx=>hx)).1 (by omega)
def disS (N:List Int) (L:List (Int×List Int)) (to:Int):List (Int×Int):=disF N L (N.length+2) ([(to,0)],[to])
theorem disS_inv (N:List Int) (L:List (Int×List Int)) (to:Int):∃ p,InvD N L to p (disS N L to,[]):=disF_inv _ 0 _ (inv0 N L to) (by omega)
theorem app_q {τ:Nat→Option Nat} {o m:Nat} {g:Nat→Int} {Q:List Int} {y:Int} (hQ:Q.length=m) (hg:∀ a,a < m→g (o+a)=lF 0 Q a):RowEq (Row.ren τ ⟨.own,false,m+1,1,appF m (fun x=>tI g (o+x)) (fun x b=>nthP [vi y] ((0+x) * 1+b))⟩) (iRow (m+1) (lF 0 (Q ++ [y]))):=by
  refine i_eq (Nat.le_refl _) fun a ha=>?_
  by_cases e:a < m
  · rw [appF_lt _ _ e]
    show vi (g (o+a))=vi _
    rw [hg a e,lF_lt (by omega)]
  · rw [appF_ge _ _ (by omega)]
    obtain rfl:a=m:=by omega
    rw [show (0+(a - a)) * 1+0=0 by omega]
    show vi y=vi _
    have:=lF_at (d:=(0:Int)) (y:=y) (l:=Q) (r:=[])
    rw [hQ] at this
    rw [this]
set_option maxHeartbeats 8000000 in
theorem distances_r (N:List Int) (L:List (Int×List Int)) (to:Int) (hN:N.length≤1000000) (hL:∀ e,e ∈ L→e.2.length≤1000000):RowsC G.P 64 [] [vGr N L,vi to] (fun r rows=>r=.mref 0∧rows=[mRow kI (disS N L to)]):=by
  refine rows_of (G:=G.toPg) (fn:=Tryz.f64) Tryz.func64 rfl rfl rfl ?_;intro Γ hk
  repeat' (first|refine gg ?_|exact trivial|with_reducible refine wA ?_ ?_|refine Y2.mk ?_ ?_|refine gh ?_|exact qq|fail)
  refine pop_mkmap kI rfl rfl rfl rfl rfl ?_
  repeat' (first|refine gg ?_|exact trivial|with_reducible refine wA ?_ ?_|refine Y2.mk ?_ ?_|refine gh ?_|exact qq|fail)
  refine pop_mins mapIId to 0 rfl rfl rfl rfl rfl rfl rfl (by rw [hk];exact Nat.zero_le _) rfl rfl ?_
  repeat' (first|refine gg ?_|exact trivial|with_reducible refine wA ?_ ?_|refine Y2.mk ?_ ?_|refine gh ?_|exact qq|fail)
  refine pcan (can_rowsv [0,1,2] (tm:=[(2,.ptr 0 0 0),(5,.mref 1),(6,.lsl 2 0 1)]) (rows:=[cG (sV N) (.vmap (cS L)),mRow kI [(to,0)],iRow 1 (lF 0 [to])]) (k0_sel hk rfl) rfl (.cons rfl (cG_eq (PEq.refl _) (PEq.refl _)) (.cons rfl m_eq (.cons rfl (i_eq (Nat.le_refl _) fun a ha=>?_) .nil))) tmq) ?_
  · obtain rfl:a=0:=by omega
    rfl
  refine ploop (fun q st=>∃ (p o M k:Nat) (g:Nat→Int) (m:List (Int×Int)) (Q:List Int),Q.length=k∧InvD N L to p (m,Q)∧disS N L to=disF N L (N.length+2 - p) (m,Q)∧o+k≤M∧(∀ a,a < k→g (o+a)=lF 0 Q a)∧q=N.length+2 - p∧st=⟨[(2,.ptr 0 0 0),(5,.mref 1),(6,.lsl 2 o k)],[cG (sV N) (.vmap (cS L)),mRow kI m,iRow M g]⟩) (N.length+2) ⟨0,0,1,1,lF 0 [to],[(to,0)],[to],rfl,inv0 N L to,rfl,Nat.le_refl _,fun a ha=>by rw [Nat.zero_add],rfl,rfl⟩ ?_
  rintro _ _ ⟨p,o,M,k,g,m,Q,hQ,hI,hD,hM,hg,rfl,rfl⟩
  have hlen:=hI.len
  have hlen2:=hI.len2
  cases Q with
  | nil =>
    obtain rfl:k=0:=hQ.symm
    repeat' (first|refine gg ?_|exact trivial|with_reducible refine wA ?_ ?_|refine Y2.mk ?_ ?_|refine gh ?_|exact qq|fail)
    refine xdone ?_
    refine kretr (can_rowsv [1] (tm:=[(4,.mref 0)]) (rows:=[mRow kI m]) (k0_sel hk rfl) rfl (.cons rfl m_eq .nil) tmq) rfl ⟨trivial,trivial⟩ rfl ⟨rfl,?_⟩
    rw [hD,disF_nil rfl]
  | cons nx Q =>
    obtain ⟨n,rfl⟩:∃ n,k=n+1:=⟨Q.length,hQ.symm⟩
    have hQ:Q.length=n:=by simpa using hQ
    have hn0:g o=nx:=hg 0 (by omega)
    obtain ⟨hI2,hnk⟩:=hI.pop
    repeat' (first|refine gg ?_|exact trivial|with_reducible refine wA ?_ ?_|refine Y2.mk ?_ ?_|refine gh ?_|exact qq|fail)
    refine pcond rfl ?_ ?_<;>intro hc
    · repeat' (first|refine gg ?_|exact trivial|with_reducible refine wA ?_ ?_|refine Y2.mk ?_ ?_|(show o+0 < M;omega)|exact ⟨by decide,by omega⟩|exact ⟨trivial,trivial,by decide,by omega,Int.le_refl _⟩|refine gh ?_|exact qq|fail)
      refine pcan (can_rowsv [0,1,2] (tm:=[(2,.ptr 0 0 0),(5,.mref 1),(6,.lsl 2 (o+1) n),(7,vi nx),(26,sV N),(27,vi N.length),(28,vi ((0:Nat):Int))]) (rows:=[cG (sV N) (.vmap (cS L)),mRow kI m,iRow M g]) (k0_sel hk rfl) rfl (.cons rfl (cG_eq (PEq.refl _) (PEq.refl _)) (.cons rfl m_eq (.cons rfl (RowEq.cl (i_cl _ _)) .nil))) (by exact ⟨PEq.refl _,PEq.refl _,PEq.of (by show PV.lsl 2 (o+1) _=_;congr 1;omega),PEq.of (by show vi (g (o+0))=vi nx;rw [Nat.add_zero,hn0]),PEq.refl _,PEq.refl _,PEq.refl _,trivial⟩)) ?_
      refine ploop (fun q st=>∃ (i o k M:Nat) (g:Nat→Int) (s:DS),i≤N.length∧s=disIn L nx (m,Q) (N.take i)∧s.2.length=k∧o+k≤M∧(∀ a,a < k→g (o+a)=lF 0 s.2 a)∧q=N.length - i∧st=⟨[(2,.ptr 0 0 0),(5,.mref 1),(6,.lsl 2 o k),(7,vi nx),(26,sV N),(27,vi N.length),(28,vi i)],[cG (sV N) (.vmap (cS L)),mRow kI s.1,iRow M g]⟩) N.length ⟨0,o+1,n,M,g,(m,Q),Nat.zero_le _,by rw [List.take_zero];rfl,hQ,by omega,fun a ha=>by rw [show o+1+a=o+(a+1) by omega,hg (a+1) (by omega)];rfl,rfl,rfl⟩ ?_
      rintro _ _ ⟨i,o2,k,M2,g2,s,hi,hs,hk2,hM2,hg2,rfl,rfl⟩
      obtain ⟨hJ,hJn⟩:=InvD.fold (N.take i) (m,Q) hI2 hnk (fun x hx=>List.mem_of_mem_take hx)
      rw [← hs] at hJ hJn
      have hlenJ:=hJ.len
      have hlenJ2:=hJ.len2
      have hw1:IntKind.i64.wrap ((i:Int)+1)=((i+1:Nat):Int):=w64 (by omega) (by omega)
      repeat' (first|refine gg ?_|exact trivial|with_reducible refine wA ?_ ?_|refine Y2.mk ?_ ?_|refine gh ?_|exact qq|fail)
      refine pcond rfl ?_ ?_<;>intro hc2
      · have hc2:i < N.length:=by have:=of_decide_eq_true hc2;omega
        have hT:N.take (i+1)=N.take i ++ [lF 0 N i]:=by
          unfold lF
          rw [List.take_add_one,List.getD_eq_getElem?_getD,List.getElem?_eq_getElem (by omega)];rfl
        have hS:disIn L nx (m,Q) (N.take (i+1))=disStep L nx s (lF 0 N i):=by rw [hT,disIn_snoc,← hs]
        have cn:=contains_c (sget L (lF 0 N i)) nx (Nat.le_trans (sget_len (N:=N) hL _) (by decide))
        have hxN:lF 0 N i ∈ N:=by rw [lF_get' hc2];exact List.getElem_mem hc2
        repeat' (first|refine gg ?_|exact trivial|with_reducible refine wA ?_ ?_|refine Y2.mk ?_ ?_|refine gh ?_|exact qq|fail)
        refine pop_look mapIId true (lF 0 N i) rfl rfl rfl rfl rfl rfl rfl ?_
        cases hm:mget s.1 (lF 0 N i) with
        | some d =>
          have hS2:disStep L nx s (lF 0 N i)=s:=by unfold disStep;rw [hm];rfl
          repeat' (first|refine gg ?_|exact trivial|with_reducible refine wA ?_ ?_|refine Y2.mk ?_ ?_|(refine pop_gfalse rfl rfl rfl rfl ?_)|exact (fun hh=>by cases hh)|refine gh ?_|exact qq|fail)
          rw [hw1]
          exact kloop_next (st':=⟨[(2,.ptr 0 0 0),(5,.mref 1),(6,.lsl 2 o2 k),(7,vi nx),(26,sV N),(27,vi N.length),(28,vi ((i+1:Nat):Int))],[cG (sV N) (.vmap (cS L)),mRow kI s.1,iRow M2 g2]⟩) (N.length - (i+1)) (can_rowsv [0,1,2] (k0_sel hk rfl) rfl (.cons rfl (cG_eq (PEq.refl _) (PEq.refl _)) (.cons rfl m_eq (.cons rfl (RowEq.cl (i_cl _ _)) .nil))) tmq) (by omega) ⟨i+1,o2,k,M2,g2,s,by omega,by rw [hS,hS2],hk2,hM2,hg2,rfl,rfl⟩
        | none =>
          by_cases hx:nx ∈ sget L (lF 0 N i)
          · rw [decide_eq_true hx] at cn
            obtain ⟨d,hd⟩:=mget_is hJn
            have hdv:=hJ.val _ (mget_some hd)
            have hd1:0≤d:=hdv.1
            have hd2:d≤s.1.length:=hdv.2
            have hw2:IntKind.i64.wrap (d+1)=d+1:=w64 (by omega) (by omega)
            have hS2:disStep L nx s (lF 0 N i)=(s.1 ++ [(lF 0 N i,d+1)],s.2 ++ [lF 0 N i]):=by unfold disStep;rw [hm,hd,if_pos ⟨rfl,hx⟩];rfl
            have hkey:∀ e,e ∈ s.1→e.1≠lF 0 N i:=fun e he h2=>mget_no hm (List.mem_map.2 ⟨e,he,h2⟩)
            repeat' (first|refine gg ?_|exact trivial|with_reducible refine wA ?_ ?_|refine Y2.mk ?_ ?_|refine gh ?_|exact qq|fail)
            refine pop_opt 42 rfl rfl ?_
            refine pop_opt 43 rfl rfl ?_
            refine pop_unguard rfl rfl ?_
            refine pop_lookvS mapIS (lF 0 N i) rfl rfl rfl rfl rfl rfl ?_
            repeat' (first|refine gg ?_|exact trivial|with_reducible refine wA ?_ ?_|refine Y2.mk ?_ ?_|(refine pop_unguard rfl rfl ?_)|refine gh ?_|exact qq|fail)
            refine pop_opt 45 rfl rfl ?_
            repeat' (first|refine gg ?_|exact trivial|with_reducible refine wA ?_ ?_|refine Y2.mk ?_ ?_|refine zz cn ?_|refine gh ?_|exact qq|fail)
            refine pop_look mapIId false nx rfl rfl rfl rfl rfl rfl rfl ?_
            rw [hd,show (some d:Option Int).getD 0=d from rfl]
            repeat' (first|refine gg ?_|exact trivial|with_reducible refine wA ?_ ?_|refine Y2.mk ?_ ?_|refine gh ?_|exact qq|fail)
            rw [hw2]
            refine pop_mset mapIId (lF 0 N i) (d+1) rfl rfl rfl rfl rfl rfl rfl (by rw [hk];exact Nat.zero_le _) rfl rfl ?_
            rw [mset_none hkey]
            have hkb:k≤1000000:=by omega
            repeat' (first|refine gg ?_|exact trivial|with_reducible refine wA ?_ ?_|refine Y2.mk ?_ ?_|exact ⟨Nat.le_refl _,(by rw [hk];exact Nat.le_of_ble_eq_true rfl),hM2,(show (_:Nat) * 8≤140737488355328 from by omega),(show (_:Nat)≤9223372036854775807 from by omega)⟩|refine gh ?_|exact qq|fail)
            rw [hw1]
            exact kloop_next (st':=⟨[(2,.ptr 0 0 0),(5,.mref 1),(6,.lsl 2 0 (k+1)),(7,vi nx),(26,sV N),(27,vi N.length),(28,vi ((i+1:Nat):Int))],[cG (sV N) (.vmap (cS L)),mRow kI (s.1 ++ [(lF 0 N i,d+1)]),iRow (k+1) (lF 0 (s.2 ++ [lF 0 N i]))]⟩) (N.length - (i+1)) (can_rowsv [0,1,4] (k0_sel hk rfl) rfl (.cons rfl (cG_eq (PEq.refl _) (PEq.refl _)) (.cons rfl m_eq (.cons rfl (app_q hk2 hg2) .nil))) tmq) (by omega) ⟨i+1,0,k+1,k+1,lF 0 (s.2 ++ [lF 0 N i]),(s.1 ++ [(lF 0 N i,d+1)],s.2 ++ [lF 0 N i]),by omega,by rw [hS,hS2],by show (s.2 ++ [lF 0 N i]).length=k+1;rw [List.length_append,hk2];rfl,by omega,fun a ha=>by rw [Nat.zero_add],rfl,rfl⟩
          · rw [decide_eq_false hx] at cn
            have hS2:disStep L nx s (lF 0 N i)=s:=by unfold disStep;rw [if_neg (fun hh=>hx hh.2)]
            repeat' (first|refine gg ?_|exact trivial|with_reducible refine wA ?_ ?_|refine Y2.mk ?_ ?_|refine gh ?_|exact qq|fail)
            refine pop_opt 42 rfl rfl ?_
            refine pop_opt 43 rfl rfl ?_
            refine pop_unguard rfl rfl ?_
            refine pop_lookvS mapIS (lF 0 N i) rfl rfl rfl rfl rfl rfl ?_
            repeat' (first|refine gg ?_|exact trivial|with_reducible refine wA ?_ ?_|refine Y2.mk ?_ ?_|(refine pop_unguard rfl rfl ?_)|refine gh ?_|exact qq|fail)
            refine pop_opt 45 rfl rfl ?_
            repeat' (first|refine gg ?_|exact trivial|with_reducible refine wA ?_ ?_|refine Y2.mk ?_ ?_|refine zz cn ?_|refine gh ?_|exact qq|fail)
            rw [hw1]
            exact kloop_next (st':=⟨[(2,.ptr 0 0 0),(5,.mref 1),(6,.lsl 2 o2 k),(7,vi nx),(26,sV N),(27,vi N.length),(28,vi ((i+1:Nat):Int))],[cG (sV N) (.vmap (cS L)),mRow kI s.1,iRow M2 g2]⟩) (N.length - (i+1)) (can_rowsv [0,1,2] (k0_sel hk rfl) rfl (.cons rfl (cG_eq (PEq.refl _) (PEq.refl _)) (.cons rfl m_eq (.cons rfl (RowEq.cl (i_cl _ _)) .nil))) tmq) (by omega) ⟨i+1,o2,k,M2,g2,s,by omega,by rw [hS,hS2],hk2,hM2,hg2,rfl,rfl⟩
      · have hil:i=N.length:=by have:=of_decide_eq_false hc2;omega
        subst hil
        rw [List.take_length] at hs
        repeat' (first|refine gg ?_|exact trivial|with_reducible refine wA ?_ ?_|refine Y2.mk ?_ ?_|refine gh ?_|exact qq|fail)
        exact kloop_next (st':=⟨[(2,.ptr 0 0 0),(5,.mref 1),(6,.lsl 2 o2 k)],[cG (sV N) (.vmap (cS L)),mRow kI s.1,iRow M2 g2]⟩) (N.length+2 - (p+1)) (can_rowsv [0,1,2] (k0_sel hk rfl) rfl (.cons rfl (cG_eq (PEq.refl _) (PEq.refl _)) (.cons rfl m_eq (.cons rfl (RowEq.cl (i_cl _ _)) .nil))) tmq) (by have:m.length=p+(Q.length+1):=hlen2;have:m.length≤N.length+1:=hlen;omega) ⟨p+1,o2,M2,k,g2,s.1,s.2,hk2,hJ,by
          rw [hD,show N.length+2 - p=N.length+2 - (p+1)+1 by (have:m.length=p+(Q.length+1):=hlen2;have:m.length≤N.length+1:=hlen;omega),disF_cons,← hs],hM2,hg2,rfl,rfl⟩
    · have:=of_decide_eq_false hc;omega
end Go.Proofs.YtcefhgomkehokaaGreat
