/- payrollgen: expressions of type truth. -/
import Derived.Test.YtcefhgomkehokaaGreatA16
set_option linter.unusedSimpArgs false
set_option linter.unusedVariables false
set_option maxRecDepth 100000
namespace Go.Proofs.YtcefhgomkehokaaGreat
set_option maxHeartbeats 8000000 in
theorem expr_truth_t (k:Nat) (hk5:k≤100) (ih:XT (k+1)) (rules:Int):TapC G.P 23 [vT tB,vi ((k+1+1:Nat):Int),vi rules] (fun r=>∃ e,r=vX e∧EOk rules (k+1+1) tB e):=by
  have hw:IntKind.i64.wrap (((k+1+1:Nat):Int) - 1)=((k+1:Nat):Int):=by rw [w64 (by omega) (by omega)];omega
  have hd:decide (((k+1+1:Nat):Int)≤1)=false:=decide_eq_false (by omega)
  have iH:∀ t,t ∈ tys5→TapC G.P 23 [vT t,vi (IntKind.i64.wrap (((k+1+1:Nat):Int) - 1)),vi rules] (fun r=>∃ e,r=vX e∧EOk rules (k+1) t e):=fun t ht=>by
    rw [hw];have:=ih t ht rules;rwa [show max (k+1) 1=k+1 by omega] at this
  have i1:=iH tB (by simp [tys5])
  have i2:=iH t0 (by simp [tys5])
  have i3:=iH tM (by simp [tys5])
  have i4:=iH tH (by simp [tys5])
  have i5:=iH tR (by simp [tys5])
  have i6:=iH tB (by simp [tys5])
  have lf:=leaf_truth_t rules
  intro n g at_ hn h1 h2
  refine ptr_of (G:=G.toPg) (fn:=Tryz.f23) Tryz.func23 rfl rfl rfl ?_;intro Γ hk
  repeat' (first|refine gg ?_|exact trivial|with_reducible refine wA ?_ ?_|refine Y2.mk ?_ ?_|refine gh ?_|exact qq|fail)
  rw [hd]
  repeat' (first|refine gg ?_|exact trivial|with_reducible refine wA ?_ ?_|refine Y2.mk ?_ ?_|(refine pop_opt 14 rfl rfl ?_)|(refine pop_unguard rfl rfl ?_)|(refine tn1 hn ?_;rintro at_ b1 b2 x hx1 hx2)|(refine t1 lf hn ?_;rintro at_ _ b1 b2 ⟨e,rfl,he⟩)|(refine t2 lf hn ?_;rintro at_ _ b1 b2 ⟨e,rfl,he⟩)|(refine t3 lf hn ?_;rintro at_ _ b1 b2 ⟨e,rfl,he⟩)|refine zz number_c ?_|refine zz money_c ?_|refine zz hours_c ?_|refine zz rate_c ?_|refine gh ?_|(refine pcond rfl ?_ ?_<;>intro hc)|exact qq|fail)
  · refine xdone ?_
    exact ktap rfl b1 b2 rfl ⟨Nat.zero_lt_one,trivial⟩ rfl ⟨e,rfl,he.mono (by omega)⟩
  · refine xo 1 rfl (by exact ⟨⟨by omega,by omega⟩,trivial⟩) ?_
    refine pop_read rfl rfl rfl (pread_aggs (q:=cT (s4 x.toNat)) rfl rfl rfl rfl rfl rfl (s4_row hx1 hx2)) (show 0+x.toNat < 4 by omega) ?_
    have hσ1:=(s4_mem x.toNat).1
    have hσ3:=s4_or x.toNat
    generalize s4 x.toNat=σ at *
    have iσ:=iH σ hσ1
    repeat' (first|refine gg ?_|exact trivial|with_reducible refine wA ?_ ?_|refine Y2.mk ?_ ?_|refine xs_start (id:=6) true [.take 0,.take 2,.take 3,.take 5,.take 6,.take 7,.take 8,.take 10,.take 11,.take 12,.take 13,.one 1,.one 4,.one 9,.one 14,.one 15,.take 16,.one 17] 0 rfl rfl (by kernel_rfl) ?_|refine xs_start (id:=11) true [.take 0,.take 3,.take 4,.take 5,.take 6,.take 8,.take 9,.take 10,.take 11,.one 1,.one 2,.one 7,.one 12,.one 13,.one 14] 0 rfl rfl (by kernel_rfl) ?_|refine xs_start (id:=13) true [.take 0,.take 1,.take 2,.take 3,.take 5,.take 6,.take 7,.take 8,.one 4,.one 9,.one 10,.one 11] 0 rfl rfl (by kernel_rfl) ?_|refine xs_start (id:=15) true [.take 0,.take 1,.take 2,.take 3,.take 5,.take 6,.take 7,.take 8,.one 4,.one 9,.one 10,.one 11] 0 rfl rfl (by kernel_rfl) ?_|refine xs_start (id:=18) true [.take 0,.take 1,.take 2,.take 3,.take 5,.take 6,.take 7,.take 8,.one 4,.one 9,.one 10,.one 11] 0 rfl rfl (by kernel_rfl) ?_|refine xs_start (id:=22) true [.take 0,.take 3,.take 4,.take 5,.take 6,.take 8,.take 9,.take 10,.take 11,.one 1,.one 2,.one 7,.one 12,.one 13,.one 14] 0 rfl rfl (by kernel_rfl) ?_|refine xs_start (id:=24) true [.take 0,.take 3,.take 4,.take 5,.take 6,.take 8,.take 9,.take 10,.take 11,.one 1,.one 2,.one 7,.one 12,.one 13,.one 14] 0 rfl rfl (by kernel_rfl) ?_|refine xs_start (id:=30) true [.take 0,.take 3,.take 4,.take 5,.take 6,.take 8,.take 10,.take 11,.one 1,.one 2,.one 7,.one 9,.one 12,.one 13,.one 14] 0 rfl rfl (by kernel_rfl) ?_|refine xs_start (id:=41) true [.take 0,.take 1,.take 2,.take 3,.take 5,.take 6,.take 7,.take 8,.one 4,.one 9,.one 10,.one 11] 0 rfl rfl (by kernel_rfl) ?_|(refine tn1 hn ?_;rintro at_ b1 b2 x hx1 hx2)|(refine t1 i1 hn ?_;rintro at_ _ b1 b2 ⟨e,rfl,he⟩)|(refine t2 i1 hn ?_;rintro at_ _ b1 b2 ⟨e,rfl,he⟩)|(refine t3 i1 hn ?_;rintro at_ _ b1 b2 ⟨e,rfl,he⟩)|(refine t1 iσ hn ?_;rintro at_ _ b1 b2 ⟨e,rfl,he⟩)|(refine t2 iσ hn ?_;rintro at_ _ b1 b2 ⟨e,rfl,he⟩)|(refine t3 iσ hn ?_;rintro at_ _ b1 b2 ⟨e,rfl,he⟩)|(refine pop_callc [] rfl rfl rfl rfl rfl rfl (fun _ h=>by cases h) (two_c _ _ _) (args_cl _ rfl) ?_;rintro _ rfl)|(refine xs_one (ch:=[]) rfl rfl rfl (pst_rowsc [] rfl rfl rfl rfl rfl rfl .nil (pure_rows (two_c _ _ _)) (by exact ⟨PEq.cl _ (clB_spec _ rfl),PEq.cl _ (clB_spec _ rfl),PEq.cl _ (clB_spec _ rfl),trivial⟩) ?_);rintro r rows ⟨rfl,rfl⟩;refine ⟨_,_,rfl,trivial,rfl,?_⟩)|(refine xs_one (ch:=[_]) rfl rfl rfl (pst_tapl (G:=G) rfl rfl rfl rfl rfl rfl rfl rfl rfl rfl rfl (by omega) rfl (fun _=>rfl) rfl (pick_t _ _ rfl (by decide) (by decide)) hn (by assumption) (by assumption) ?_);rintro at_ _ b1 b2 ⟨x,rfl,hx⟩;simp only [unL,List.mem_cons,List.not_mem_nil,or_false] at hx)|refine zz truth_c ?_|refine zz number_c ?_|refine zz money_c ?_|refine zz hours_c ?_|refine zz rate_c ?_|refine gh ?_|(refine pcond rfl ?_ ?_<;>intro hc)|exact qq|fail)
    all_goals first
      | (refine xdone ?_;refine ktapL [5] (qs:=[vX (.mk _ _ _ _ _ _ _ _ _ 3 (k3 _ _ _))]) rfl b1 b2 (by simp) rfl ⟨Nat.zero_lt_one,trivial⟩ ⟨argEx (argK3 rfl (List.Mem.head _)),trivial⟩ ⟨_,rfl,?_⟩;exact ok_if (by assumption) (by assumption) (by assumption))
      | (refine xdone ?_;refine ktapL [5] (qs:=[vX (.mk _ _ _ _ _ _ _ _ _ 1 (k1 _))]) rfl b1 b2 (by simp) rfl ⟨Nat.zero_lt_one,trivial⟩ ⟨argEx (argK1 rfl (List.Mem.head _)),trivial⟩ ⟨_,rfl,?_⟩;first|exact ok_one (.inl rfl) (by assumption) (fun _ _ _=>rfl)|exact ok_one (.inr rfl) (by assumption) (fun _ _ _=>rfl)|exact ok_scale (by decide +kernel) (by decide) (by assumption) (fun N S P hE=>hE.s) (.inr rfl)|exact ok_scale (by decide +kernel) (by decide) (by assumption) (fun N S P hE=>hE.w) (.inl rfl))
      | (refine xdone ?_;refine ktap rfl b1 b2 rfl ⟨Nat.zero_lt_one,trivial⟩ rfl ⟨eOp _ 2 (k2 _ _),rfl,?_⟩;first|exact ok_two (by decide) (by assumption) (by assumption) (fun _ _ _=>rfl)|(rcases hx with rfl|rfl<;>exact ok_two (by decide) (by assumption) (by assumption) (fun _ _ _=>rfl))|(rcases hσ3 with rfl|rfl|rfl|rfl<;>exact ok_two (by decide) (by assumption) (by assumption) (fun _ _ _=>rfl))|(rcases hx with rfl|rfl|rfl<;>rcases hσ3 with rfl|rfl|rfl|rfl<;>exact ok_two (by decide) (by assumption) (by assumption) (fun _ _ _=>rfl)))
      | skip
end Go.Proofs.YtcefhgomkehokaaGreat
