/- payrollgen: expressions of type money. -/
import Derived.Test.YtcefhgomkehokaaGreatA16
set_option linter.unusedSimpArgs false
set_option linter.unusedVariables false
set_option maxRecDepth 100000
namespace Go.Proofs.YtcefhgomkehokaaGreat
set_option maxHeartbeats 8000000 in
theorem expr_money_t (k:Nat) (hk5:k≤100) (ih:XT (k+1)) (rules:Int):TapC G.P 23 [vT tM,vi ((k+1+1:Nat):Int),vi rules] (fun r=>∃ e,r=vX e∧EOk rules (k+1+1) tM e):=by
  have hw:IntKind.i64.wrap (((k+1+1:Nat):Int) - 1)=((k+1:Nat):Int):=by rw [w64 (by omega) (by omega)];omega
  have hd:decide (((k+1+1:Nat):Int)≤1)=false:=decide_eq_false (by omega)
  have iH:∀ t,t ∈ tys5→TapC G.P 23 [vT t,vi (IntKind.i64.wrap (((k+1+1:Nat):Int) - 1)),vi rules] (fun r=>∃ e,r=vX e∧EOk rules (k+1) t e):=fun t ht=>by
    rw [hw];have:=ih t ht rules;rwa [show max (k+1) 1=k+1 by omega] at this
  have i1:=iH tM (by simp [tys5])
  have i2:=iH t0 (by simp [tys5])
  have i3:=iH tM (by simp [tys5])
  have i4:=iH tH (by simp [tys5])
  have i5:=iH tR (by simp [tys5])
  have i6:=iH tB (by simp [tys5])
  have lf:=leaf_money_t rules
  have okr:=@ok_round rules (k+1) tM
  exact exq
end Go.Proofs.YtcefhgomkehokaaGreat
