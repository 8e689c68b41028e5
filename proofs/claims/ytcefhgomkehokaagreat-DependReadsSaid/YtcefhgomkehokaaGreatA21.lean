/- payrollgen: expressions of any height up to 5. -/
import Derived.Test.YtcefhgomkehokaaGreatA16
import Derived.Test.YtcefhgomkehokaaGreatA17
import Derived.Test.YtcefhgomkehokaaGreatA18
import Derived.Test.YtcefhgomkehokaaGreatA19
import Derived.Test.YtcefhgomkehokaaGreatA20
import Derived.Test.YtcefhgomkehokaaGreatA14
import Derived.Test.YtcefhgomkehokaaGreatA10
import Derived.Test.YtcefhgomkehokaaGreatA15
import Derived.Test.YtcefhgomkehokaaGreatA11
import Derived.Test.YtcefhgomkehokaaGreatA08
set_option linter.unusedSimpArgs false
set_option linter.unusedVariables false
set_option maxRecDepth 100000
namespace Go.Proofs.YtcefhgomkehokaaGreat
set_option maxHeartbeats 4000000 in
theorem expr_one_t:XT 1:=by
  intro t ht rules
  simp only [tys5,List.mem_cons,List.not_mem_nil,or_false] at ht
  have l1:=leaf_number_t rules
  have l2:=leaf_money_t rules
  have l3:=leaf_hours_t rules
  have l4:=leaf_rate_t rules
  have l5:=leaf_truth_t rules
  intro n g at_ hn h1 h2
  rcases ht with rfl|rfl|rfl|rfl|rfl
  all_goals
    refine ptr_of (G:=G.toPg) (fn:=Tryz.f23) Tryz.func23 rfl rfl rfl ?_;intro Γ hk
    repeat' (first|refine gg ?_|exact trivial|with_reducible refine wA ?_ ?_|refine Y2.mk ?_ ?_|refine gh ?_|exact qq|fail)
    rw [show decide (((1:Nat):Int)≤1)=true from rfl]
    repeat' (first|refine gg ?_|exact trivial|with_reducible refine wA ?_ ?_|refine Y2.mk ?_ ?_|(refine pop_gfalse rfl rfl rfl rfl ?_)|(refine t1 l1 hn ?_;rintro at_ _ b1 b2 ⟨e,rfl,he⟩)|(refine t2 l1 hn ?_;rintro at_ _ b1 b2 ⟨e,rfl,he⟩)|(refine t3 l1 hn ?_;rintro at_ _ b1 b2 ⟨e,rfl,he⟩)|(refine t1 l2 hn ?_;rintro at_ _ b1 b2 ⟨e,rfl,he⟩)|(refine t2 l2 hn ?_;rintro at_ _ b1 b2 ⟨e,rfl,he⟩)|(refine t3 l2 hn ?_;rintro at_ _ b1 b2 ⟨e,rfl,he⟩)|(refine t1 l3 hn ?_;rintro at_ _ b1 b2 ⟨e,rfl,he⟩)|(refine t2 l3 hn ?_;rintro at_ _ b1 b2 ⟨e,rfl,he⟩)|(refine t3 l3 hn ?_;rintro at_ _ b1 b2 ⟨e,rfl,he⟩)|(refine t1 l4 hn ?_;rintro at_ _ b1 b2 ⟨e,rfl,he⟩)|(refine t2 l4 hn ?_;rintro at_ _ b1 b2 ⟨e,rfl,he⟩)|(refine t3 l4 hn ?_;rintro at_ _ b1 b2 ⟨e,rfl,he⟩)|(refine t1 l5 hn ?_;rintro at_ _ b1 b2 ⟨e,rfl,he⟩)|(refine t2 l5 hn ?_;rintro at_ _ b1 b2 ⟨e,rfl,he⟩)|(refine t3 l5 hn ?_;rintro at_ _ b1 b2 ⟨e,rfl,he⟩)|refine gh ?_|exact qq|fail)
    refine xdone ?_
    exact ktap rfl b1 b2 rfl ⟨Nat.zero_lt_one,trivial⟩ rfl ⟨e,rfl,he⟩
theorem expr_up (k:Nat) (hk5:k≤100) (ih:XT (k+1)):XT (k+2):=by
  intro t ht rules
  simp only [tys5,List.mem_cons,List.not_mem_nil,or_false] at ht
  rcases ht with rfl|rfl|rfl|rfl|rfl
  · exact expr_number_t k hk5 ih rules
  · exact expr_money_t k hk5 ih rules
  · exact expr_hours_t k hk5 ih rules
  · exact expr_rate_t k hk5 ih rules
  · exact expr_truth_t k hk5 ih rules
theorem expr_t:∀ k,k≤5→XT (k+1)
  | 0,_=>expr_one_t
  | k+1,hk=>expr_up k (by omega) (expr_t k (by omega))
end Go.Proofs.YtcefhgomkehokaaGreat
namespace Go.Proofs.YtcefhgomkehokaaGreat
abbrev dK:ByteArray×Int:=(⟨#[]⟩,0)
structure AB (wild:Bool) (hh n:Nat) (l:List Df):Prop where
  sub:(l.map keyD).Sublist (KS.take n)
  gd:∀ d,d ∈ l→GD wild hh d
  has:∀ x,x ∈ KS.take (min n 17)→x.1 ∈ l.map Df.nm
theorem AB.skip {wild:Bool} {hh n:Nat} {l:List Df} (h:AB wild hh n l) (hn:n < 18) (hs:(lF dK KS n).1 ∈ (KS.take (min n 17)).map Prod.fst∨n=17):AB wild hh (n+1) l:=by
  refine ⟨h.sub.trans (List.take_sublist_take_left (by omega)),h.gd,fun x hx=>?_⟩
  by_cases h17:n=17
  · subst h17;exact h.has x hx
  · have hn17:n < 17:=by omega
    rw [show min (n+1) 17=n+1 by omega,take_snoc (d:=dK) (by show n < 18;omega)] at hx
    rcases List.mem_append.1 hx with hx|hx
    · exact h.has x (by rw [show min n 17=n by omega];exact hx)
    · have:x=lF dK KS n:=by simpa using hx
      subst this
      obtain ⟨y,hy,he⟩:=List.mem_map.1 (hs.resolve_right h17)
      rw [← he];exact h.has y hy
theorem AB.snoc {wild:Bool} {hh n:Nat} {l:List Df} (h:AB wild hh n l) (hn:n < 18) {d:Df} (hk:keyD d=lF dK KS n) (hd:GD wild hh d):AB wild hh (n+1) (l ++ [d]):=by
  refine ⟨?_,fun x hx=>?_,fun x hx=>?_⟩
  · rw [take_snoc (d:=dK) (by show n < 18;omega),List.map_append,List.map_cons,List.map_nil,hk]
    exact h.sub.append (List.Sublist.refl _)
  · rcases List.mem_append.1 hx with hx|hx
    · exact h.gd x hx
    · obtain rfl:x=d:=by simpa using hx
      exact hd
  · rw [List.map_append,List.mem_append]
    by_cases h17:n=17
    · subst h17;exact .inl (h.has x hx)
    · rw [show min (n+1) 17=n+1 by omega,take_snoc (d:=dK) (by show n < 18;omega)] at hx
      rcases List.mem_append.1 hx with hx|hx
      · exact .inl (h.has x (by rw [show min n 17=n by omega];exact hx))
      · have:x=lF dK KS n:=by simpa using hx
        subst this
        refine .inr ?_
        rw [← hk];simp [keyD]
theorem KS_nodup:(KS.map fun x=>(x.1.toList,x.2)).Nodup:=by decide +kernel
theorem neds_KS:∀ n,n ∈ neds→n ∈ (KS.take 17).map Prod.fst:=by
  intro n hn
  unfold neds at hn
  simp only [List.mem_cons,List.not_mem_nil,or_false] at hn
  rcases hn with rfl|rfl|rfl|rfl|rfl|rfl|rfl|rfl|rfl|rfl|rfl|rfl<;>(unfold KS;simp only [List.take_succ_cons,List.take_zero,List.map_cons,List.map_nil];repeat' (first|exact List.Mem.head _|refine List.Mem.tail _ ?_))
theorem AB.good {wild:Bool} {hh:Nat} {l:List Df} (h:AB wild hh 18 l):AGood wild hh l:=by
  refine ⟨h.gd,?_,fun n hn=>?_,?_,fun d hd=>h.sub.subset (List.mem_map_of_mem hd)⟩
  · have e:(l.map fun d=>(d.nm.toList,d.day))=(l.map keyD).map (fun x=>(x.1.toList,x.2)):=by rw [List.map_map];rfl
    rw [e]
    exact (h.sub.map _).nodup KS_nodup
  · obtain ⟨x,hx,he⟩:=List.mem_map.1 (neds_KS n hn)
    rw [← he];exact h.has x hx
  · have:=h.sub.length_le
    simp [KS] at this
    omega
abbrev dI (k:Int) (nm:ByteArray) (t:Ty):Df:=⟨k,nm,t,0,0,fun _=>(0,0,0),.nil,0,0,0⟩
theorem zero_nil:zeroX .nil=true:=by decide +kernel
theorem gd_in {wild:Bool} {hh:Nat} {k:Int} {nm:ByteArray} {t:Ty} (ht:(nm,k,t) ∈ tabL) (hk:k=1∨k=5) (hs:nm.size≤100) (h1:typS t=true) (h2:k=5→t.b=false):GD wild hh (dI k nm t):=by
  have n3 : ¬ k=3:=by omega
  have n4 : ¬ k=4:=by omega
  refine ⟨ht,?_,⟨Nat.le_trans hs (by decide),fun i hi=>absurd hi (Nat.not_lt_zero i),Nat.zero_le _,.nil,?_⟩,fun h=>?_,fun h=>absurd h n3⟩
  · rcases hk with rfl|rfl
    · simp [defS,h1,zero_nil]
    · simp [defS,h1,zero_nil,h2 rfl]
  · exact ⟨by show (-9223372036854775808:Int)≤0;decide,by show (0:Int)≤9223372036854775807;decide⟩
  · rcases h with h|h
    · exact absurd h n3
    · exact absurd h n4
theorem gd_sc {wild:Bool} {hh:Nat} {nm:ByteArray} {t:Ty} {day:Int} {d:Df} (h:ScOk nm t day d) (ht:(nm,(2:Int),t) ∈ tabL) (hs:nm.size≤100) (h1:typS t=true) (h2:t.b=false) (h3:dayS day=true):GD wild hh d:=by
  obtain ⟨kind,nm',ty,day',ne,ef,body,mode,sn,sd⟩:=d
  obtain ⟨e,hen,hef,hne⟩:=h
  simp only [Df.mk.injEq] at e hen hef hne
  obtain ⟨rfl,rfl,rfl,rfl,-,-,rfl,rfl,rfl,rfl⟩:=e
  refine ⟨ht,?_,⟨Nat.le_trans hs (by decide),hef,Nat.le_trans hne (by decide),.nil,?_⟩,fun h=>?_,fun h=>?_⟩
  · simp [defS,h1,h2,h3,hen,zero_nil]
  · exact ⟨by show (-9223372036854775808:Int)≤0;decide,by show (0:Int)≤9223372036854775807;decide⟩
  · have h:(2:Int)=3∨(2:Int)=4:=h
    rcases h with h|h<;>exact absurd h (by decide)
  · have h:(2:Int)=3:=h
    exact absurd h (by decide)
abbrev dR (nm:ByteArray) (t:Ty) (day:Int) (e:Ex):Df:=⟨3,nm,t,day,0,fun _=>(0,0,0),e,0,0,0⟩
theorem gd_rule {wild:Bool} {hh:Nat} {nm:ByteArray} {t:Ty} {day:Int} {e:Ex} {ρ:Int} (he:EOk ρ hh t e) (hρ:ρ≤rhoD wild nm) (h32:hh≤32) (ht:(nm,(3:Int),t) ∈ tabL) (hs:nm.size≤100) (h1:typS t=true) (h3:day=20454∨day=20459):GD wild hh (dR nm t day e):=by
  refine ⟨ht,?_,⟨Nat.le_trans hs (by decide),fun i hi=>absurd hi (Nat.not_lt_zero i),Nat.zero_le _,he.bd,?_⟩,fun h=>?_,fun h=>h3⟩
  · have hd:dayS day=true:=by rcases h3 with rfl|rfl<;>decide
    simp [defS,h1,hd,he.vl 32 h32]
  · exact ⟨by show (-9223372036854775808:Int)≤0;decide,by show (0:Int)≤9223372036854775807;decide⟩
  · show EOk (rhoD wild nm) hh (if (3:Int)=4 then tM else t) e
    rw [if_neg (by decide)];exact he.up hρ
abbrev dP (nm:ByteArray) (e:Ex) (mode:Int) (x:Int×Int):Df:=⟨4,nm,t0,20454,0,fun _=>(0,0,0),e,mode,x.1,x.2⟩
def stepL:List (Int×Int):=[(1,100),(1,20),(1,1)]
theorem gd_pay {wild:Bool} {hh:Nat} {nm:ByteArray} {e:Ex} {mode:Int} {x:Int×Int} {ρ:Int} (he:EOk ρ hh tM e) (hρ:ρ≤rhoD wild nm) (h32:hh≤32) (ht:(nm,(4:Int),t0) ∈ tabL) (hs:nm.size≤100) (hm:0≤mode∧mode≤6) (hx:x ∈ stepL):GD wild hh (dP nm e mode x):=by
  have key:∀ x ∈ stepL,-9223372036854775808≤x.1∧x.1≤9223372036854775807∧stepS x.1 x.2=true:=by decide +kernel
  obtain ⟨k1,k2,k3⟩:=key x hx
  have hd:dayS 20454=true:=by decide
  have hmo:modeB mode=true:=by simp [modeB];omega
  refine ⟨ht,?_,⟨Nat.le_trans hs (by decide),fun i hi=>absurd hi (Nat.not_lt_zero i),Nat.zero_le _,he.bd,k1,k2⟩,fun h=>he.up hρ,fun h=>?_⟩
  · simp [defS,tz,hd,hmo,k3,he.vl 32 h32]
  · have h:(4:Int)=3:=h
    exact absurd h (by decide)
def ins5:List Df:=[dI 1 n_h tH,dI 1 n_g t0,dI 1 n_f tB,dI 5 n_gross tM,dI 5 n_time tH]
theorem ab_nil (wild:Bool) (hh:Nat):AB wild hh 0 []:=⟨List.Sublist.refl _,fun d hd=>absurd hd (List.not_mem_nil),fun x hx=>absurd hx (by simp)⟩
theorem ab5 (wild:Bool) (hh:Nat):AB wild hh 5 ins5:=by
  have h1:=(ab_nil wild hh).snoc (by omega) (d:=dI 1 n_h tH) rfl (gd_in mm (.inl rfl) (by decide) (by decide) (fun h=>by cases h))
  have h2:=h1.snoc (by omega) (d:=dI 1 n_g t0) rfl (gd_in mm (.inl rfl) (by decide) (by decide) (fun h=>by cases h))
  have h3:=h2.snoc (by omega) (d:=dI 1 n_f tB) rfl (gd_in mm (.inl rfl) (by decide) (by decide) (fun h=>by cases h))
  have h4:=h3.snoc (by omega) (d:=dI 5 n_gross tM) rfl (gd_in mm (.inr rfl) (by decide) (by decide) (fun h=>rfl))
  exact h4.snoc (by omega) (d:=dI 5 n_time tH) rfl (gd_in mm (.inr rfl) (by decide) (by decide) (fun h=>rfl))
def nmsR:List ByteArray:=[n_r1,n_r2,n_r3,n_r4]
def tysR:List Ty:=[tR,tM,tB,t0]
theorem ks_rule {i v:Nat} (hi:i < 4) (hv:v < 2):lF dK KS (8+2 * i+v)=(lF ⟨#[]⟩ nmsR i,20454+5 * (v:Int)):=by
  rcases (by omega:i=0∨i=1∨i=2∨i=3) with rfl|rfl|rfl|rfl<;>rcases (by omega:v=0∨v=1) with rfl|rfl<;>rfl
theorem rule_tab {i:Nat} (hi:i < 4):(lF ⟨#[]⟩ nmsR i,(3:Int),lF t0 tysR i) ∈ tabL∧(lF ⟨#[]⟩ nmsR i).size≤100∧typS (lF t0 tysR i)=true:=by
  rcases (by omega:i=0∨i=1∨i=2∨i=3) with rfl|rfl|rfl|rfl
  · exact ⟨show (n_r1,(3:Int),tR) ∈ tabL from mm,by decide,by decide⟩
  · exact ⟨show (n_r2,(3:Int),tM) ∈ tabL from mm,by decide,by decide⟩
  · exact ⟨show (n_r3,(3:Int),tB) ∈ tabL from mm,by decide,by decide⟩
  · exact ⟨show (n_r4,(3:Int),t0) ∈ tabL from mm,by decide,by decide⟩
theorem ks_skip {i:Nat} (hi:i < 4):(lF dK KS (8+2 * i+1)).1 ∈ (KS.take (min (8+2 * i+1) 17)).map Prod.fst:=by
  refine List.mem_map.2 ⟨lF dK KS (8+2 * i),?_,?_⟩
  · rw [show min (8+2 * i+1) 17=8+2 * i+1 by omega,take_snoc (d:=dK) (by show 8+2 * i < 18;omega)]
    exact List.mem_append_right _ (List.mem_singleton.2 rfl)
  · rcases (by omega:i=0∨i=1∨i=2∨i=3) with rfl|rfl|rfl|rfl<;>rfl
theorem ks_w:(lF dK KS 7).1 ∈ (KS.take (min 7 17)).map Prod.fst:=by
  refine List.mem_map.2 ⟨lF dK KS 5,?_,rfl⟩
  show lF dK KS 5 ∈ KS.take 7
  rw [take_snoc (d:=dK) (by decide:6 < 18),take_snoc (d:=dK) (by decide:5 < 18)]
  simp
def nmsP:List ByteArray:=[n_a,n_b]
abbrev n_metal:ByteArray:=⟨#[109,101,116,97,108]⟩
theorem o_eqP {α:Type} {c:α→List PV} {τ:Nat→Option Nat} {sz n n' : Nat} {f:Nat→Nat→PV} {g:Nat→α} (hn:n'≤n) (h:∀ a,a < n'→∀ b,b < sz→PEq ((f a b).ren τ) (nthP (c (g a)) b)):RowEq (Row.ren τ ⟨.own,false,n,sz,f⟩) (oRow c sz n' g):=⟨rfl,rfl,hn,fun i hi j hj=>h i hi j hj⟩
theorem o_eq2 {α:Type} {c:α→List PV} (hc:CellsCl c) {τ:Nat→Option Nat} {sz n n' : Nat} {f:Nat→Nat→PV} {g:Nat→α} (hn:n'≤n) (h:∀ a,a < n'→∀ b,b < sz→f a b=nthP (c (g a)) b∨PEq ((f a b).ren τ) (nthP (c (g a)) b)):RowEq (Row.ren τ ⟨.own,false,n,sz,f⟩) (oRow c sz n' g):=o_eqP hn fun a ha b hb=>by
  rcases h a ha b hb with h|h
  · rw [h];exact PEq.cl _ (clL_nth _ b (hc (g a)))
  · exact h
theorem app_p {α:Type} {c:α→List PV} (hc:CellsCl c) {τ:Nat→Option Nat} {sz m M:Nat} {d:α} {l:List α} {y:α} {L:List PV} (hl:l.length=m) (hL:∀ b,b < sz→PEq ((nthP L b).ren τ) (nthP (c y) b)) (hM:M=m+1):RowEq (Row.ren τ ⟨.own,false,M,sz,appF m (fun x=>tF c (lF d l) (0+x)) (fun x b=>nthP L ((0+x) * sz+b))⟩) (vRow c sz (m+1) (lF d (l ++ [y]))):=by
  subst hM hl
  refine o_eq2 hc (Nat.le_refl _) fun a ha b hb=>?_
  by_cases e:a < l.length
  · rw [appF_lt _ _ e,Nat.zero_add,lF_lt e];exact .inl rfl
  · obtain rfl:a=l.length:=by omega
    rw [appF_ge _ _ (Nat.le_refl _),Nat.sub_self,Nat.zero_add,Nat.zero_mul,Nat.zero_add,lF_at]
    exact .inr (hL b hb)
theorem app_2 {α:Type} {c:α→List PV} (hc:CellsCl c) {τ:Nat→Option Nat} {sz m M:Nat} {d:α} {l:List α} {y z:α} {L:List PV} (hl:l.length=m) (hs:∀ x:α,(c x).length=sz) (hL:L=c y ++ c z) (hM:M=m+2):RowEq (Row.ren τ ⟨.own,false,M,sz,appF m (fun x=>tF c (lF d l) (0+x)) (fun x b=>nthP L ((0+x) * sz+b))⟩) (vRow c sz (m+1+1) (lF d (l ++ [y,z]))):=by
  subst hM hl hL
  refine o_eq hc (Nat.le_refl _) fun a ha b hb=>?_
  by_cases e:a < l.length
  · rw [appF_lt _ _ e,Nat.zero_add,lF_lt e];rfl
  · have hn : ∀ (A B : List PV) (k : Nat), nthP (A ++ B) k = if k < A.length then nthP A k else nthP B (k - A.length) := by
      intro A
      induction A with
      | nil => intro B k; simp
      | cons x A ih =>
        intro B k
        cases k with
        | zero=>simp [nthP]
        | succ k =>
          show nthP (A ++ B) k=_
          rw [ih];simp [nthP]
    rcases (by omega:a=l.length∨a=l.length+1) with rfl|rfl
    · rw [appF_ge _ _ (Nat.le_refl _),Nat.sub_self,Nat.zero_add,Nat.zero_mul,Nat.zero_add,lF_at,hn,if_pos (by rw [hs];exact hb)]
    · rw [appF_ge _ _ (by omega),show l.length+1 - l.length=1 by omega,show (0+1) * sz+b=sz+b by omega,hn,if_neg (by rw [hs];omega),hs,show sz+b - sz=b by omega]
      have:lF d (l ++ [y,z]) (l.length+1)=z:=by
        unfold lF;rw [List.getD_eq_getElem?_getD,List.getElem?_append_right (by omega),show l.length+1 - l.length=1 by omega];rfl
      rw [this]
theorem split21 {b:Nat} (h:b < 21):b=0∨b=1∨b=2∨b=3∨b=4∨b=5∨b=6∨b=7∨b=8∨b=9∨b=10∨b=11∨b=12∨b=13∨b=14∨b=15∨b=16∨b=17∨b=18∨b=19∨b=20:=by omega
abbrev tysA:List Ty:=[t0,tM,tH,tR,tB]
theorem rule_ty {i:Nat} (hi:i < 4):lF t0 tysR i ∈ tysA:=by
  rcases (by omega:i=0∨i=1∨i=2∨i=3) with rfl|rfl|rfl|rfl<;>simp [tysA,tysR,lF]
theorem AB.len {wild:Bool} {hh n:Nat} {l:List Df} (h:AB wild hh n l):l.length≤18:=by
  have:=h.sub.length_le
  simp [KS] at this
  omega
abbrev rZA:Row:=⟨.own,true,1,2,fun _=>nthP [vs ⟨#[]⟩,.val (.slice none 0 0)]⟩
abbrev rA (k l:Nat):Row:=⟨.own,true,1,2,fun _=>nthP [vs n_metal,slP k l]⟩
theorem rule_rho {wild:Bool} {i:Nat} (hi:i < 4):IntKind.i64.wrap ((i:Int)+1)≤rhoD wild (lF ⟨#[]⟩ nmsR i):=by
  rcases (by omega:i=0∨i=1∨i=2∨i=3) with rfl|rfl|rfl|rfl<;>cases wild<;>decide +kernel
theorem rule_rho5 {wild:Bool} {nm:ByteArray} (h:wild=true):(5:Int)≤rhoD wild nm:=by
  unfold rhoD;rw [if_pos h];exact Int.le_refl _
theorem pay_rho {wild:Bool} {v:Nat} (hv:v≤1):IntKind.i64.wrap (4+(v:Int))≤rhoD wild (lF ⟨#[]⟩ nmsP v):=by
  rcases (by omega:v=0∨v=1) with rfl|rfl<;>cases wild<;>decide +kernel
theorem pread_cell {tab:List TI} {st:PSt} {t:Nat} {x:Operand} {l i n sz:Nat} {one:Bool} {f:Nat→Nat→PV} {q:PV} (hx:st.ev x=.ptr l i 0) (hr:rowAt st.mem l=some ⟨.own,one,n,sz,f⟩) (hk:(tget tab t).k.isAgg=false) (hsc:(tget tab t).k.scalar=true) (hs:Nat.ble 1 sz=true) (hf:f i 0=q):pread tab st (.load t x)=some (q,i < n):=by
  have fe:∀ (p:PV) (k:PV→RP),force p k=k p:=fun p k=>by cases p<;>rfl
  have hj:Nat.blt 0 sz=true:=hs
  simp only [pread,hx,str,hr,Row.ok,pload,hk,hsc,hj,fe,hf,rmap,strP,cond_true,cond_false,Bool.and_self]
def swpL (l:List Df) (i j:Nat):List Df:=(l.set i (lF dD l j)).set j (lF dD l i)
theorem swpL_perm {l:List Df} {i j:Nat} (hi:i < l.length) (hj:j < l.length):l.Perm (swpL l i j):=by
  have h:=(Array.swap_perm (xs:=l.toArray) (i:=i) (j:=j) (by simpa using hi) (by simpa using hj)).toList
  rw [Array.toList_swap] at h
  have e:swpL l i j=(l.set i l[j]).set j l[i]:=by unfold swpL;rw [lF_take hi,lF_take hj]
  rw [e]
  simpa using h.symm
theorem swpL_len {l:List Df} {i j:Nat} : (swpL l i j).length=l.length:=by simp [swpL]
theorem swpL_at {l:List Df} {i j:Nat} (hi:i < l.length) (hj:j < l.length) (a:Nat):lF dD (swpL l i j) a=if a=j then lF dD l i else if a=i then lF dD l j else lF dD l a:=by
  unfold swpL lF
  simp only [List.getD_eq_getElem?_getD,List.getElem?_set,List.length_set]
  by_cases h1:j=a
  · subst h1;simp [hj]
  · by_cases h2:i=a
    · subst h2;simp [h1,hi,Ne.symm h1]
    · simp [h1,h2,Ne.symm h1,Ne.symm h2]
theorem swp_eq {τ:Nat→Option Nat} {n i j i' j' : Nat} {l:List Df} {L L' : List PV} (hi:i < l.length) (hj:j < l.length) (hi' : i'=i) (hj' : j'=j) (hL:L=cD (lF dD l j')) (hL' : L'=cD (lF dD l i')):RowEq (Row.ren τ ⟨.own,false,n,21,updR (updR (tF cD (lF dD l)) i' L) j' L'⟩) (oRow cD 21 n (lF dD (swpL l i j))):=by
  subst hL hL' hi' hj'
  refine o_eq cD_cl (Nat.le_refl _) fun a ha b hb=>?_
  rw [swpL_at hi hj]
  unfold updR
  by_cases h1:a=j'
  · subst h1;simp
  · have e1:Nat.beq a j'=false:=by cases hb2:Nat.beq a j';rfl;exact absurd (Nat.eq_of_beq_eq_true hb2) h1
    by_cases h2:a=i'
    · subst h2;simp only [e1,cond_false,if_neg h1,if_true];simp
    · have e2:Nat.beq a i'=false:=by cases hb2:Nat.beq a i';rfl;exact absurd (Nat.eq_of_beq_eq_true hb2) h2
      simp only [e1,e2,cond_false,if_neg h1,if_neg h2];rfl
abbrev agrPost (wild:Bool) (h n:Nat) (g:Nat→Int):PV→List Row→Prop:=fun r rows=>∃ (at' : Int) (k:Nat) (l:List Df),0≤at'∧at'≤n∧l.length=k+1∧AGood wild h l∧r=.agg 2 (nthP [vs n_metal,.lsl 2 0 (k+1)])∧rows=[tapeRow n g at',rA (k+1) 2,oRow cD 21 (k+1) (lF dD l)]
theorem AGood.l1 {wild:Bool} {h:Nat} {l:List Df} (hA:AGood wild h l):l.length≤30:=hA.len
theorem pread_aggs2 {tab:List TI} {st:PSt} {t:Nat} {x:Operand} {l i n sz m:Nat} {one:Bool} {f:Nat→Nat→PV} {q:List PV} (hx:st.ev x=.ptr l i 0) (hr:rowAt st.mem l=some ⟨.own,one,n,sz,f⟩) (hk:(tget tab t).k.isAgg=true) (hm:(tget tab t).sz=m) (hs:Nat.ble (0+m) sz=true) (hq:q.length=m) (hf:∀ j,j < m→f i j=nthP q j):pread tab st (.load t x)=some (.agg m (nthP q),i < n):=by
  have e:(List.range' 0 m).map (fun y=>f i (0+y))=q:=by
    apply List.ext_getElem
    · simp [hq]
    · intro k h1 h2
      simp at h1
      simp only [List.getElem_map,List.getElem_range']
      rw [show 0+(0+1 * k)=k by omega,hf k h1]
      have:∀ (L:List PV) (k:Nat) (h:k < L.length),nthP L k=L[k]:=by
        intro L
        induction L with
        | nil=>intro k h;simp at h
        | cons y L ih =>
          intro k h
          cases k with
          | zero=>rfl
          | succ k=>simp only [nthP,List.getElem_cons_succ];exact ih k (by simpa using h)
      exact this q k h2
  simp only [pread,hx,str,hr,Row.ok,pload,hk,hm,hs,forceL_eq,rmap,strP,cond_true,e]
abbrev dS:Int×Int:=(0,1)
theorem st3_row {x:Int} (h1:0≤x) (h2:x < 3∨x=0) (j:Nat) (hj:j < 2):nthP [vi 1,vi 100,vi 1,vi 20,vi 1,vi 1] ((0+x.toNat) * 2+j)=nthP [vi (lF dS stepL x.toNat).1,vi (lF dS stepL x.toNat).2] j:=by
  obtain ⟨k,rfl⟩:∃ k:Nat,x=k:=⟨x.toNat,by omega⟩
  rcases (by omega:k=0∨k=1∨k=2) with rfl|rfl|rfl<;>rcases (by omega:j=0∨j=1) with rfl|rfl<;>rfl
theorem st3_mem {x:Int} (h1:0≤x) (h2:x < 3∨x=0):lF dS stepL x.toNat ∈ stepL:=by
  obtain ⟨k,rfl⟩:∃ k:Nat,x=k:=⟨x.toNat,by omega⟩
  rcases (by omega:k=0∨k=1∨k=2) with rfl|rfl|rfl<;>simp [lF,stepL]
theorem nmP_row {v:Nat} (hv:v≤1):nthP [vs n_a,vs n_b] ((0+(v:Int).toNat) * 1+0)=vs (lF ⟨#[]⟩ nmsP v):=by
  rcases (by omega:v=0∨v=1) with rfl|rfl<;>rfl
theorem pay_tab3 {v:Nat} (hv:v≤1):(lF ⟨#[]⟩ nmsP v,(4:Int),t0) ∈ tabL∧(lF ⟨#[]⟩ nmsP v).size≤100∧lF dK KS (16+v)=(lF ⟨#[]⟩ nmsP v,20454):=by
  rcases (by omega:v=0∨v=1) with rfl|rfl
  · exact ⟨mm,by decide,rfl⟩
  · exact ⟨mm,by decide,rfl⟩
set_option maxHeartbeats 8000000 in
theorem agr_swap (wild : Bool) (h : Nat) (n : Nat) (g : Nat → Int) (hn : n ≤ 9223372036854775807) (Γ : Fr) (hk : Γ.k0 = 1) (at_ : Int) (k : Nat) (l : List Df) (b1 : 0 ≤ at_) (b2 : at_ ≤ n) (hlk : l.length = k + 1) (hA : AGood wild h l) :
    PWp G.toPg Tryz.f6.ntmps Γ (dropS 8 (Tryz.f6.body.getD .skip)) ⟨[(0,.ptr 0 0 0),(6,.ptr 1 0 0),(7,.ptr 2 0 0)],[tapeRow n g at_,rZA,rA (k+1) 3,vRow cD 21 (k+1) (lF dD l)]⟩ (KretR Tryz.f6.ntmps Γ G.tab Tryz.f6.results.toList 1 (agrPost wild h n g)):=by
  repeat' (first|refine gg ?_|exact trivial|with_reducible refine wA ?_ ?_|refine Y2.mk ?_ ?_|(refine tn1 hn ?_;rintro at_ b1 b2 x hx1 hx2)|refine gh ?_|exact qq|fail)
  refine pcan (st':=⟨[(0,.ptr 0 0 0),(6,.ptr 1 0 0),(7,.ptr 2 0 0),(14,vi x)],[tapeRow n g at_,rZA,rA (k+1) 3,vRow cD 21 (k+1) (lF dD l)]⟩) (can_rowsv [0,1,2,3] (k0_sel hk rfl) rfl (.cons rfl (RowEq.cl (tape_cl _ _ _)) (.cons rfl rqq (.cons rfl rqq (.cons rfl (RowEq.cl (v_cl cD_cl _ _ _)) .nil)))) tmq) ?_
  refine ploop (fun q st=>∃ (at' y:Int) (l:List Df),0≤at'∧at'≤n∧0≤y∧y≤3∧q=y.toNat∧l.length=k+1∧AGood wild h l∧st=⟨[(0,.ptr 0 0 0),(6,.ptr 1 0 0),(7,.ptr 2 0 0),(14,vi y)],[tapeRow n g at',rZA,rA (k+1) 3,vRow cD 21 (k+1) (lF dD l)]⟩) x.toNat ⟨at_,x,l,b1,b2,hx1,by omega,rfl,hlk,hA,rfl⟩ ?_
  clear hlk hA b1 b2 hx1 hx2
  rintro _ _ ⟨at',y,l,b1,b2,hy0,hy3,rfl,hlk,hA,rfl⟩
  have hk30:=hA.l1
  have hwy:IntKind.i64.wrap (y - 1)=y - 1:=w64 (by omega) (by omega)
  repeat' (first|refine gg ?_|exact trivial|with_reducible refine wA ?_ ?_|refine Y2.mk ?_ ?_|refine gh ?_|exact qq|fail)
  refine pcond rfl ?_ ?_<;>intro hc<;>simp at hc
  · repeat' (first|refine gg ?_|exact trivial|with_reducible refine wA ?_ ?_|refine Y2.mk ?_ ?_|refine xs_start (id:=24) true [.take 0,.take 1,.take 2,.take 3,.take 5,.take 6,.take 7,.take 8,.one 4,.one 9,.take 10,.take 11] 0 rfl rfl (by kernel_rfl) ?_|refine xs_startH (id:=25) [1,2] false [.take 0,.take 1,.take 2,.take 3,.take 4,.take 5,.take 6,.take 7,.take 8,.take 11,.take 12,.take 13] 8 rfl (by kernel_rfl) ?_|refine BrAll.cons ?_ ?_|exact BrAll.nil|refine xs_brT (n:=20) [0,1,2,3,4,5,6,7,8,11,12,13] [(9,[],false,7),(14,[],false,7)] (by decide +kernel) rfl (by kernel_rfl) (by kernel_rfl) ?_|refine xs_brT (n:=20) [0,1,2,3,4,5,6,7,8,11,12,13,14] [(9,[],false,6),(15,[.one 9,.one 10,.one 16,.one 17,.one 18,.one 19],true,0)] (by decide +kernel) rfl (by kernel_rfl) (by kernel_rfl) ?_|refine xs_brT (n:=20) [0,1,2,3,4,5,6,7,8,9,11,12,13,14] [(10,[.one 15,.one 16,.one 17,.one 18,.one 19],true,0),(15,[.one 10,.one 16,.one 17,.one 18,.one 19],true,0)] (by decide +kernel) rfl (by kernel_rfl) (by kernel_rfl) ?_|refine xs_brT (n:=20) [0,1,2,3,4,5,6,7,8,9,11,12,13] [(10,[.one 14,.one 15,.one 16,.one 17,.one 18,.one 19],true,0),(14,[],false,6)] (by decide +kernel) rfl (by kernel_rfl) (by kernel_rfl) ?_|refine ⟨_,[],true,rfl,rfl,stepOp_pst rfl ?_ ?_⟩|(refine tn2 hn ?_;rintro at_ b1 b2 x hx1 hx2)|refine gh ?_|exact qq|fail)
    all_goals
      rename_i at1 c1 c2 xn hn1 hn2
      have e1:xn.toNat < l.length:=by omega
      have e2:x.toNat < l.length:=by omega
      refine xdone ?_
      rw [hwy]
      exact kloop_next (st':=⟨[(0,.ptr 0 0 0),(6,.ptr 1 0 0),(7,.ptr 2 0 0),(14,vi (y - 1))],[tapeRow n g _,rZA,rA (k+1) 3,vRow cD 21 (k+1) (lF dD (swpL l xn.toNat x.toNat))]⟩) (y - 1).toNat (can_rowsv [0,1,2,3] (k0_sel hk rfl) rfl (.cons rfl (RowEq.cl (tape_cl _ _ _)) (.cons rfl rqq (.cons rfl rqq (.cons rfl (swp_eq e1 e2 (Nat.zero_add _) (Nat.zero_add _) rfl rfl) .nil)))) tmq) (by omega) ⟨_,y - 1,_,by assumption,by assumption,by omega,by omega,rfl,by rw [swpL_len];exact hlk,hA.perm (swpL_perm e1 e2),rfl⟩
  · repeat' (first|refine gg ?_|exact trivial|with_reducible refine wA ?_ ?_|refine Y2.mk ?_ ?_|refine gh ?_|exact qq|fail)
    refine xdone ?_
    exact kretr (st':=⟨[(6,.ptr 1 0 0)],[tapeRow n g at',rA (k+1) 2,oRow cD 21 (k+1) (lF dD l)]⟩) (can_rowsv [0,1,3] (k0_sel hk rfl) rfl (.cons rfl (RowEq.cl (tape_cl _ _ _)) (.cons rfl rqq (.cons rfl (RowEq.cl (o_cl cD_cl _ _ _)) .nil))) tmq) rfl ⟨Nat.zero_lt_one,trivial⟩ rfl ⟨at',k,l,b1,b2,hlk,hA,rfl,rfl⟩
end Go.Proofs.YtcefhgomkehokaaGreat
namespace Go.Proofs.YtcefhgomkehokaaGreat
inductive BK (c:Nat):Ex→Prop where
  | nil:BK c .nil
  | mk {op vn vd um uh ud:Int} {nm:ByteArray} {cnt mode:Int} {nk:Nat} {kf:Nat→Ex} (h : -9223372036854775808≤vn∧vn≤9223372036854775807∧nm.size≤9223372036854775807) (hn:nk≤c) (hk:∀ i,i < nk→BK c (kf i)):BK c (.mk op vn vd um uh ud nm cnt mode nk kf)
theorem BK.bd {c:Nat} {e:Ex} (h:BK c e):Bd e:=by
  induction h with
  | nil=>exact .nil
  | mk h _ _ ih=>exact .mk h ih
theorem BK.mono {c c' : Nat} {e:Ex} (h:BK c e) (hc:c≤c'):BK c' e:=by
  induction h with
  | nil=>exact .nil
  | mk h hn _ ih=>exact .mk h (by omega) ih
theorem BK.nk {c:Nat} {e:Ex} (h:BK c e):e.nk≤c:=by cases h with|nil=>exact Nat.zero_le _|mk _ h _=>exact h
theorem BK.k {c:Nat} {e:Ex} (h:BK c e) {i:Nat} (hi:i < e.nk):BK c (e.kf i):=by cases h with|nil=>exact absurd hi (Nat.not_lt_zero _)|mk _ _ h=>exact h i hi
theorem BK.of_valid:∀ (n:Nat) (e:Ex),validS n e=true→Bd e→BK 3 e
  | 0,_,h,_=>by cases h
  | n+1,e,h,hb=>by
    simp only [validS,Bool.and_eq_true,decide_eq_true_eq] at h
    obtain ⟨h1,_,h3⟩:=h
    have h3:=allK_iff.1 h3
    have hk:=kidsN_le e.op
    have hk2:e.nk≤3:=by omega
    cases hb with
    | nil=>exact .nil
    | mk hb hbk=>exact .mk hb hk2 fun i hi=>BK.of_valid n _ (h3 i hi) (hbk i hi)
theorem BK.set {c:Nat} {e:Ex} (h:BK c e) {op vn vd um uh ud:Int} {nm:ByteArray} {cnt mode:Int} (hb : -9223372036854775808≤vn∧vn≤9223372036854775807∧nm.size≤9223372036854775807):BK c (.mk op vn vd um uh ud nm cnt mode e.nk e.kf):=.mk hb h.nk fun i hi=>h.k hi
abbrev eT:Ex:=eOp 2 0 kn
theorem w_snoc (e:Ex) {op vn vd um uh ud:Int} {nm:ByteArray} {cnt mode:Int} : (Ex.mk op vn vd um uh ud nm cnt mode (e.nk+1) (snocA e.nk e.kf eT)).w≤e.w+2:=by
  have h:=w_kids e
  have e1:(wS e.nk fun i=>(snocA e.nk e.kf eT i).w)=wS e.nk fun i=>(e.kf i).w:=wS_congr fun i hi=>by unfold snocA;rw [if_pos hi]
  have e2:(snocA e.nk e.kf eT e.nk).w=1:=by unfold snocA;rw [if_neg (Nat.lt_irrefl _)];rfl
  simp only [Ex.w,wS,e1,e2];omega
theorem w_upd (e:Ex) {op vn vd um uh ud:Int} {nm:ByteArray} {cnt mode:Int} {x:Nat} {e2:Ex} (h2:e2.w≤(e.kf x).w+100):(Ex.mk op vn vd um uh ud nm cnt mode e.nk (updA e.kf x e2)).w≤e.w+100:=by
  have:=wS_le2 (n:=e.nk) (g:=fun i=>(updA e.kf x e2 i).w) (h:=fun i=>(e.kf i).w) (d:=100) (x:=x) (fun i _ hne=>by unfold updA;rw [if_neg hne];exact Nat.le_refl _) (by unfold updA;rw [if_pos rfl];exact h2)
  cases e with
  | nil=>exact Nat.le_add_left 1 99
  | mk op' vn' vd' um' uh' ud' nm' cnt' mode' nk kf =>
    simp only [Ex.w,Ex.nk,Ex.kf] at this ⊢
    omega
theorem w_one (x:Int) (e:Ex):(eOp x 1 (k1 e)).w=1+e.w:=by
  show 1+(0+(k1 e 0).w)=_
  rw [Nat.zero_add];rfl
theorem argEx' {mem : List Row} {L : List Nat} {op vn vd um uh ud : Int} {nm : ByteArray} {cnt mode : Int} {nk : Nat} {kf : Nat → Ex} {p : PV} (h : ArgOk mem L p (.vsl nk 10 (tF cX kf))) :
    ArgOk mem L (.agg 10 (nthP [vi op,vi vn,vi vd,vi um,vi uh,vi ud,vs nm,vi cnt,vi mode,p])) (vX (.mk op vn vd um uh ud nm cnt mode nk kf)):=argEx h
theorem argKx {mem:List Row} {L:List Nat} {l:Nat} {a:Ex} (hkc:a.kc=tF cX a.kf) (hr:rowAt mem l=some ⟨.own,false,1,10,fun x y=>nthP [vi a.op,vi a.vn,vi a.vd,vi a.um,vi a.uh,vi a.ud,vs a.nm,vi a.cnt,vi a.mode,.vsl a.nk 10 (tF cX a.kf)] (x * 10+y)⟩) (hL:l ∈ L):ArgOk mem L (.lsl l 0 1) (.vsl 1 10 (tF cX (k1 a))):=by
  rw [← hkc] at hr
  exact argK1 (op:=0) (vn:=0) (vd:=0) (um:=0) (uh:=0) (ud:=0) (nm:=⟨#[]⟩) (cnt:=0) (mode:=0) hr hL
theorem argLslP {mem:List Row} {L:List Nat} {l n n' sz:Nat} {s:RS} {one:Bool} {f g:Nat→Nat→PV} (hr:rowAt mem l=some ⟨s,one,n',sz,g⟩) (hs:s.live) (hL:l ∈ L) (hn:n≤n') (hc:∀ a,a < n→∀ b,b < sz→ArgOk mem L (g a b) (f a b)):ArgOk mem L (.lsl l 0 n) (.vsl n sz f) :=
  argLsl' (r:=⟨s,one,n',sz,g⟩) hr hs hL (by simpa using hn) fun a ha b hb=>by rw [Nat.zero_add];exact hc a ha b hb
theorem cellX {mem:List Row} {L:List Nat} {a1 a2 a3 a4 a5 a6 a7 a8:Int} {nm:ByteArray} {p q:PV} (h:ArgOk mem L p q):∀ (i:Nat),i < 1→∀ j,j < 10→ArgOk mem L (nthP [vi a1,vi a2,vi a3,vi a4,vi a5,vi a6,vs nm,vi a7,vi a8,p] j) (nthP [vi a1,vi a2,vi a3,vi a4,vi a5,vi a6,vs nm,vi a7,vi a8,q] j):=fun i hi j hj=>by
  rcases c10 hj with rfl|rfl|rfl|rfl|rfl|rfl|rfl|rfl|rfl|rfl
  iterate 9 exact argVal
  exact h
abbrev rZX:Row:=⟨.own,true,1,10,fun _=>nthP [vi 0,vi 0,vi 0,vi 0,vi 0,vi 0,vs ⟨#[]⟩,vi 0,vi 0,.val (.slice none 0 0)]⟩
abbrev SpX (c:Nat) (e:Ex):Prop:=TapC G.P 26 [vX e] (fun r=>∃ e',r=vX e'∧BK (c+1) e'∧e'.w≤e.w+100)
abbrev SpPost (c m n:Nat) (g:Nat→Int):PV→Row→Prop:=fun r row'=>(∃ e',r=vX e'∧BK (c+1) e'∧e'.w≤m)∧∃ at' : Int,0≤at'∧at'≤n∧row'=tapeRow n g at'
set_option maxHeartbeats 8000000 in
theorem spoil_rest (c : Nat) (hc3 : 3 ≤ c) (hc : c ≤ 100) (hE : ∀ t, t = t0 ∨ t = tM ∨ t = tH ∨ t = tR ∨ t = tB → TapC G.P 23 [vT t, vi 2, vi 5] (fun r => ∃ e, r = vX e ∧ BK 3 e ∧ e.w ≤ 100)) (e : Ex) (hb : BK c e) (n : Nat) (g : Nat → Int) (hn : n ≤ 9223372036854775807) (Γ : Fr) (hk : Γ.k0 = 1) (at_ : Int) (b1 : 0 ≤ at_) (b2 : at_ ≤ n) :
    PWp G.toPg Tryz.f26.ntmps Γ (dropS 2 (Tryz.f26.body.getD .skip)) ⟨[(0,.ptr 0 0 0),(3,.ptr 1 0 0),(4,.ptr 2 0 0)],[tapeRow n g at_,rX18 e,rZX]⟩ (KretP G.tab Tryz.f26.results.toList (SpPost c (e.w+100) n g)):=by
  have hnk:=hb.nk
  have hv:=hb.bd.v
  have hs:=hb.bd.s
  refine pseq ?_
  refine pcut (fun st=>∃ (at' : Int) (e' : Ex),0≤at'∧at'≤n∧BK (c+1) e'∧e'.w≤e.w+100∧e'.kc=tF cX e'.kf∧st=⟨[(0,.ptr 0 0 0),(3,.ptr 1 0 0),(4,.ptr 2 0 0)],[tapeRow n g at',rX18 e',rZX]⟩) ?_ ?_
  · repeat' (first|refine gg ?_|exact trivial|with_reducible refine wA ?_ ?_|refine Y2.mk ?_ ?_|(refine tn1 hn ?_;rintro at_ b1 b2 x hx1 hx2)|refine gh ?_|exact qq|fail)
    rcases (by omega:x=0∨x=1∨x=2∨x=3∨x=4∨x=5∨x=6∨x=7∨x=8) with rfl|rfl|rfl|rfl|rfl|rfl|rfl|rfl|rfl
    · repeat' (first|refine gg ?_|exact trivial|with_reducible refine wA ?_ ?_|refine Y2.mk ?_ ?_|(refine tn1 hn ?_;rintro at_ b1 b2 x hx1 hx2)|refine gh ?_|exact qq|fail)
      refine xdone ?_
      exact kcut (st':=⟨[(0,.ptr 0 0 0),(3,.ptr 1 0 0),(4,.ptr 2 0 0)],[tapeRow n g _,rX18 (Ex.mk _ e.vn e.vd e.um e.uh e.ud e.nm e.cnt e.mode e.nk e.kf),rZX]⟩) (can_rowsv [0,1,2] (k0_sel hk rfl) rfl (.cons rfl (RowEq.cl (tape_cl _ _ _)) (.cons rfl (RowEq.cl (rX18_cl (Ex.mk _ e.vn e.vd e.um e.uh e.ud e.nm e.cnt e.mode e.nk e.kf))) (.cons rfl rqq .nil))) tmq) ⟨_,_,by assumption,by assumption,(hb.set ⟨hv.1,hv.2,hs⟩).mono (by omega),Nat.le_trans (w_set e) (by omega),rfl,rfl⟩
    · repeat' (first|refine gg ?_|exact trivial|with_reducible refine wA ?_ ?_|refine Y2.mk ?_ ?_|exact ⟨trivial,(by rw [hk];exact Nat.le_of_ble_eq_true rfl),Nat.le_refl _,(show (0+e.nk) * 104≤140737488355328 from by omega),(show 0+e.nk≤9223372036854775807 from by omega)⟩|exact ⟨Nat.le_refl _,(by rw [hk];exact Nat.le_of_ble_eq_true rfl),(show 0+(0+e.nk)≤0+e.nk from by omega),(show (0+e.nk+1) * 104≤140737488355328 from by omega),(show 0+e.nk+1≤9223372036854775807 from by omega)⟩|refine gh ?_|exact qq|fail)
      refine xdone ?_
      refine kcut (st':=⟨[(0,.ptr 0 0 0),(3,.ptr 1 0 0),(4,.ptr 2 0 0)],[tapeRow n g _,rX18 (Ex.mk e.op e.vn e.vd e.um e.uh e.ud e.nm e.cnt e.mode (e.nk+1) (snocA e.nk e.kf eT)),rZX]⟩) ((can_frzb [6] 1 (fun _=>nthP [vi e.op,vi e.vn,vi e.vd,vi e.um,vi e.uh,vi e.ud,vs e.nm,vi e.cnt,vi e.mode,.vsl (e.nk+1) 10 (tF cX (snocA e.nk e.kf eT))]) (tm:=[(0,.ptr 0 0 0),(3,.ptr 1 0 0),(4,.ptr 2 0 0)]) (by intro l hl;rw [hk];simp at hl;omega) rfl rfl rfl (fun i hi j hj=>?_) (by exact ⟨.inl rfl,.inl rfl,.inl rfl,trivial⟩)).trans (can_rowsv [0,1,2] (k0_sel hk rfl) rfl (.cons rfl (RowEq.cl (tape_cl _ _ _)) (.cons rfl (RowEq.cl (rX18_cl (Ex.mk e.op e.vn e.vd e.um e.uh e.ud e.nm e.cnt e.mode (e.nk+1) (snocA e.nk e.kf eT)))) (.cons rfl rqq .nil))) tmq)) ⟨_,_,by assumption,by assumption,.mk ⟨hv.1,hv.2,hs⟩ (by omega) (fun i hi=>?_),Nat.le_trans (w_snoc e) (by omega),rfl,rfl⟩
      · rcases c10 hj with rfl|rfl|rfl|rfl|rfl|rfl|rfl|rfl|rfl|rfl
        iterate 9 exact argVal
        show ArgOk _ _ (.lsl 6 0 (0+e.nk+1)) (.vsl (e.nk+1) 10 (tF cX (snocA e.nk e.kf eT)))
        rw [Nat.zero_add e.nk]
        refine argLslP rfl trivial (List.Mem.head _) (Nat.le_refl _) fun a ha b hb=>?_
        show ArgOk _ _ (appF e.nk _ _ a b) (nthP (cX (snocA e.nk e.kf eT a)) b)
        unfold snocA
        by_cases e1:a < e.nk
        · rw [appF_lt _ _ e1]
          show ArgOk _ _ (tF cX e.kf (0+a) b) _
          rw [Nat.zero_add a,if_pos e1]
          exact argCl (tF_cl cX_cl e.kf a b)
        · obtain rfl:a=e.nk:=by omega
          rw [appF_ge _ _ (Nat.le_refl _),Nat.sub_self,if_neg e1]
          have hb:b < 10:=hb
          rcases c10 hb with rfl|rfl|rfl|rfl|rfl|rfl|rfl|rfl|rfl|rfl
          iterate 9 exact argVal
          exact argNil
      · unfold snocA
        by_cases e1:i < e.nk
        · rw [if_pos e1];exact (hb.k e1).mono (by omega)
        · rw [if_neg e1];exact .mk ⟨by decide,by decide,by decide⟩ (by omega) (fun i hi=>absurd hi (Nat.not_lt_zero i))
    · repeat' (first|refine gg ?_|exact trivial|with_reducible refine wA ?_ ?_|refine Y2.mk ?_ ?_|(refine tn1 hn ?_;rintro at_ b1 b2 x hx1 hx2)|refine gh ?_|exact qq|fail)
      rcases (by omega:x=0∨x=1∨x=2∨x=3∨x=4∨x=5) with rfl|rfl|rfl|rfl|rfl|rfl
      all_goals
        repeat' (first|refine gg ?_|exact trivial|with_reducible refine wA ?_ ?_|refine Y2.mk ?_ ?_|refine gh ?_|exact qq|fail)
        refine xdone ?_
        exact kcut (st':=⟨[(0,.ptr 0 0 0),(3,.ptr 1 0 0),(4,.ptr 2 0 0)],[tapeRow n g _,rX18 (Ex.mk e.op e.vn e.vd e.um e.uh e.ud _ e.cnt e.mode e.nk e.kf),rZX]⟩) (can_rowsv [0,1,2] (k0_sel hk rfl) rfl (.cons rfl (RowEq.cl (tape_cl _ _ _)) (.cons rfl (RowEq.cl (rX18_cl (Ex.mk e.op e.vn e.vd e.um e.uh e.ud _ e.cnt e.mode e.nk e.kf))) (.cons rfl rqq .nil))) tmq) ⟨_,_,by assumption,by assumption,(hb.set ⟨hv.1,hv.2,by decide⟩).mono (by omega),Nat.le_trans (w_set e) (by omega),rfl,rfl⟩
    · repeat' (first|refine gg ?_|exact trivial|with_reducible refine wA ?_ ?_|refine Y2.mk ?_ ?_|(refine tn1 hn ?_;rintro at_ b1 b2 x hx1 hx2)|refine gh ?_|exact qq|fail)
      rcases (by omega:x=0∨x=1∨x=2∨x=3) with rfl|rfl|rfl|rfl
      all_goals
        repeat' (first|refine gg ?_|exact trivial|with_reducible refine wA ?_ ?_|refine Y2.mk ?_ ?_|refine gh ?_|exact qq|fail)
        refine xdone ?_
        exact kcut (st':=⟨[(0,.ptr 0 0 0),(3,.ptr 1 0 0),(4,.ptr 2 0 0)],[tapeRow n g _,rX18 (Ex.mk e.op _ _ e.um e.uh e.ud e.nm e.cnt e.mode e.nk e.kf),rZX]⟩) (can_rowsv [0,1,2] (k0_sel hk rfl) rfl (.cons rfl (RowEq.cl (tape_cl _ _ _)) (.cons rfl (RowEq.cl (rX18_cl (Ex.mk e.op _ _ e.um e.uh e.ud e.nm e.cnt e.mode e.nk e.kf))) (.cons rfl rqq .nil))) tmq) ⟨_,_,by assumption,by assumption,(hb.set ⟨by decide,by decide,hs⟩).mono (by omega),Nat.le_trans (w_set e) (by omega),rfl,rfl⟩
    · repeat' (first|refine gg ?_|exact trivial|with_reducible refine wA ?_ ?_|refine Y2.mk ?_ ?_|(refine pop_tapl (G:=G) rfl rfl rfl rfl rfl rfl rfl rfl rfl rfl rfl (by omega) rfl (fun _=>rfl) rfl (pick_t _ _ rfl (by decide) (by decide)) hn (by assumption) (by assumption) ?_;rintro at_ _ b1 b2 ⟨x,rfl,hx⟩;simp only [unL,List.mem_cons,List.not_mem_nil,or_false] at hx)|refine gh ?_|exact qq|fail)
      refine xdone ?_
      exact kcut (st':=⟨[(0,.ptr 0 0 0),(3,.ptr 1 0 0),(4,.ptr 2 0 0)],[tapeRow n g _,rX18 (Ex.mk e.op e.vn e.vd _ _ _ e.nm e.cnt e.mode e.nk e.kf),rZX]⟩) (can_rowsv [0,1,2] (k0_sel hk rfl) rfl (.cons rfl (RowEq.cl (tape_cl _ _ _)) (.cons rfl (RowEq.cl (rX18_cl (Ex.mk e.op e.vn e.vd _ _ _ e.nm e.cnt e.mode e.nk e.kf))) (.cons rfl rqq .nil))) tmq) ⟨_,_,by assumption,by assumption,(hb.set ⟨hv.1,hv.2,hs⟩).mono (by omega),Nat.le_trans (w_set e) (by omega),rfl,rfl⟩
    · repeat' (first|refine gg ?_|exact trivial|with_reducible refine wA ?_ ?_|refine Y2.mk ?_ ?_|(refine pop_tapl (G:=G) rfl rfl rfl rfl rfl rfl rfl rfl rfl rfl rfl (by omega) rfl (fun _=>rfl) rfl (pick_t _ _ rfl (by decide) (by decide)) hn (by assumption) (by assumption) ?_;rintro at_ _ b1 b2 ⟨x,rfl,hx⟩;simp only [unL,List.mem_cons,List.not_mem_nil,or_false] at hx)|refine gh ?_|exact qq|fail)
      refine xdone ?_
      exact kcut (st':=⟨[(0,.ptr 0 0 0),(3,.ptr 1 0 0),(4,.ptr 2 0 0)],[tapeRow n g _,rX18 (Ex.mk e.op e.vn e.vd e.um e.uh e.ud e.nm _ e.mode e.nk e.kf),rZX]⟩) (can_rowsv [0,1,2] (k0_sel hk rfl) rfl (.cons rfl (RowEq.cl (tape_cl _ _ _)) (.cons rfl (RowEq.cl (rX18_cl (Ex.mk e.op e.vn e.vd e.um e.uh e.ud e.nm _ e.mode e.nk e.kf))) (.cons rfl rqq .nil))) tmq) ⟨_,_,by assumption,by assumption,(hb.set ⟨hv.1,hv.2,hs⟩).mono (by omega),Nat.le_trans (w_set e) (by omega),rfl,rfl⟩
    · repeat' (first|refine gg ?_|exact trivial|with_reducible refine wA ?_ ?_|refine Y2.mk ?_ ?_|(refine pop_tapl (G:=G) rfl rfl rfl rfl rfl rfl rfl rfl rfl rfl rfl (by omega) rfl (fun _=>rfl) rfl (pick_t _ _ rfl (by decide) (by decide)) hn (by assumption) (by assumption) ?_;rintro at_ _ b1 b2 ⟨x,rfl,hx⟩;simp only [unL,List.mem_cons,List.not_mem_nil,or_false] at hx)|refine gh ?_|exact qq|fail)
      refine xdone ?_
      exact kcut (st':=⟨[(0,.ptr 0 0 0),(3,.ptr 1 0 0),(4,.ptr 2 0 0)],[tapeRow n g _,rX18 (Ex.mk e.op e.vn e.vd e.um e.uh e.ud e.nm e.cnt _ e.nk e.kf),rZX]⟩) (can_rowsv [0,1,2] (k0_sel hk rfl) rfl (.cons rfl (RowEq.cl (tape_cl _ _ _)) (.cons rfl (RowEq.cl (rX18_cl (Ex.mk e.op e.vn e.vd e.um e.uh e.ud e.nm e.cnt _ e.nk e.kf))) (.cons rfl rqq .nil))) tmq) ⟨_,_,by assumption,by assumption,(hb.set ⟨hv.1,hv.2,hs⟩).mono (by omega),Nat.le_trans (w_set e) (by omega),rfl,rfl⟩
    · repeat' (first|refine gg ?_|exact trivial|with_reducible refine wA ?_ ?_|refine Y2.mk ?_ ?_|(refine t1 type_t hn ?_;rintro at_ _ b1 b2 ⟨t,rfl,ht⟩)|(refine t2 type_t hn ?_;rintro at_ _ b1 b2 ⟨t,rfl,ht⟩)|(refine t3 type_t hn ?_;rintro at_ _ b1 b2 ⟨t,rfl,ht⟩)|refine gh ?_|exact qq|fail)
      have hE2:=hE t ht
      repeat' (first|refine gg ?_|exact trivial|with_reducible refine wA ?_ ?_|refine Y2.mk ?_ ?_|(refine t1 hE2 hn ?_;rintro at_ _ b1 b2 ⟨e2,rfl,he2⟩)|(refine t2 hE2 hn ?_;rintro at_ _ b1 b2 ⟨e2,rfl,he2⟩)|(refine t3 hE2 hn ?_;rintro at_ _ b1 b2 ⟨e2,rfl,he2⟩)|refine gh ?_|exact qq|fail)
      exact ktap rfl b1 b2 rfl ⟨Nat.zero_lt_one,trivial⟩ rfl ⟨e2,rfl,he2.1.mono (by omega),by have:=he2.2;omega⟩
    · repeat' (first|refine gg ?_|exact trivial|with_reducible refine wA ?_ ?_|refine Y2.mk ?_ ?_|(refine tn1 hn ?_;rintro at_ b1 b2 x hx1 hx2)|refine gh ?_|exact qq|fail)
      obtain ⟨y,rfl⟩:∃ y:Nat,x=y:=⟨x.toNat,by omega⟩
      refine pcan (st':=⟨[(0,.ptr 0 0 0),(3,.ptr 1 0 0),(4,.ptr 2 0 0),(7,vi y)],[tapeRow n g at_,rX18 e,rZX]⟩) (can_rowsv [0,1,2] (k0_sel hk rfl) rfl (.cons rfl (RowEq.cl (tape_cl _ _ _)) (.cons rfl (RowEq.cl (rX18_cl e)) (.cons rfl rqq .nil))) tmq) ?_
      refine ploop (fun q st=>∃ (at' : Int) (e' : Ex) (y:Nat),0≤at'∧at'≤n∧y≤40∧q=y∧BK (c+1) e'∧e'.w+y≤e.w+42∧e'.kc=tF cX e'.kf∧st=⟨[(0,.ptr 0 0 0),(3,.ptr 1 0 0),(4,.ptr 2 0 0),(7,vi y)],[tapeRow n g at',rX18 e',rZX]⟩) y ⟨at_,.mk e.op e.vn e.vd e.um e.uh e.ud e.nm e.cnt e.mode e.nk e.kf,y,b1,b2,by omega,rfl,(hb.set ⟨hv.1,hv.2,hs⟩).mono (by omega),by have:=w_set e (op:=e.op) (vn:=e.vn) (vd:=e.vd) (um:=e.um) (uh:=e.uh) (ud:=e.ud) (nm:=e.nm) (cnt:=e.cnt) (mode:=e.mode);omega,rfl,rfl⟩ ?_
      clear b1 b2 hx1 hx2
      rintro q _ ⟨at',e',y,b1,b2,hy,hq,he',hw',hkc,rfl⟩
      have hq:=hq.symm
      subst hq
      repeat' (first|refine gg ?_|exact trivial|with_reducible refine wA ?_ ?_|refine Y2.mk ?_ ?_|refine gh ?_|exact qq|fail)
      refine pcond rfl ?_ ?_<;>intro hc1
      · have hc1:0 < y:=by simpa using hc1
        have hwy:IntKind.i64.wrap ((y:Int) - 1)=((y - 1:Nat):Int):=by rw [w64 (by omega) (by omega)];omega
        repeat' (first|refine gg ?_|exact trivial|with_reducible refine wA ?_ ?_|refine Y2.mk ?_ ?_|refine xs_startH (id:=11) [1,2] false [.take 0,.take 3] 5 rfl (by kernel_rfl) ?_|refine BrAll.cons ?_ ?_|exact BrAll.nil|refine xs_brT (n:=7) [0,3] [(1,[],false,4),(4,[.one 1,.one 2,.take 5,.one 6],true,0)] (by decide +kernel) rfl (by kernel_rfl) (by kernel_rfl) ?_|refine xs_brT (n:=7) [0,1,3] [(2,[.one 4,.take 5,.one 6],true,0),(4,[.one 2,.take 5,.one 6],true,0)] (by decide +kernel) rfl (by kernel_rfl) (by kernel_rfl) ?_|refine ⟨_,[],true,rfl,rfl,stepOp_pst rfl ?_ ?_⟩|(refine xs_one (ch:=[_]) rfl rfl rfl (pst_tapl (G:=G) rfl rfl rfl rfl rfl rfl rfl rfl rfl rfl rfl (by omega) rfl (fun _=>rfl) rfl (pick_t _ _ rfl (by decide) (by decide)) hn (by assumption) (by assumption) ?_);rintro at_ _ b1 b2 ⟨x,rfl,hx⟩;simp only [unL,List.mem_cons,List.not_mem_nil,or_false] at hx)|(refine ⟨_,[_],_,rfl,rfl,pst_tapl (G:=G) rfl rfl rfl rfl rfl rfl rfl rfl rfl rfl rfl (by omega) rfl (fun _=>rfl) rfl (pick_t _ _ rfl (by decide) (by decide)) hn (by assumption) (by assumption) ?_⟩;rintro at_ _ b1 b2 ⟨x,rfl,hx⟩;simp only [unL,List.mem_cons,List.not_mem_nil,or_false] at hx)|refine gh ?_|exact qq|fail)
        all_goals
          refine xdone ?_
          rw [hwy]
          first
            | exact kloop_next (st':=⟨[(0,.ptr 0 0 0),(3,.ptr 1 0 0),(4,.ptr 2 0 0),(7,vi ((y - 1:Nat):Int))],[tapeRow n g _,rX18 (eOp x 1 (k1 e')),rZX]⟩) (y - 1) ((can_frzb [3] 1 (fun _=>nthP [vi x,vi 0,vi 0,vi 0,vi 0,vi 0,vs ⟨#[]⟩,vi 0,vi 0,.vsl 1 10 (tF cX (k1 e'))]) (tm:=[(0,.ptr 0 0 0),(3,.ptr 1 0 0),(4,.ptr 2 0 0),(7,vi ((y - 1:Nat):Int))]) (by intro l hl;rw [hk];simp at hl;omega) rfl rfl rfl (cellX (argKx hkc rfl (List.Mem.head _))) (by exact ⟨.inl rfl,.inl rfl,.inl rfl,.inl rfl,trivial⟩)).trans (can_rowsv [0,1,2] (k0_sel hk rfl) rfl (.cons rfl (RowEq.cl (tape_cl _ _ _)) (.cons rfl (RowEq.cl (rX18_cl (eOp x 1 (k1 e')))) (.cons rfl rqq .nil))) tmq)) (by omega) ⟨_,eOp x 1 (k1 e'),y - 1,by assumption,by assumption,by omega,rfl,.mk ⟨by decide,by decide,by decide⟩ (by omega) (fun i hi=>he'),(by rw [w_one];omega),rfl,rfl⟩
            | exact kloop_next (st':=⟨[(0,.ptr 0 0 0),(3,.ptr 1 0 0),(4,.ptr 2 0 0),(7,vi ((y - 1:Nat):Int))],[tapeRow n g _,rX18 (eOp x 1 (k1 e')),rZX]⟩) (y - 1) ((can_frzb [4] 1 (fun _=>nthP [vi x,vi 0,vi 0,vi 0,vi 0,vi 0,vs ⟨#[]⟩,vi 0,vi 0,.vsl 1 10 (tF cX (k1 e'))]) (tm:=[(0,.ptr 0 0 0),(3,.ptr 1 0 0),(4,.ptr 2 0 0),(7,vi ((y - 1:Nat):Int))]) (by intro l hl;rw [hk];simp at hl;omega) rfl rfl rfl (cellX (argKx hkc rfl (List.Mem.head _))) (by exact ⟨.inl rfl,.inl rfl,.inl rfl,.inl rfl,trivial⟩)).trans (can_rowsv [0,1,2] (k0_sel hk rfl) rfl (.cons rfl (RowEq.cl (tape_cl _ _ _)) (.cons rfl (RowEq.cl (rX18_cl (eOp x 1 (k1 e')))) (.cons rfl rqq .nil))) tmq)) (by omega) ⟨_,eOp x 1 (k1 e'),y - 1,by assumption,by assumption,by omega,rfl,.mk ⟨by decide,by decide,by decide⟩ (by omega) (fun i hi=>he'),(by rw [w_one];omega),rfl,rfl⟩
      · repeat' (first|refine gg ?_|exact trivial|with_reducible refine wA ?_ ?_|refine Y2.mk ?_ ?_|refine gh ?_|exact qq|fail)
        refine xdone ?_
        exact kcut (st':=⟨[(0,.ptr 0 0 0),(3,.ptr 1 0 0),(4,.ptr 2 0 0)],[tapeRow n g _,rX18 e',rZX]⟩) (can_rowsv [0,1,2] (k0_sel hk rfl) rfl (.cons rfl (RowEq.cl (tape_cl _ _ _)) (.cons rfl (RowEq.cl (rX18_cl e')) (.cons rfl rqq .nil))) tmq) ⟨_,e',by assumption,by assumption,he',by omega,hkc,rfl⟩
  · rintro _ ⟨at',e',b1,b2,he,hw,hkc,rfl⟩
    repeat' (first|refine gg ?_|exact trivial|with_reducible refine wA ?_ ?_|refine Y2.mk ?_ ?_|refine gh ?_|exact qq|fail)
    refine xdone ?_
    exact ktap rfl b1 b2 rfl ⟨Nat.zero_lt_one,trivial⟩ rfl ⟨e',by show _=PV.agg 10 (nthP [_,_,_,_,_,_,_,_,_,.vsl e'.nk 10 e'.kc]);rw [hkc];rfl,he,hw⟩
set_option maxHeartbeats 8000000 in
theorem spoil_one (c:Nat) (hc3:3≤c) (hc:c≤100) (hE:∀ t,t=t0∨t=tM∨t=tH∨t=tR∨t=tB→TapC G.P 23 [vT t,vi 2,vi 5] (fun r=>∃ e,r=vX e∧BK 3 e∧e.w≤100)) (e:Ex) (hb:BK c e) (ih:∀ i,i < e.nk→SpX c (e.kf i)):SpX c e:=by
  intro n g at_ hn h1 h2
  have hnk:=hb.nk
  have hv:=hb.bd.v
  have hs:=hb.bd.s
  refine ptr_of (G:=G.toPg) (fn:=Tryz.f26) Tryz.func26 rfl rfl rfl ?_;intro Γ hk
  refine pseq ?_
  refine pcut (fun st=>st=⟨[(0,.ptr 0 0 0),(3,.ptr 1 0 0),(4,.ptr 2 0 0)],[tapeRow n g at_,rX18 e,rZX]⟩) ?_ ?_
  · repeat' (first|refine gg ?_|exact trivial|with_reducible refine wA ?_ ?_|refine Y2.mk ?_ ?_|refine gh ?_|exact qq|fail)
    exact kcut (st':=⟨[(0,.ptr 0 0 0),(3,.ptr 1 0 0),(4,.ptr 2 0 0)],[tapeRow n g at_,rX18 e,rZX]⟩) (can_rowsv [0,1,2] (k0_sel hk rfl) rfl (.cons rfl (RowEq.cl (tape_cl _ _ _)) (.cons rfl (var_eq ⟨PEq.refl _,PEq.refl _,PEq.refl _,PEq.refl _,PEq.refl _,PEq.refl _,PEq.refl _,PEq.refl _,PEq.refl _,peqK18 e,trivial⟩) (.cons rfl rqq .nil))) tmq) rfl
  rintro _ rfl
  refine pseq ?_
  refine pcut (fun st=>∃ (at' : Int),0≤at'∧at'≤n∧st=⟨[(0,.ptr 0 0 0),(3,.ptr 1 0 0),(4,.ptr 2 0 0)],[tapeRow n g at',rX18 e,rZX]⟩) ?_ ?_
  refine pseq ?_
  refine pcut (fun st=>∃ (at' : Int) (x:Bool),0≤at'∧at'≤n∧(x=true→0 < e.nk)∧st=⟨[(0,.ptr 0 0 0),(3,.ptr 1 0 0),(4,.ptr 2 0 0),(16,vb x)],[tapeRow n g at',rX18 e,rZX]⟩) ?_ ?_
  · have hx:∃ b,decide (0 < (e.nk:Int))=b:=⟨_,rfl⟩
    obtain ⟨b,hb0⟩:=hx
    repeat' (first|refine gg ?_|exact trivial|with_reducible refine wA ?_ ?_|refine Y2.mk ?_ ?_|refine gh ?_|exact qq|fail)
    rw [hb0]
    cases b
    · repeat' (first|refine gg ?_|exact trivial|with_reducible refine wA ?_ ?_|refine Y2.mk ?_ ?_|(refine pop_gfalse rfl rfl rfl rfl ?_)|refine gh ?_|exact qq|fail)
      refine xdone ?_
      exact kcut (st':=⟨[(0,.ptr 0 0 0),(3,.ptr 1 0 0),(4,.ptr 2 0 0),(16,vb false)],[tapeRow n g at_,rX18 e,rZX]⟩) (can_rowsv [0,1,2] (k0_sel hk rfl) rfl (.cons rfl (RowEq.cl (tape_cl _ _ _)) (.cons rfl (RowEq.cl (rX18_cl e)) (.cons rfl rqq .nil))) tmq) ⟨at_,false,h1,h2,(fun h=>by cases h),rfl⟩
    · have hpos:0 < e.nk:=by simpa using hb0
      repeat' (first|refine gg ?_|exact trivial|with_reducible refine wA ?_ ?_|refine Y2.mk ?_ ?_|(refine pop_opt 13 rfl rfl ?_)|(refine pop_unguard rfl rfl ?_)|(refine tn1 hn ?_;rintro at_ b1 b2 x hx1 hx2)|refine gh ?_|exact qq|fail)
      refine xdone ?_
      exact kcut (st':=⟨[(0,.ptr 0 0 0),(3,.ptr 1 0 0),(4,.ptr 2 0 0),(16,vb _)],[tapeRow n g _,rX18 e,rZX]⟩) (can_rowsv [0,1,2] (k0_sel hk rfl) rfl (.cons rfl (RowEq.cl (tape_cl _ _ _)) (.cons rfl (RowEq.cl (rX18_cl e)) (.cons rfl rqq .nil))) tmq) ⟨_,_,b1,b2,(fun _=>hpos),rfl⟩
  rintro _ ⟨at',x,b1,b2,hx,rfl⟩
  refine pcond rfl ?_ ?_
  · intro hc1
    have hpos:=hx hc1
    repeat' (first|refine gg ?_|exact trivial|with_reducible refine wA ?_ ?_|refine Y2.mk ?_ ?_|(refine tn1 hn ?_;rintro at_ b1 b2 x hx1 hx2)|exact ⟨trivial,(by rw [hk];exact Nat.le_of_ble_eq_true rfl),Nat.le_refl _,(show (0+e.nk) * 104≤140737488355328 from by omega),(show 0+e.nk≤9223372036854775807 from by omega)⟩|refine gh ?_|exact qq|fail)
    have hxk:x.toNat < e.nk:=by omega
    have ihx:SpX c (e.kf (0+x.toNat - 0)):=by rw [show 0+x.toNat - 0=x.toNat by omega];exact ih _ hxk
    repeat' (first|refine gg ?_|exact trivial|with_reducible refine wA ?_ ?_|refine Y2.mk ?_ ?_|(refine t1 ihx hn ?_;rintro at_ _ b1 b2 ⟨e2,rfl,he2⟩)|(refine t2 ihx hn ?_;rintro at_ _ b1 b2 ⟨e2,rfl,he2⟩)|(refine t3 ihx hn ?_;rintro at_ _ b1 b2 ⟨e2,rfl,he2⟩)|refine gh ?_|exact qq|fail)
    rw [Nat.zero_add e.nk,Nat.zero_add x.toNat]
    refine ktapL [4] rfl b1 b2 (by intro l hl;simp at hl;omega) rfl ⟨Nat.zero_lt_one,trivial⟩ (qs:=[vX (Ex.mk e.op e.vn e.vd e.um e.uh e.ud e.nm e.cnt e.mode e.nk (updA e.kf x.toNat e2))]) ⟨argEx' (argLslP rfl trivial (List.Mem.head _) (Nat.le_refl _) fun a ha b hb2=>?_),trivial⟩ ⟨_,rfl,.mk ⟨hv.1,hv.2,hs⟩ (by omega) (fun i hi=>?_),w_upd e (by have:=he2.2;rwa [show 0+x.toNat - 0=x.toNat by omega] at this)⟩
    · show ArgOk _ _ ((cond (Nat.beq a x.toNat) (nthP (cX e2)) (tF cX e.kf a)) b) (nthP (cX (updA e.kf x.toNat e2 a)) b)
      unfold updA
      by_cases e1:a=x.toNat
      · rw [if_pos e1,e1,show Nat.beq x.toNat x.toNat=true from Nat.beq_refl _]
        exact argCl (clL_nth _ b (cX_cl e2))
      · have eb:Nat.beq a x.toNat=false:=by cases hb2:Nat.beq a x.toNat;rfl;exact absurd (Nat.eq_of_beq_eq_true hb2) e1
        rw [if_neg e1,eb,cond_false]
        exact argCl (tF_cl cX_cl e.kf a b)
    · unfold updA
      by_cases e1:i=x.toNat
      · rw [if_pos e1];exact he2.1
      · rw [if_neg e1];exact (hb.k hi).mono (by omega)
  · intro hc1
    repeat' (first|refine gg ?_|exact trivial|with_reducible refine wA ?_ ?_|refine Y2.mk ?_ ?_|refine gh ?_|exact qq|fail)
    exact kcut (st':=⟨[(0,.ptr 0 0 0),(3,.ptr 1 0 0),(4,.ptr 2 0 0)],[tapeRow n g at',rX18 e,rZX]⟩) (can_rowsv [0,1,2] (k0_sel hk rfl) rfl (.cons rfl (RowEq.cl (tape_cl _ _ _)) (.cons rfl (RowEq.cl (rX18_cl e)) (.cons rfl rqq .nil))) tmq) ⟨at',b1,b2,rfl⟩
  · rintro _ ⟨at',b1,b2,rfl⟩
    exact spoil_rest c hc3 hc hE e hb n g hn Γ hk at' b1 b2
theorem spoilW_t (c:Nat) (hc3:3≤c) (hc:c≤100) (e:Ex) (hb:BK c e):SpX c e:=by
  have hE:∀ t,t=t0∨t=tM∨t=tH∨t=tR∨t=tB→TapC G.P 23 [vT t,vi 2,vi 5] (fun r=>∃ e,r=vX e∧BK 3 e∧e.w≤100):=fun t ht=>(expr_t 1 (by omega) t (by simp only [tys5,List.mem_cons,List.not_mem_nil,or_false];exact ht) 5).mono fun r ⟨e,h,he⟩=>⟨e,h,BK.of_valid 32 e (he.vl 32 (by decide)) he.bd,Nat.le_trans (w_valid 2 e (he.vl 2 (by decide))) (by decide)⟩
  induction hb with
  | nil=>exact spoil_one c hc3 hc hE .nil .nil (fun i hi=>absurd hi (Nat.not_lt_zero _))
  | mk h hn hk ih=>exact spoil_one c hc3 hc hE _ (.mk h hn hk) ih
end Go.Proofs.YtcefhgomkehokaaGreat
namespace Go.Proofs.YtcefhgomkehokaaGreat
set_option maxHeartbeats 20000000 in
theorem agr_pay (wild : Bool) (h : Nat) (h1 : 1 ≤ h) (h32 : h ≤ 32) (hX : ∀ t, t ∈ tysA → ∀ rules : Int, TapC G.P 23 [vT t, vi h, vi rules] (fun r => ∃ e, r = vX e ∧ EOk rules (max h 1) t e)) (n : Nat) (g : Nat → Int) (hn : n ≤ 9223372036854775807) (Γ : Fr) (hk : Γ.k0 = 1) (at_ : Int) (k : Nat) (l : List Df) (b1 : 0 ≤ at_) (b2 : at_ ≤ n) (hlk : l.length = k + 1) (hA : AB wild h 16 l) :
    PWp G.toPg Tryz.f6.ntmps Γ (dropS 7 (Tryz.f6.body.getD .skip)) ⟨[(0,.ptr 0 0 0),(1,vi h),(6,.ptr 1 0 0),(7,.ptr 2 0 0)],[tapeRow n g at_,rZA,rA (k+1) 3,vRow cD 21 (k+1) (lF dD l)]⟩ (KretR Tryz.f6.ntmps Γ G.tab Tryz.f6.results.toList 1 (agrPost wild h n g)):=by
  have hM:=hX tM (by simp [tysA])
  repeat' (first|refine gg ?_|exact trivial|with_reducible refine wA ?_ ?_|refine Y2.mk ?_ ?_|refine gh ?_|exact qq|fail)
  refine pcan (st':=⟨[(0,.ptr 0 0 0),(1,vi h),(6,.ptr 1 0 0),(7,.ptr 2 0 0),(13,vi 0)],[tapeRow n g at_,rZA,rA (k+1) 3,vRow cD 21 (k+1) (lF dD l)]⟩) (can_rowsv [0,1,2,3] (k0_sel hk rfl) rfl (.cons rfl (RowEq.cl (tape_cl _ _ _)) (.cons rfl rqq (.cons rfl rqq (.cons rfl (RowEq.cl (v_cl cD_cl _ _ _)) .nil)))) tmq) ?_
  refine pcutx (fun st=>∃ (at' : Int) (k:Nat) (l:List Df),0≤at'∧at'≤n∧l.length=k+1∧AGood wild h l∧st=⟨[(0,.ptr 0 0 0),(6,.ptr 1 0 0),(7,.ptr 2 0 0)],[tapeRow n g at',rZA,rA (k+1) 3,vRow cD 21 (k+1) (lF dD l)]⟩) ?_ (by rintro _ ⟨at',k,l,b1,b2,hlk,hA,rfl⟩;exact agr_swap wild h n g hn Γ hk at' k l b1 b2 hlk hA)
  refine ploop (fun q st=>∃ (at' : Int) (v k:Nat) (l:List Df),0≤at'∧at'≤n∧v≤2∧q=2 - v∧l.length=k+1∧AB wild h (16+v) l∧st=⟨[(0,.ptr 0 0 0),(1,vi h),(6,.ptr 1 0 0),(7,.ptr 2 0 0),(13,vi v)],[tapeRow n g at',rZA,rA (k+1) 3,vRow cD 21 (k+1) (lF dD l)]⟩) 2 ⟨at_,0,k,l,b1,b2,by omega,rfl,hlk,hA,rfl⟩ ?_
  clear hlk hA b1 b2
  rintro _ _ ⟨at',v,k,l,b1,b2,hv,rfl,hlk,hA,rfl⟩
  have hkl:=hA.len
  repeat' (first|refine gg ?_|exact trivial|with_reducible refine wA ?_ ?_|refine Y2.mk ?_ ?_|(refine tn1 hn ?_;rintro at_ b1 b2 x hx1 hx2)|refine gh ?_|exact qq|fail)
  refine pcond rfl ?_ ?_<;>intro hc4<;>simp at hc4
  · have hv1:v≤1:=by omega
    have hwv:IntKind.i64.wrap ((v:Int)+1)=((v+1:Nat):Int):=w64 (by omega) (by omega)
    obtain ⟨ht1,ht2,ht3⟩:=pay_tab3 hv1
    clear hx1 hx2 hc4
    repeat' (first|refine gg ?_|exact trivial|with_reducible refine wA ?_ ?_|refine Y2.mk ?_ ?_|refine xs_startH (id:=20) [1,2] false [.take 0,.take 1,.take 3,.take 6,.take 8,.take 9,.take 10,.take 12,.take 14,.take 15,.take 16,.take 18,.take 7] 14 rfl (by kernel_rfl) ?_|refine BrAll.cons ?_ ?_|exact BrAll.nil|refine xs_brT (n:=27) [0,1,3,6,7,8,9,10,12,14,15,16,18] [(2,[.take 4],false,12),(11,[],false,13),(17,[],false,13)] (by decide +kernel) rfl (by kernel_rfl) (by kernel_rfl) ?_|refine xs_brT (n:=27) [0,1,3,6,7,8,9,10,12,14,15,16,17,18] [(2,[.take 4],false,11),(11,[],false,12)] (by decide +kernel) rfl (by kernel_rfl) (by kernel_rfl) ?_|refine xs_brT (n:=27) [0,1,3,6,7,8,9,10,11,12,14,15,16,17,18] [(2,[.take 4],false,10),(13,[],false,11)] (by decide +kernel) rfl (by kernel_rfl) (by kernel_rfl) ?_|refine xs_brT (n:=27) [0,1,3,6,7,8,9,10,11,12,13,14,15,16,17,18] [(2,[.take 4],false,9),(19,[.take 20],false,9)] (by decide +kernel) rfl (by kernel_rfl) (by kernel_rfl) ?_|refine xs_brT (n:=27) [0,1,3,6,7,8,9,10,11,12,14,15,16,18] [(2,[.take 4],false,11),(13,[],false,12),(17,[],false,12)] (by decide +kernel) rfl (by kernel_rfl) (by kernel_rfl) ?_|refine xs_brT (n:=27) [0,1,3,6,7,8,9,10,11,12,13,14,15,16,18] [(2,[.take 4],false,10),(17,[],false,11),(19,[],false,11)] (by decide +kernel) rfl (by kernel_rfl) (by kernel_rfl) ?_|refine xs_brT (n:=27) [0,1,3,6,7,8,9,10,11,12,13,14,15,16,18,19] [(2,[.take 4],false,9),(17,[.take 20],false,9)] (by decide +kernel) rfl (by kernel_rfl) (by kernel_rfl) ?_|refine xs_brT (n:=27) [0,1,2,3,4,5,6,7,8,9,10,11,12,13,14,15,16,18] [(17,[.one 19,.take 20],false,6),(19,[.one 17,.take 20],false,6)] (by decide +kernel) rfl (by kernel_rfl) (by kernel_rfl) ?_|refine xs_brT (n:=27) [0,1,2,3,4,5,6,7,8,9,10,11,12,14,15,16,18] [(13,[],false,9),(17,[.one 13,.one 19,.take 20],false,6)] (by decide +kernel) rfl (by kernel_rfl) (by kernel_rfl) ?_|refine xs_brT (n:=27) [0,1,2,3,4,5,6,7,8,9,10,12,14,15,16,18] [(11,[],false,10),(17,[.one 11,.one 13,.one 19,.take 20],false,6)] (by decide +kernel) rfl (by kernel_rfl) (by kernel_rfl) ?_|refine xs_moreF (sch:=[.take 5]) (fin:=false) (m':=11) (n:=27) [0,1,2,3,4,6,7,8,9,10,12,14,15,16,18] (by decide +kernel) (by kernel_rfl) ?_|refine xs_moreF (sch:=[]) (fin:=false) (m':=11) (n:=27) [0,1,2,3,4,5,6,7,8,9,10,12,14,15,16,18] (by decide +kernel) (by kernel_rfl) ?_|refine xs_moreF (sch:=[.take 5]) (fin:=false) (m':=10) (n:=27) [0,1,2,3,4,6,7,8,9,10,12,14,15,16,17,18] (by decide +kernel) (by kernel_rfl) ?_|refine xs_moreF (sch:=[.one 11,.one 13,.one 19,.take 20]) (fin:=false) (m':=6) (n:=27) [0,1,2,3,4,5,6,7,8,9,10,12,14,15,16,17,18] (by decide +kernel) (by kernel_rfl) ?_|refine xs_moreF (sch:=[.take 21]) (fin:=false) (m':=5) (n:=27) [0,1,2,3,4,5,6,7,8,9,10,11,12,13,14,15,16,17,18,19,20] (by decide +kernel) (by kernel_rfl) ?_|refine xs_moreF (sch:=[.take 22,.one 23,.one 24,.take 25,.one 26]) (fin:=true) (m':=0) (n:=27) [0,1,2,3,4,5,6,7,8,9,10,11,12,13,14,15,16,17,18,19,20,21] (by decide +kernel) (by kernel_rfl) ?_|refine xs_moreF (sch:=[.take 5]) (fin:=false) (m':=9) (n:=27) [0,1,2,3,4,6,7,8,9,10,11,12,14,15,16,17,18] (by decide +kernel) (by kernel_rfl) ?_|refine xs_moreF (sch:=[.one 13,.one 19,.take 20]) (fin:=false) (m':=6) (n:=27) [0,1,2,3,4,5,6,7,8,9,10,11,12,14,15,16,17,18] (by decide +kernel) (by kernel_rfl) ?_|refine xs_moreF (sch:=[.take 5]) (fin:=false) (m':=8) (n:=27) [0,1,2,3,4,6,7,8,9,10,11,12,13,14,15,16,17,18] (by decide +kernel) (by kernel_rfl) ?_|refine xs_moreF (sch:=[.one 19,.take 20]) (fin:=false) (m':=6) (n:=27) [0,1,2,3,4,5,6,7,8,9,10,11,12,13,14,15,16,17,18] (by decide +kernel) (by kernel_rfl) ?_|refine xs_moreF (sch:=[.take 21]) (fin:=false) (m':=8) (n:=27) [0,1,3,6,7,8,9,10,11,12,13,14,15,16,17,18,19,20] (by decide +kernel) (by kernel_rfl) ?_|refine xs_moreF (sch:=[.one 2,.take 4]) (fin:=false) (m':=6) (n:=27) [0,1,3,6,7,8,9,10,11,12,13,14,15,16,17,18,19,20,21] (by decide +kernel) (by kernel_rfl) ?_|refine xs_moreF (sch:=[.take 5]) (fin:=false) (m':=5) (n:=27) [0,1,2,3,4,6,7,8,9,10,11,12,13,14,15,16,17,18,19,20,21] (by decide +kernel) (by kernel_rfl) ?_|refine xs_moreF (sch:=[.take 5]) (fin:=false) (m':=10) (n:=27) [0,1,2,3,4,6,7,8,9,10,11,12,14,15,16,18] (by decide +kernel) (by kernel_rfl) ?_|refine xs_moreF (sch:=[]) (fin:=false) (m':=10) (n:=27) [0,1,2,3,4,5,6,7,8,9,10,11,12,14,15,16,18] (by decide +kernel) (by kernel_rfl) ?_|refine xs_moreF (sch:=[.take 5]) (fin:=false) (m':=9) (n:=27) [0,1,2,3,4,6,7,8,9,10,11,12,13,14,15,16,18] (by decide +kernel) (by kernel_rfl) ?_|refine xs_moreF (sch:=[]) (fin:=false) (m':=9) (n:=27) [0,1,2,3,4,5,6,7,8,9,10,11,12,13,14,15,16,18] (by decide +kernel) (by kernel_rfl) ?_|refine xs_moreF (sch:=[.take 5]) (fin:=false) (m':=8) (n:=27) [0,1,2,3,4,6,7,8,9,10,11,12,13,14,15,16,18,19] (by decide +kernel) (by kernel_rfl) ?_|refine xs_moreF (sch:=[.one 17,.take 20]) (fin:=false) (m':=6) (n:=27) [0,1,2,3,4,5,6,7,8,9,10,11,12,13,14,15,16,18,19] (by decide +kernel) (by kernel_rfl) ?_|refine ⟨_,[],true,rfl,rfl,stepOp_pst rfl ?_ ?_⟩|(refine xs_takeR rfl rfl rfl rfl (pread_cell (q:=vs (lF ⟨#[]⟩ nmsP v)) rfl rfl rfl rfl rfl (nmP_row hv1)) rfl (show (0+((v:Nat):Int).toNat) < 2 from by omega) ?_)|(refine xs_takeR rfl rfl rfl rfl (pread_aggs2 (q:=[vi (lF dS stepL x.toNat).1,vi (lF dS stepL x.toNat).2]) rfl rfl rfl rfl rfl rfl (st3_row hx1 hx2)) rfl (show 0+x.toNat < 3 from by omega) ?_)|exact ⟨Nat.le_refl _,(by rw [hk];exact Nat.le_of_ble_eq_true rfl),Nat.le_of_eq (Nat.zero_add _),(show (_:Nat) * 216≤140737488355328 from by omega),(show (_:Nat)≤9223372036854775807 from by omega)⟩|(refine t1 ((hM _)) hn ?_;rintro at_ _ b1 b2 ⟨e,rfl,he⟩)|(refine t2 ((hM _)) hn ?_;rintro at_ _ b1 b2 ⟨e,rfl,he⟩)|(refine t3 ((hM _)) hn ?_;rintro at_ _ b1 b2 ⟨e,rfl,he⟩)|(refine tn3 hn ?_;rintro at_ b1 b2 x hx1 hx2)|(refine tn2 hn ?_;rintro at_ b1 b2 x hx1 hx2)|refine zz money_c ?_|refine gh ?_|exact qq|refine xs_growN 4 rfl rfl trivial ?_|refine xs_growN 5 rfl rfl trivial ?_|fail)
    all_goals
      rename_i at1 c1 c2 xm hm1 hm2
      refine xdone ?_
      rw [hwv]
      exact kloop_next (st':=⟨[(0,.ptr 0 0 0),(1,vi h),(6,.ptr 1 0 0),(7,.ptr 2 0 0),(13,vi ((v+1:Nat):Int))],[tapeRow n g _,rZA,rA (k+1+1) 3,vRow cD 21 (k+1+1) (lF dD (l ++ [dP (lF ⟨#[]⟩ nmsP v) e xm (lF dS stepL x.toNat)]))]⟩) (2 - (v+1)) (can_rowsv [0,1,2,7] (k0_sel hk rfl) rfl (.cons rfl (RowEq.cl (tape_cl _ _ _)) (.cons rfl rqq (.cons rfl rqq (.cons rfl (app_p cD_cl (by assumption) (fun b hb=>by rcases split21 hb with rfl|rfl|rfl|rfl|rfl|rfl|rfl|rfl|rfl|rfl|rfl|rfl|rfl|rfl|rfl|rfl|rfl|rfl|rfl|rfl|rfl<;>first|exact PEq.refl _|exact peq_nil) rfl) .nil)))) tmq) (by omega) ⟨_,v+1,k+1,_,by assumption,by assumption,by omega,rfl,by rw [List.length_append,hlk];rfl,hA.snoc (by omega) (d:=dP (lF ⟨#[]⟩ nmsP v) e xm (lF dS stepL x.toNat)) ht3.symm (gd_pay (he.mono (by omega)) (pay_rho hv1) h32 ht1 ht2 (by omega) (st3_mem hx1 hx2)),rfl⟩
  · repeat' (first|refine gg ?_|exact trivial|with_reducible refine wA ?_ ?_|refine Y2.mk ?_ ?_|refine gh ?_|exact qq|fail)
    refine kblock_hit rfl ?_
    exact kcut (st':=⟨[(0,.ptr 0 0 0),(6,.ptr 1 0 0),(7,.ptr 2 0 0)],[tapeRow n g _,rZA,rA (k+1) 3,vRow cD 21 (k+1) (lF dD l)]⟩) (can_rowsv [0,1,2,3] (k0_sel hk rfl) rfl (.cons rfl (RowEq.cl (tape_cl _ _ _)) (.cons rfl rqq (.cons rfl rqq (.cons rfl (RowEq.cl (v_cl cD_cl _ _ _)) .nil)))) tmq) ⟨_,k,l,by assumption,by assumption,hlk,(by
      rcases (by omega:v=1∨v=2) with rfl|rfl
      · exact (hA.skip (by omega) (.inr rfl)).good
      · exact hA.good),rfl⟩
end Go.Proofs.YtcefhgomkehokaaGreat
namespace Go.Proofs.YtcefhgomkehokaaGreat
set_option maxHeartbeats 8000000 in
theorem agreement_r (h:Nat) (h1:1≤h) (h32:h≤32) (hX:∀ t,t ∈ tysA→∀ rules:Int,TapC G.P 23 [vT t,vi h,vi rules] (fun r=>∃ e,r=vX e∧EOk rules (max h 1) t e)) (wild:Bool) (n:Nat) (g:Nat→Int) (at_:Int) (hn:n≤9223372036854775807) (h1' : 0≤at_) (h2' : at_≤n):RowsC G.P 6 [tapeRow n g at_] [.ptr 0 0 0,vi h,vb wild] (agrPost wild h n g):=by
  refine rows_of (G:=G.toPg) (fn:=Tryz.f6) Tryz.func6 rfl rfl rfl ?_;intro Γ hk
  replace hk:Γ.k0=1:=hk
  repeat' (first|refine gg ?_|exact trivial|with_reducible refine wA ?_ ?_|refine Y2.mk ?_ ?_|refine zz number_c ?_|refine zz money_c ?_|refine zz hours_c ?_|refine zz rate_c ?_|refine zz truth_c ?_|refine gh ?_|exact qq|fail)
  refine pcan (st':=⟨[(0,.ptr 0 0 0),(1,vi h),(2,vb wild),(6,.ptr 1 0 0),(7,.ptr 2 0 0)],[tapeRow n g at_,rZA,rA 5 3,vRow cD 21 5 (lF dD ins5)]⟩) (can_rowsv [0,1,2,3] (k0_sel hk rfl) rfl (.cons rfl (RowEq.cl (tape_cl _ _ _)) (.cons rfl rqq (.cons rfl rqq (.cons rfl (o_eqP (Nat.le_refl _) fun a ha b hb=>by
    rcases (by omega:a=0∨a=1∨a=2∨a=3∨a=4) with rfl|rfl|rfl|rfl|rfl<;>rcases split21 hb with rfl|rfl|rfl|rfl|rfl|rfl|rfl|rfl|rfl|rfl|rfl|rfl|rfl|rfl|rfl|rfl|rfl|rfl|rfl|rfl|rfl<;>first|exact PEq.refl _|exact peq_nil) .nil)))) tmq) ?_
  repeat' (first|refine gg ?_|exact trivial|with_reducible refine wA ?_ ?_|refine Y2.mk ?_ ?_|refine xs_startH (id:=3) [1,2] true [.take 0,.take 1,.take 2,.take 5,.one 3,.one 4,.one 6,.one 7,.one 8,.one 9,.take 10,.one 11] 0 rfl (by kernel_rfl) ?_|(exact ⟨Nat.le_refl _,(by rw [hk];exact Nat.le_of_ble_eq_true rfl),Nat.le_of_ble_eq_true rfl,Nat.le_of_ble_eq_true rfl,Nat.le_of_ble_eq_true rfl⟩)|(refine t1 ((scale_t n_w tR 20454)) hn ?_;rintro at_ _ b1 b2 ⟨d1,rfl,hd1⟩)|(refine t2 ((scale_t n_w tR 20454)) hn ?_;rintro at_ _ b1 b2 ⟨d1,rfl,hd1⟩)|(refine t3 ((scale_t n_w tR 20454)) hn ?_;rintro at_ _ b1 b2 ⟨d1,rfl,hd1⟩)|(refine t1 ((scale_t n_s t0 20454)) hn ?_;rintro at_ _ b1 b2 ⟨d2,rfl,hd2⟩)|(refine t2 ((scale_t n_s t0 20454)) hn ?_;rintro at_ _ b1 b2 ⟨d2,rfl,hd2⟩)|(refine t3 ((scale_t n_s t0 20454)) hn ?_;rintro at_ _ b1 b2 ⟨d2,rfl,hd2⟩)|(refine tn1 hn ?_;rintro at_ b1 b2 x hx1 hx2)|refine zz number_c ?_|refine zz money_c ?_|refine zz hours_c ?_|refine zz rate_c ?_|refine zz truth_c ?_|refine gh ?_|exact qq|fail)
  have hB:=(((ab5 wild h).snoc (by omega) (d:=d1) (by rw [hd1.eq];rfl) (gd_sc hd1 mm (by decide) (by decide) rfl (by decide))).snoc (by omega) (d:=d2) (by rw [hd2.eq];rfl) (gd_sc hd2 mm (by decide) (by decide) rfl (by decide)))
  refine pcan (st':=⟨[(0,.ptr 0 0 0),(1,vi h),(2,vb wild),(6,.ptr 1 0 0),(7,.ptr 2 0 0),(42,vb (decide (x=0)))],[tapeRow n g at_,rZA,rA 7 3,vRow cD 21 7 (lF dD (ins5 ++ [d1,d2]))]⟩) (can_rowsv [0,1,2,5] (k0_sel hk rfl) rfl (.cons rfl (RowEq.cl (tape_cl _ _ _)) (.cons rfl rqq (.cons rfl rqq (.cons rfl (app_2 cD_cl (l:=ins5) rfl (fun _=>rfl) rfl rfl) .nil)))) tmq) ?_
  refine pcut (fun st=>∃ (at' : Int) (k:Nat) (l:List Df),0≤at'∧at'≤n∧l.length=k+1∧AB wild h 8 l∧st=⟨[(0,.ptr 0 0 0),(1,vi h),(2,vb wild),(6,.ptr 1 0 0),(7,.ptr 2 0 0)],[tapeRow n g at',rZA,rA (k+1) 3,vRow cD 21 (k+1) (lF dD l)]⟩) (pcond rfl ?_ ?_) ?_
  · intro hc
    repeat' (first|refine gg ?_|exact trivial|with_reducible refine wA ?_ ?_|refine Y2.mk ?_ ?_|refine xs_startH (id:=5) [1,2] true [.take 0,.take 1,.take 2,.one 3,.one 4,.one 5,.one 6,.take 7,.one 8] 0 rfl (by kernel_rfl) ?_|(exact ⟨Nat.le_refl _,(by rw [hk];exact Nat.le_of_ble_eq_true rfl),Nat.le_of_ble_eq_true rfl,Nat.le_of_ble_eq_true rfl,Nat.le_of_ble_eq_true rfl⟩)|(refine t1 ((scale_t n_w tR 20459)) hn ?_;rintro at_ _ b1 b2 ⟨d3,rfl,hd3⟩)|(refine t2 ((scale_t n_w tR 20459)) hn ?_;rintro at_ _ b1 b2 ⟨d3,rfl,hd3⟩)|(refine t3 ((scale_t n_w tR 20459)) hn ?_;rintro at_ _ b1 b2 ⟨d3,rfl,hd3⟩)|refine zz number_c ?_|refine zz money_c ?_|refine zz hours_c ?_|refine zz rate_c ?_|refine zz truth_c ?_|refine gh ?_|exact qq|fail)
    exact kcut (st':=⟨[(0,.ptr 0 0 0),(1,vi h),(2,vb wild),(6,.ptr 1 0 0),(7,.ptr 2 0 0)],[tapeRow n g _,rZA,rA (7+1) 3,vRow cD 21 (7+1) (lF dD ((ins5 ++ [d1,d2]) ++ [d3]))]⟩) (can_rowsv [0,1,2,5] (k0_sel hk rfl) rfl (.cons rfl (RowEq.cl (tape_cl _ _ _)) (.cons rfl rqq (.cons rfl rqq (.cons rfl (app_l cD_cl (l:=ins5 ++ [d1,d2]) rfl rfl rfl) .nil)))) tmq) ⟨_,7,_,b1,b2,rfl,hB.snoc (by omega) (d:=d3) (by rw [hd3.eq];rfl) (gd_sc hd3 mm (by decide) (by decide) rfl (by decide)),rfl⟩
  · intro hc
    repeat' (first|refine gg ?_|exact trivial|with_reducible refine wA ?_ ?_|refine Y2.mk ?_ ?_|refine gh ?_|exact qq|fail)
    exact kcut (st':=⟨[(0,.ptr 0 0 0),(1,vi h),(2,vb wild),(6,.ptr 1 0 0),(7,.ptr 2 0 0)],[tapeRow n g at_,rZA,rA (6+1) 3,vRow cD 21 (6+1) (lF dD (ins5 ++ [d1,d2]))]⟩) (can_rowsv [0,1,2,3] (k0_sel hk rfl) rfl (.cons rfl (RowEq.cl (tape_cl _ _ _)) (.cons rfl rqq (.cons rfl rqq (.cons rfl (RowEq.cl (v_cl cD_cl _ _ _)) .nil)))) tmq) ⟨_,6,_,b1,b2,rfl,hB.skip (by omega) (.inl ks_w),rfl⟩
  rintro _ ⟨at',k,l,b1,b2,hlk,hA,rfl⟩
  repeat' (first|refine gg ?_|exact trivial|with_reducible refine wA ?_ ?_|refine Y2.mk ?_ ?_|refine zz number_c ?_|refine zz money_c ?_|refine zz hours_c ?_|refine zz rate_c ?_|refine zz truth_c ?_|refine gh ?_|exact qq|fail)
  refine pcan (st':=⟨[(0,.ptr 0 0 0),(1,vi h),(2,vb wild),(6,.ptr 1 0 0),(7,.ptr 2 0 0),(8,.lsl 4 0 4),(9,.lsl 5 0 4),(10,vi 0)],[tapeRow n g at',rZA,rA (k+1) 3,vRow cD 21 (k+1) (lF dD l),oRow cSt 1 4 (lF ⟨#[]⟩ nmsR),oRow cT 4 4 (lF t0 tysR)]⟩) (can_rowsv [0,1,2,3,4,5] (k0_sel hk rfl) rfl (.cons rfl (RowEq.cl (tape_cl _ _ _)) (.cons rfl rqq (.cons rfl rqq (.cons rfl (RowEq.cl (v_cl cD_cl _ _ _)) (.cons rfl (o_eq cSt_cl (Nat.le_refl _) fun a ha b hb=>by
    have ha:a < 4:=ha
    have hb:b < 1:=hb
    obtain rfl:b=0:=by omega
    rcases (by omega:a=0∨a=1∨a=2∨a=3) with rfl|rfl|rfl|rfl<;>rfl) (.cons rfl (o_eq cT_cl (Nat.le_refl _) fun a ha b hb=>by
    have ha:a < 4:=ha
    have hb:b < 4:=hb
    rcases (by omega:a=0∨a=1∨a=2∨a=3) with rfl|rfl|rfl|rfl<;>rcases (by omega:b=0∨b=1∨b=2∨b=3) with rfl|rfl|rfl|rfl<;>rfl) .nil)))))) tmq) ?_
  refine pcutx (fun st=>∃ (at' : Int) (k:Nat) (l:List Df),0≤at'∧at'≤n∧l.length=k+1∧AB wild h 16 l∧st=⟨[(0,.ptr 0 0 0),(1,vi h),(6,.ptr 1 0 0),(7,.ptr 2 0 0)],[tapeRow n g at',rZA,rA (k+1) 3,vRow cD 21 (k+1) (lF dD l)]⟩) ?_ (by rintro _ ⟨at',k,l,b1,b2,hlk,hA,rfl⟩;exact agr_pay wild h h1 h32 hX n g hn Γ hk at' k l b1 b2 hlk hA)
  refine ploop (fun q st=>∃ (b:Bool) (at' : Int) (i k:Nat) (l:List Df),0≤at'∧at'≤n∧i≤4∧q=4 - i∧l.length=k+1∧AB wild h (8+2 * i) l∧(b=true→wild=true)∧st=⟨[(0,.ptr 0 0 0),(1,vi h),(2,vb b),(6,.ptr 1 0 0),(7,.ptr 2 0 0),(8,.lsl 4 0 4),(9,.lsl 5 0 4),(10,vi i)],[tapeRow n g at',rZA,rA (k+1) 3,vRow cD 21 (k+1) (lF dD l),oRow cSt 1 4 (lF ⟨#[]⟩ nmsR),oRow cT 4 4 (lF t0 tysR)]⟩) 4 ⟨wild,at',0,k,l,b1,b2,by omega,rfl,hlk,hA,id,rfl⟩ ?_
  clear hlk hA b1 b2
  rintro _ _ ⟨b,at',i,k,l,b1,b2,hi,rfl,hlk,hA,hbw,rfl⟩
  repeat' (first|refine gg ?_|exact trivial|with_reducible refine wA ?_ ?_|refine Y2.mk ?_ ?_|refine gh ?_|exact qq|fail)
  refine pcond rfl ?_ ?_<;>intro hc<;>simp at hc
  · have hwi:IntKind.i64.wrap ((i:Int)+1)=((i+1:Nat):Int):=w64 (by omega) (by omega)
    have i0:0+(i:Int).toNat=i:=by omega
    have iX:∀ rules:Int,TapC G.P 23 [vT (lF t0 tysR (0+(i:Int).toNat)),vi h,vi rules] (fun r=>∃ e,r=vX e∧EOk rules (max h 1) (lF t0 tysR i) e):=fun rules=>by rw [i0];exact hX _ (rule_ty (by omega)) rules
    rcases b with _|_
    all_goals
      repeat' (first|refine gg ?_|exact trivial|with_reducible refine wA ?_ ?_|refine Y2.mk ?_ ?_|(refine pop_gfalse rfl rfl rfl rfl ?_)|(refine pop_opt 65 rfl rfl ?_)|(refine pop_unguard rfl rfl ?_)|(refine tn1 hn ?_;rintro at_ b1 b2 x hx1 hx2)|refine gh ?_|(refine pcond rfl ?_ ?_<;>intro hc)|exact qq|fail)
    all_goals
      refine pcan (st':=⟨[(0,.ptr 0 0 0),(1,vi h),(2,vb _),(6,.ptr 1 0 0),(7,.ptr 2 0 0),(8,.lsl 4 0 4),(9,.lsl 5 0 4),(10,vi i),(11,vi _),(12,vi 0)],[tapeRow n g _,rZA,rA (k+1) 3,vRow cD 21 (k+1) (lF dD l),oRow cSt 1 4 (lF ⟨#[]⟩ nmsR),oRow cT 4 4 (lF t0 tysR)]⟩) (can_rowsv [0,1,2,3,4,5] (k0_sel hk rfl) rfl (.cons rfl (RowEq.cl (tape_cl _ _ _)) (.cons rfl rqq (.cons rfl rqq (.cons rfl (RowEq.cl (v_cl cD_cl _ _ _)) (.cons rfl (RowEq.cl (o_cl cSt_cl _ _ _)) (.cons rfl (RowEq.cl (o_cl cT_cl _ _ _)) .nil)))))) tmq) ?_
      refine ploop (fun q st=>∃ (b:Bool) (at' rules:Int) (v k:Nat) (l:List Df),0≤at'∧at'≤n∧v≤2∧q=2 - v∧l.length=k+1∧AB wild h (8+2 * i+v) l∧rules≤rhoD wild (lF ⟨#[]⟩ nmsR i)∧(b=true→wild=true)∧st=⟨[(0,.ptr 0 0 0),(1,vi h),(2,vb b),(6,.ptr 1 0 0),(7,.ptr 2 0 0),(8,.lsl 4 0 4),(9,.lsl 5 0 4),(10,vi i),(11,vi rules),(12,vi v)],[tapeRow n g at',rZA,rA (k+1) 3,vRow cD 21 (k+1) (lF dD l),oRow cSt 1 4 (lF ⟨#[]⟩ nmsR),oRow cT 4 4 (lF t0 tysR)]⟩) 2 ⟨_,_,_,0,k,l,by assumption,by assumption,by omega,rfl,hlk,hA,(by first|exact rule_rho (by omega)|exact rule_rho5 (hbw rfl)),hbw,rfl⟩ ?_
      clear hlk hA b1 b2 hbw
      rintro _ _ ⟨b,at',rules,v,k,l,b1,b2,hv,rfl,hlk,hA,hρ,hbw,rfl⟩
      have hkl:=hA.len
      have iX:=iX rules
      repeat' (first|refine gg ?_|exact trivial|with_reducible refine wA ?_ ?_|refine Y2.mk ?_ ?_|(exact (show ¬ (2:Int)=0 from by decide))|(refine tn1 hn ?_;rintro at_ b1 b2 x hx1 hx2)|refine gh ?_|exact qq|fail)
      have hwq:IntKind.i64.wrap (x.tdiv 2)=x.tdiv 2:=by
        have:x.tdiv 2=x / 2:=Int.tdiv_eq_ediv_of_nonneg hx1
        rw [this];exact w64 (by omega) (by omega)
      have htd:x.tdiv 2=x / 2:=Int.tdiv_eq_ediv_of_nonneg hx1
      refine pcond rfl ?_ ?_<;>intro hc4<;>simp at hc4
      · have hv1:v≤1:=by omega
        have hwv:IntKind.i64.wrap ((v:Int)+1)=((v+1:Nat):Int):=w64 (by omega) (by omega)
        have hwd:IntKind.i64.wrap (20454+IntKind.i64.wrap (5 * (v:Int)))=20454+5 * (v:Int):=by rw [w64 (n:=5 * (v:Int)) (by omega) (by omega),w64 (by omega) (by omega)]
        repeat' (first|refine gg ?_|exact trivial|with_reducible refine wA ?_ ?_|refine Y2.mk ?_ ?_|refine xs_startH (id:=16) [1,2,4,5] true [.take 0,.take 1,.take 2,.take 3,.take 4,.take 5,.take 6,.take 7,.take 8,.take 9,.take 10,.take 11,.take 12,.take 13,.take 14,.take 15,.take 16,.take 17,.take 18,.take 19,.one 20,.take 21,.one 22,.one 23,.take 24,.one 25] 0 rfl (by kernel_rfl) ?_|exact ⟨Nat.le_refl _,(by rw [hk];exact Nat.le_of_ble_eq_true rfl),Nat.le_of_eq (Nat.zero_add _),(show (_:Nat) * 216≤140737488355328 from by omega),(show (_:Nat)≤9223372036854775807 from by omega)⟩|(refine t1 iX hn ?_;rintro at_ _ b1 b2 ⟨e,rfl,he⟩)|(refine t2 iX hn ?_;rintro at_ _ b1 b2 ⟨e,rfl,he⟩)|(refine t3 iX hn ?_;rintro at_ _ b1 b2 ⟨e,rfl,he⟩)|refine gh ?_|exact qq|fail)
        refine xdone ?_
        rw [hwv,hwd,i0]
        have ht:=rule_tab (i:=i) (by omega)
        have hks:=ks_rule (i:=i) (v:=v) (by omega) (by omega)
        exact kloop_next (st':=⟨[(0,.ptr 0 0 0),(1,vi h),(2,vb b),(6,.ptr 1 0 0),(7,.ptr 2 0 0),(8,.lsl 4 0 4),(9,.lsl 5 0 4),(10,vi i),(11,vi rules),(12,vi ((v+1:Nat):Int))],[tapeRow n g _,rZA,rA (k+1+1) 3,vRow cD 21 (k+1+1) (lF dD (l ++ [dR (lF ⟨#[]⟩ nmsR i) (lF t0 tysR i) (20454+5 * v) e])),oRow cSt 1 4 (lF ⟨#[]⟩ nmsR),oRow cT 4 4 (lF t0 tysR)]⟩) (2 - (v+1)) (can_rowsv [0,1,2,7,4,5] (k0_sel hk rfl) rfl (.cons rfl (RowEq.cl (tape_cl _ _ _)) (.cons rfl rqq (.cons rfl rqq (.cons rfl (app_p cD_cl (by assumption) (fun b hb=>by rcases split21 hb with rfl|rfl|rfl|rfl|rfl|rfl|rfl|rfl|rfl|rfl|rfl|rfl|rfl|rfl|rfl|rfl|rfl|rfl|rfl|rfl|rfl<;>first|exact PEq.refl _|exact peq_nil) rfl) (.cons rfl (RowEq.cl (o_cl cSt_cl _ _ _)) (.cons rfl (RowEq.cl (o_cl cT_cl _ _ _)) .nil)))))) tmq) (by omega) ⟨b,_,rules,v+1,k+1,_,by assumption,by assumption,by omega,rfl,by rw [List.length_append,hlk];rfl,hA.snoc (by omega) (d:=dR (lF ⟨#[]⟩ nmsR i) (lF t0 tysR i) (20454+5 * v) e) hks.symm (gd_rule (he.mono (by omega)) hρ h32 ht.1 ht.2.1 ht.2.2 (by omega)),hρ,hbw,rfl⟩
      · repeat' (first|refine gg ?_|exact trivial|with_reducible refine wA ?_ ?_|refine Y2.mk ?_ ?_|refine gh ?_|exact qq|fail)
        rw [hwi]
        exact kloop_next (st':=⟨[(0,.ptr 0 0 0),(1,vi h),(2,vb b),(6,.ptr 1 0 0),(7,.ptr 2 0 0),(8,.lsl 4 0 4),(9,.lsl 5 0 4),(10,vi ((i+1:Nat):Int))],[tapeRow n g _,rZA,rA (k+1) 3,vRow cD 21 (k+1) (lF dD l),oRow cSt 1 4 (lF ⟨#[]⟩ nmsR),oRow cT 4 4 (lF t0 tysR)]⟩) (4 - (i+1)) (can_rowsv [0,1,2,3,4,5] (k0_sel hk rfl) rfl (.cons rfl (RowEq.cl (tape_cl _ _ _)) (.cons rfl rqq (.cons rfl rqq (.cons rfl (RowEq.cl (v_cl cD_cl _ _ _)) (.cons rfl (RowEq.cl (o_cl cSt_cl _ _ _)) (.cons rfl (RowEq.cl (o_cl cT_cl _ _ _)) .nil)))))) tmq) (by omega) ⟨b,_,i+1,k,l,by assumption,by assumption,by omega,rfl,hlk,(by
          rcases (by omega:v=1∨v=2) with rfl|rfl
          · exact hA.skip (by omega) (.inl (ks_skip (by omega)))
          · exact hA),hbw,rfl⟩
  · obtain rfl:i=4:=by omega
    repeat' (first|refine gg ?_|exact trivial|with_reducible refine wA ?_ ?_|refine Y2.mk ?_ ?_|refine gh ?_|exact qq|fail)
    refine kblock_hit rfl ?_
    exact kcut (st':=⟨[(0,.ptr 0 0 0),(1,vi h),(6,.ptr 1 0 0),(7,.ptr 2 0 0)],[tapeRow n g at',rZA,rA (k+1) 3,vRow cD 21 (k+1) (lF dD l)]⟩) (can_rowsv [0,1,2,3] (k0_sel hk rfl) rfl (.cons rfl (RowEq.cl (tape_cl _ _ _)) (.cons rfl rqq (.cons rfl rqq (.cons rfl (RowEq.cl (v_cl cD_cl _ _ _)) .nil)))) tmq) ⟨at',k,l,b1,b2,hlk,hA,rfl⟩
def RowsR (τ:Nat→Option Nat):List Row→List Row→Prop
  | [],[]=>True
  | r :: rs,q :: qs=>RowEq (r.ren τ) q∧RowsR τ rs qs
  | _,_=>False
theorem RowsR.get {τ:Nat→Option Nat} : ∀ (rows rows2:List Row),RowsR τ rows rows2→rows.length=rows2.length∧∀ (i:Nat) (q:Row),rows2[i]?=some q→∃ r,rows[i]?=some r∧RowEq (r.ren τ) q
  | [],[],_=>⟨rfl,fun i q h=>by simp at h⟩
  | r :: rs,q :: qs,h=>by
    obtain ⟨h1,h2⟩:=RowsR.get rs qs h.2
    refine ⟨by simp [h1],fun i x hx=>?_⟩
    cases i with
    | zero=>simp at hx;subst hx;exact ⟨r,rfl,h.1⟩
    | succ i=>exact h2 i x (by simpa using hx)
  | [],_ :: _,h=>h.elim
  | _ :: _,[],h=>h.elim
theorem putPl_eq2 (τ : Nat → Option Nat) : ∀ (s : List Nat) (rows rows2 mem mem' : List Row), RowsR τ rows rows2 → mem'.length = mem.length → (∀ (l : Nat) (r' : Row), mem'[l]? = some r' → ∃ r : Row, mem[l]? = some r ∧ RowEq r r') →
    (putPl s rows2 mem').length=(putRows τ s rows mem).length∧∀ (l:Nat) (r' : Row),(putPl s rows2 mem')[l]?=some r'→∃ r:Row,(putRows τ s rows mem)[l]?=some r∧RowEq r r'
  | [],ext,ext2,mem,mem',hc,hl,he=>by
    obtain ⟨g1,g2⟩:=RowsR.get ext ext2 hc
    refine ⟨by simp [putPl,putRows,hl,g1],fun l r' h=>?_⟩
    rw [putPl] at h
    rw [putRows]
    by_cases hlt:l < mem'.length
    · rw [List.getElem?_append_left hlt] at h
      rw [List.getElem?_append_left (by omega)]
      exact he l r' h
    · rw [List.getElem?_append_right (by omega)] at h
      rw [List.getElem?_append_right (by omega),List.getElem?_map]
      rw [hl] at h
      obtain ⟨r,e1,e2⟩:=g2 _ _ h
      exact ⟨r.ren τ,by rw [e1];rfl,e2⟩
  | x :: s,r :: rows,q :: rows2,mem,mem',hc,hl,he=>by
    rw [putPl,putRows]
    refine putPl_eq2 τ s rows rows2 _ _ hc.2 (by simp [hl]) (fun l r' h=>?_)
    by_cases e:l=x
    · subst e
      by_cases hlt:l < mem'.length
      · rw [List.getElem?_set_self hlt] at h
        simp only [Option.some.injEq] at h
        subst h
        exact ⟨r.ren τ,List.getElem?_set_self (by omega),hc.1⟩
      · rw [List.getElem?_eq_none (by simp;omega)] at h;cases h
    · rw [List.getElem?_set_ne (Ne.symm e)] at h
      rw [List.getElem?_set_ne (Ne.symm e)]
      exact he l r' h
  | _ :: _,[],[],mem,mem',_,hl,he=>⟨by simp [putPl,putRows,hl],fun l r' h=>he l r' h⟩
  | _ :: _,[],_ :: _,_,_,hc,_,_=>hc.elim
  | _ :: _,_ :: _,[],_,_,hc,_,_=>hc.elim
section
variable {G:Pg} {N:Nat} {Γ:Fr} {st:PSt}
variable {K:Exit→PSt→Prop} {ops:Array Oper} {o:Oper} {rest:List Oper} {d:Nat}
theorem pop_rowsd {f : FuncId} {x : Operand} {args : Array Operand} {tys : Array TypeId} {n : Nat} {c : Nat → PV} {rows : List Row} {qs : List PV} {post : PV → List Row → Prop} (sel : List Nat) (hg : o.guard = none) (hdst : o.dst = some d) (hN : Nat.blt d N = true)
    (ho : o.op = .call ⟨.value x, args, tys⟩) (hx : st.ev x = .clo f n c) (hd : nodupB sel = true) (hs : SelOk st.mem sel sel rows) (hc : RowsC G.P f rows qs post) (ha : PEqL ((args.toList.map st.ev ++ capL n c 0).map (PV.ren (inv sel 0))) qs)
    (h:∀ r rows',post r rows'→∃ rows2 m r',RowsR (tau sel (lenK st.mem 0)) rows' rows2∧putP sel rows2 st.mem some=some m∧PEq (r.ren (tau sel (lenK st.mem 0))) r'∧POps G N Γ ops rest (PSt.put ⟨st.tm,m⟩ d r') K):POps G N Γ ops (o :: rest) st K:=.mk fun ρ I a w hrel=>by
  have hw:Region.wanted o (yielded ops a.tmps)=true:=by simp [Region.wanted,hg]
  simp only [wpList,hw,if_true]
  refine .inl (rows_core sel hrel ho (hx ▸ ev_rel hrel x) hd hs hc ha ?_)
  intro v r rows' ρ2 I' w' hpost hr _ hv
  obtain ⟨rows2,m,r',e0,e1,e2,hk⟩:=h r rows' hpost
  rw [putP_eq] at e1
  rw [lenK_eq,Nat.zero_add] at e0 e2
  simp only [Option.some.injEq] at e1
  obtain ⟨q1,q2⟩:=putPl_eq2 (tau sel st.mem.length) sel rows' rows2 st.mem st.mem e0 rfl (fun l r' h=>⟨r',h,RowEq.refl _⟩)
  have hr2:=hr.rowsEq q1 q2
  rw [← q1] at hv
  rw [e1] at hr2 hv
  simp only [hdst]
  exact hk.go ρ2 I' _ w' (hr2.put (by rwa [Nat.blt_eq] at hN) (e2 _ _ _ _ _ hv))
end
theorem peqA {τ:Nat→Option Nat} {nm:ByteArray} {l l' i n:Nat} (h:τ l=some l'):PEq ((PV.agg 2 (nthP [vs nm,.lsl l i n])).ren τ) (.agg 2 (nthP [vs nm,.lsl l' i n])) :=
  (show PEq (.agg 2 _) (.agg 2 _) from PEq.agg fun j hj=>by
    rcases (by omega:j=0∨j=1) with rfl|rfl
    · exact PEq.refl _
    · show PEq (match τ l with|some l'=>PV.lsl l' i n|none=>.junk) (.lsl l' i n)
      rw [h];exact PEq.refl _)
theorem rA_eq {τ:Nat→Option Nat} {k l l' : Nat} (h:τ l=some l'):RowEq (Row.ren τ (rA (k+1) l)) (rA (k+1) l'):=⟨rfl,rfl,Nat.le_refl _,fun i hi j hj=>by
  have hj:j < 2:=hj
  rcases (by omega:j=0∨j=1) with rfl|rfl
  · exact PEq.refl _
  · show PEq (match τ l with|some l'=>PV.lsl l' 0 (k+1)|none=>.junk) (.lsl l' 0 (k+1))
    rw [h];exact PEq.refl _⟩
theorem agreement4_r (h:Nat) (hh:h≤5) (wild:Bool) (n:Nat) (g:Nat→Int) (at_:Int) (hn:n≤9223372036854775807) (h1' : 0≤at_) (h2' : at_≤n):RowsC G.P 6 [tapeRow n g at_] [.ptr 0 0 0,vi (h+1:Nat),vb wild] (agrPost wild (h+1) n g) :=
  agreement_r (h+1) (by omega) (by omega) (fun t ht rules=>expr_t h hh t ht rules) wild n g at_ hn h1' h2'
theorem argAgr {mem:List Row} {L:List Nat} {nm:ByteArray} {l:List Df} {p:PV} (h:ArgOk mem L p (vDs l)):ArgOk mem L (.agg 2 (nthP [vs nm,p])) (vA nm l):=argAggL fun i hi=>by
  rcases (by omega:i=0∨i=1) with rfl|rfl
  · exact argVal
  · exact h
end Go.Proofs.YtcefhgomkehokaaGreat
