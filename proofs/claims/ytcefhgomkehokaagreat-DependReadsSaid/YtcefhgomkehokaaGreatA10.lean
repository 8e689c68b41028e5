/- depend.newGraph, Active, Needs. -/
import Derived.Test.YtcefhgomkehokaaGreatA09
import Derived.Test.YtcefhgomkehokaaGreatA07
import Derived.Test.YtcefhgomkehokaaGreatA06
set_option linter.unusedSimpArgs false
set_option linter.unusedVariables false
set_option maxRecDepth 100000
namespace Go.Proofs.YtcefhgomkehokaaGreat
def mapIS:MapTS G.P 70:=⟨3,22,_,Tryz.underlying70,Tryz.underlying3,fun _=>rfl,Tryz.zeroValue22⟩
structure AgO (nm:ByteArray) (l:List Df):Prop where
  nm:nm.size≤9223372036854775807
  bd:∀ d,d ∈ l→BdD d
  w:∀ d,d ∈ l→d.body.w≤900000
theorem agr_at {nm:ByteArray} {l:List Df} (h:agrS nm l=true) {i:Nat} (hi:i < l.length):defS (lF dD l i)=true:=by
  unfold agrS at h
  simp only [Bool.and_eq_true] at h
  have:=List.all_eq_true.1 h.2.2 (lF dD l i) (by unfold lF;rw [List.getD_eq_getElem?_getD,List.getElem?_eq_getElem hi];exact List.getElem_mem hi)
  simp only [Bool.and_eq_true] at this
  exact this.2
theorem comp_body {d:Df} (h:defS d=true) (hc:comp d=true):validS 32 d.body=true:=by
  unfold comp at hc
  have hc:=of_decide_eq_true hc
  unfold defS at h
  rcases hc with hc|hc
  · rw [if_neg (by omega),if_neg (by omega),if_neg (by omega),if_pos hc] at h
    simp only [Bool.and_eq_true] at h
    exact h.2.2.2.1
  · rw [if_neg (by omega),if_neg (by omega),if_neg (by omega),if_neg (by omega),if_pos hc] at h
    simp only [Bool.and_eq_true] at h
    exact h.2.2.2.1
theorem AgO.body {nm:ByteArray} {l:List Df} (h:AgO nm l) (hv:agrS nm l=true) {i:Nat} (hi:i < l.length) (hc:comp (lF dD l i)=true):BodyOk (lF dD l i) :=
  ⟨comp_body (agr_at hv hi) hc,h.w _ (by unfold lF;rw [List.getD_eq_getElem?_getD,List.getElem?_eq_getElem hi];exact List.getElem_mem hi)⟩
theorem actL_in {l:List Df} {day:Int} : ∀ x,x ∈ actL l day→0≤x∧x < l.length:=fun x hx=>by
  obtain ⟨i,rfl,hi,_⟩:=actN_mem hx
  omega
theorem chk_valid {nm:ByteArray} {l:List Df} {day:Int} (h:chkE nm l day=0):agrS nm l=true:=by
  unfold chkE at h
  cases hv:agrS nm l with
  | true=>rfl
  | false=>rw [if_pos hv] at h;cases h
theorem actL_len (l:List Df) (day:Int):(actL l day).length≤l.length:=actN_len l day l.length
def ActS (nm:ByteArray) (l:List Df) (day:Int):List Int:=if chkE nm l day=0 then actL l day else []
set_option maxHeartbeats 4000000 in
theorem Active_c (nm:ByteArray) (l:List Df) (day:Int) (h:AgO nm l) (hl:l.length≤1000000):PureC G.P 31 [vA nm l,vi day] (fun r=>r=sV (ActS nm l day)):=by
  have ck:=check_c nm l day h.nm h.bd
  have ca:=active_c nm l day hl
  refine pure_of (G:=G.toPg) (fn:=Tryz.f31) Tryz.func31 rfl rfl rfl ?_;intro Γ hk
  repeat' (first|refine gg ?_|exact trivial|with_reducible refine wA ?_ ?_|refine Y2.mk ?_ ?_|refine zz ck ?_|refine gh ?_|exact qq|fail)
  refine pcond (b:=decide (chkE nm l day≠0)) (eqB (by rw [Bool.eq_iff_iff];simp)) ?_ ?_<;>intro h1
  · have h1:=of_decide_eq_true h1
    repeat' (first|refine gg ?_|exact trivial|with_reducible refine wA ?_ ?_|refine Y2.mk ?_ ?_|refine gh ?_|exact qq|fail)
    refine kret [] rfl ⟨trivial,trivial⟩ (qs:=[.vsl 0 1 (tI (lF 0 []))]) ⟨argNil,trivial⟩ ?_
    unfold ActS;rw [if_neg h1];rfl
  · have h1:=Decidable.not_not.1 (of_decide_eq_false h1)
    repeat' (first|refine gg ?_|exact trivial|with_reducible refine wA ?_ ?_|refine Y2.mk ?_ ?_|(refine pop_callc [] rfl rfl rfl rfl rfl rfl (fun _ h=>by cases h) (ca) (args_cl _ rfl) ?_;rintro _ rfl)|refine gh ?_|exact qq|fail)
    refine kretv rfl ⟨trivial,trivial⟩ rfl ?_
    unfold ActS;rw [if_pos h1];rfl
def NeedsS (nm:ByteArray) (l:List Df) (day i:Int):List Int×Int :=
  if chkE nm l day≠0 then ([],chkE nm l day) else if i ∈ actL l day∧comp (lF dD l i.toNat)=true then needS l (actL l day) i.toNat else ([],16)
set_option maxHeartbeats 4000000 in
theorem Needs_c (nm:ByteArray) (l:List Df) (day i:Int) (h:AgO nm l) (hl:l.length≤1000000):PureC G.P 16 [vA nm l,vi day,vi i] (fun r=>r=.tup 2 (nthP [sV (NeedsS nm l day i).1,vi (NeedsS nm l day i).2])):=by
  have ck:=check_c nm l day h.nm h.bd
  have ca:=active_c nm l day hl
  have hal:=actL_len l day
  have cn:=contains_c (actL l day) i (by omega)
  refine pure_of (G:=G.toPg) (fn:=Tryz.f16) Tryz.func16 rfl rfl rfl ?_;intro Γ hk
  repeat' (first|refine gg ?_|exact trivial|with_reducible refine wA ?_ ?_|refine Y2.mk ?_ ?_|refine zz ck ?_|refine gh ?_|exact qq|fail)
  refine pcond (b:=decide (chkE nm l day≠0)) (eqB (by rw [Bool.eq_iff_iff];simp)) ?_ ?_<;>intro h1
  · have h1:=of_decide_eq_true h1
    repeat' (first|refine gg ?_|exact trivial|with_reducible refine wA ?_ ?_|refine Y2.mk ?_ ?_|refine gh ?_|exact qq|fail)
    refine kret [] rfl ⟨trivial,trivial,trivial⟩ (qs:=[.vsl 0 1 (tI (lF 0 [])),vi (chkE nm l day)]) ⟨argNil,argVal,trivial⟩ ?_
    unfold NeedsS;rw [if_pos h1];rfl
  · have h1:=Decidable.not_not.1 (of_decide_eq_false h1)
    have hv:=chk_valid h1
    have cc:=computed_c (lF dD l i.toNat)
    by_cases hin:i ∈ actL l day
    · have hb:=actL_in i hin
      have hb2:i.toNat < l.length:=by omega
      rw [decide_eq_true hin] at cn
      have hnd:comp (lF dD l i.toNat)=true→BodyOk (lF dD l i.toNat):=fun hc=>h.body hv hb2 hc
      cases hcm:comp (lF dD l i.toNat) with
      | true =>
        rw [hcm] at cc
        have hi0:((i.toNat:Nat):Int)=i:=by omega
        have cd:=needs_c nm l (actL l day) i.toNat hb2 hl (by omega) actL_in (actN_asc l day _) (hnd hcm)
        rw [hi0] at cd
        repeat' (first|refine gg ?_|exact trivial|with_reducible refine wA ?_ ?_|refine Y2.mk ?_ ?_|(refine pop_callc [] rfl rfl rfl rfl rfl rfl (fun _ h=>by cases h) (ca) (args_cl _ rfl) ?_;rintro _ rfl)|(refine pop_callc [] rfl rfl rfl rfl rfl rfl (fun _ h=>by cases h) (cd) (args_cl _ rfl) ?_;rintro _ rfl)|exact ⟨hb.1,hb.2⟩|exact hb2|refine zz cn ?_|refine zz cc ?_|refine gh ?_|exact qq|fail)
        refine kretv rfl ⟨trivial,trivial,trivial⟩ rfl ?_
        unfold NeedsS;rw [if_neg (by omega),if_pos ⟨hin,hcm⟩];rfl
      | false =>
        rw [hcm] at cc
        repeat' (first|refine gg ?_|exact trivial|with_reducible refine wA ?_ ?_|refine Y2.mk ?_ ?_|(refine pop_callc [] rfl rfl rfl rfl rfl rfl (fun _ h=>by cases h) (ca) (args_cl _ rfl) ?_;rintro _ rfl)|exact ⟨hb.1,hb.2⟩|exact hb2|refine zz cn ?_|refine zz cc ?_|refine gh ?_|exact qq|fail)
        refine kret [] rfl ⟨trivial,trivial,trivial⟩ (qs:=[.vsl 0 1 (tI (lF 0 [])),vi 16]) ⟨argNil,argVal,trivial⟩ ?_
        unfold NeedsS;rw [if_neg (by omega),if_neg (fun hh=>by rw [hcm] at hh;cases hh.2)];rfl
    · rw [decide_eq_false hin] at cn
      repeat' (first|refine gg ?_|exact trivial|with_reducible refine wA ?_ ?_|refine Y2.mk ?_ ?_|(refine pop_callc [] rfl rfl rfl rfl rfl rfl (fun _ h=>by cases h) (ca) (args_cl _ rfl) ?_;rintro _ rfl)|(refine pop_gfalse rfl rfl rfl rfl ?_)|exact (fun hh=>by cases hh)|refine zz cn ?_|refine gh ?_|exact qq|fail)
      refine xdone ?_
      refine kret [] rfl ⟨trivial,trivial,trivial⟩ (qs:=[.vsl 0 1 (tI (lF 0 [])),vi 16]) ⟨argNil,argVal,trivial⟩ ?_
      unfold NeedsS;rw [if_neg (by omega),if_neg (fun hh=>hin hh.1)];rfl
end Go.Proofs.YtcefhgomkehokaaGreat
namespace Go.Proofs.YtcefhgomkehokaaGreat
theorem lower_c (c:Int):PureC G.P 114 [vy c] (fun r=>r=vb (lowB c)):=by
  refine pure_of (G:=G.toPg) (fn:=Tryz.f114) Tryz.func114 rfl rfl rfl ?_;intro Γ hk
  repeat' (first|((with_reducible (show POps _ _ _ _ (_ :: _) _ _));(first|refine pop_read rfl rfl rfl rfl trivial ?_|refine pop_guard rfl rfl rfl rfl rfl qgd ?_|refine pop_new rfl rfl rfl rfl trivial ?_|refine pop_store rfl rfl rfl Nat.zero_lt_one ?_|refine pop_read rfl rfl rfl rfl qrd ?_|refine pop_read2 rfl rfl rfl rfl trivial ?_|refine pop_store rfl rfl rfl qst ?_|fail))|refine pnil ?_|refine kround_exit ?_|refine kround_ret ?_|refine kround_next ?_|refine kseq_normal ?_|refine pseq ?_|refine pregion ?_|refine pret ?_|refine kseq_ret ?_|refine pskip ?_|refine pblock ?_|refine pexit ?_|refine kseq_exit ?_|refine kblock_hit rfl ?_|refine kblock_miss rfl ?_|refine kblock_ret ?_|refine kblock_normal ?_|refine kloop_ret ?_|refine kloop_exit ?_|refine kcut_ret ?_|refine kcut_exit ?_|refine pcond_t rfl ?_|refine pcond_f rfl ?_|(with_reducible (show POps _ _ _ _ _ _ _);simp only [List.append_eq,List.cons_append,List.nil_append]))
  refine kretv rfl ⟨trivial,trivial⟩ rfl (eqB ?_)
  rw [Bool.eq_iff_iff];simp [lowB]
theorem digit_c (c:Int):PureC G.P 115 [vy c] (fun r=>r=vb (digB c)):=by
  refine pure_of (G:=G.toPg) (fn:=Tryz.f115) Tryz.func115 rfl rfl rfl ?_;intro Γ hk
  repeat' (first|((with_reducible (show POps _ _ _ _ (_ :: _) _ _));(first|refine pop_read rfl rfl rfl rfl trivial ?_|refine pop_guard rfl rfl rfl rfl rfl qgd ?_|refine pop_new rfl rfl rfl rfl trivial ?_|refine pop_store rfl rfl rfl Nat.zero_lt_one ?_|refine pop_read rfl rfl rfl rfl qrd ?_|refine pop_read2 rfl rfl rfl rfl trivial ?_|refine pop_store rfl rfl rfl qst ?_|fail))|refine pnil ?_|refine kround_exit ?_|refine kround_ret ?_|refine kround_next ?_|refine kseq_normal ?_|refine pseq ?_|refine pregion ?_|refine pret ?_|refine kseq_ret ?_|refine pskip ?_|refine pblock ?_|refine pexit ?_|refine kseq_exit ?_|refine kblock_hit rfl ?_|refine kblock_miss rfl ?_|refine kblock_ret ?_|refine kblock_normal ?_|refine kloop_ret ?_|refine kloop_exit ?_|refine kcut_ret ?_|refine kcut_exit ?_|refine pcond_t rfl ?_|refine pcond_f rfl ?_|(with_reducible (show POps _ _ _ _ _ _ _);simp only [List.append_eq,List.cons_append,List.nil_append]))
  refine kretv rfl ⟨trivial,trivial⟩ rfl (eqB ?_)
  rw [Bool.eq_iff_iff];simp [digB]
theorem word_c (s:ByteArray) (h0:0 < s.size) (hs:s.size≤1000):PureC G.P 83 [vs s,vi 0] (fun r=>r=vi (wlenS s)):=by
  refine pure_of (G:=G.toPg) (fn:=Tryz.f83) Tryz.func83 rfl rfl rfl ?_;intro Γ hk
  repeat' (first|((with_reducible (show POps _ _ _ _ (_ :: _) _ _));(first|refine pop_read rfl rfl rfl rfl trivial ?_|refine pop_guard rfl rfl rfl rfl rfl qgd ?_|refine pop_new rfl rfl rfl rfl trivial ?_|refine pop_store rfl rfl rfl Nat.zero_lt_one ?_|refine pop_read rfl rfl rfl rfl qrd ?_|refine pop_read2 rfl rfl rfl rfl trivial ?_|refine pop_store rfl rfl rfl qst ?_|(refine pop_guard2 rfl rfl rfl rfl rfl ?_ ?_;(exact fun h=>⟨h,h,by omega,by omega⟩))|(refine pop_callgv rfl rfl rfl rfl rfl rfl (fun _=>lower_c (byteI s 0)) ?_ rfl rfl rfl ?_;(exact fun h=>⟨h,trivial⟩))|fail))|refine pnil ?_|refine kround_exit ?_|refine kround_ret ?_|refine kround_next ?_|refine kseq_normal ?_|refine pseq ?_|refine pregion ?_|refine pret ?_|refine kseq_ret ?_|refine pskip ?_|refine pblock ?_|refine pexit ?_|refine kseq_exit ?_|refine kblock_hit rfl ?_|refine kblock_miss rfl ?_|refine kblock_ret ?_|refine kblock_normal ?_|refine kloop_ret ?_|refine kloop_exit ?_|refine kcut_ret ?_|refine kcut_exit ?_|refine pcond_t rfl ?_|refine pcond_f rfl ?_|(with_reducible (show POps _ _ _ _ _ _ _);simp only [List.append_eq,List.cons_append,List.nil_append]))
  refine pcond rfl ?_ ?_<;>intro hc
  · have hl : lowB (byteI s 0) = false := by
      have hc : (bif decide ((s.size : Int) ≤ 0) then true else !lowB (byteI s 0)) = true := hc
      rw [decide_eq_false (by omega)] at hc
      simpa using hc
    repeat' (first|((with_reducible (show POps _ _ _ _ (_ :: _) _ _));(first|refine pop_read rfl rfl rfl rfl trivial ?_|refine pop_guard rfl rfl rfl rfl rfl qgd ?_|refine pop_new rfl rfl rfl rfl trivial ?_|refine pop_store rfl rfl rfl Nat.zero_lt_one ?_|refine pop_read rfl rfl rfl rfl qrd ?_|refine pop_read2 rfl rfl rfl rfl trivial ?_|refine pop_store rfl rfl rfl qst ?_|fail))|refine pnil ?_|refine kround_exit ?_|refine kround_ret ?_|refine kround_next ?_|refine kseq_normal ?_|refine pseq ?_|refine pregion ?_|refine pret ?_|refine kseq_ret ?_|refine pskip ?_|refine pblock ?_|refine pexit ?_|refine kseq_exit ?_|refine kblock_hit rfl ?_|refine kblock_miss rfl ?_|refine kblock_ret ?_|refine kblock_normal ?_|refine kloop_ret ?_|refine kloop_exit ?_|refine kcut_ret ?_|refine kcut_exit ?_|refine pcond_t rfl ?_|refine pcond_f rfl ?_|(with_reducible (show POps _ _ _ _ _ _ _);simp only [List.append_eq,List.cons_append,List.nil_append]))
    refine kretv rfl ⟨trivial,trivial⟩ rfl (eqI ?_)
    rw [wlenS,hl];rfl
  · have hl : lowB (byteI s 0) = true := by
      have hc : (bif decide ((s.size : Int) ≤ 0) then true else !lowB (byteI s 0)) = false := hc
      rw [decide_eq_false (by omega)] at hc
      simpa using hc
    rw [wlenS,if_pos hl]
    repeat' (first|((with_reducible (show POps _ _ _ _ (_ :: _) _ _));(first|refine pop_read rfl rfl rfl rfl trivial ?_|refine pop_guard rfl rfl rfl rfl rfl qgd ?_|refine pop_new rfl rfl rfl rfl trivial ?_|refine pop_store rfl rfl rfl Nat.zero_lt_one ?_|refine pop_read rfl rfl rfl rfl qrd ?_|refine pop_read2 rfl rfl rfl rfl trivial ?_|refine pop_store rfl rfl rfl qst ?_|fail))|refine pnil ?_|refine kround_exit ?_|refine kround_ret ?_|refine kround_next ?_|refine kseq_normal ?_|refine pseq ?_|refine pregion ?_|refine pret ?_|refine kseq_ret ?_|refine pskip ?_|refine pblock ?_|refine pexit ?_|refine kseq_exit ?_|refine kblock_hit rfl ?_|refine kblock_miss rfl ?_|refine kblock_ret ?_|refine kblock_normal ?_|refine kloop_ret ?_|refine kloop_exit ?_|refine kcut_ret ?_|refine kcut_exit ?_|refine pcond_t rfl ?_|refine pcond_f rfl ?_|(with_reducible (show POps _ _ _ _ _ _ _);simp only [List.append_eq,List.cons_append,List.nil_append]))
    refine pcan (can_sel [0,1]) ?_
    refine ploop (fun q st=>∃ n:Nat,n≤s.size∧scanW s (s.size - n) n=scanW s (s.size - 1) 1∧q=s.size - n∧st=⟨[(0,vs s),(1,vi n)],[]⟩) s.size ⟨0,by omega,by rw [show s.size - 0=(s.size - 1)+1 by omega,scanW,if_pos (by simp [wrdB,hl])],rfl,rfl⟩ ?_
    rintro _ _ ⟨n,n2,hsc,rfl,rfl⟩
    repeat' (first|((with_reducible (show POps _ _ _ _ (_ :: _) _ _));(first|refine pop_read rfl rfl rfl rfl trivial ?_|refine pop_guard rfl rfl rfl rfl rfl qgd ?_|refine pop_new rfl rfl rfl rfl trivial ?_|refine pop_store rfl rfl rfl Nat.zero_lt_one ?_|refine pop_read rfl rfl rfl rfl qrd ?_|refine pop_read2 rfl rfl rfl rfl trivial ?_|refine pop_store rfl rfl rfl qst ?_|(refine pop_guard2 rfl rfl rfl rfl rfl ?_ ?_;(exact fun h=>⟨h,h,by omega,by simp at h;omega⟩))|(refine pop_callgv rfl rfl rfl rfl rfl rfl (fun _=>lower_c (byteI s (n:Int).toNat)) ?_ rfl rfl rfl ?_;(exact fun h=>⟨h,trivial⟩))|(refine pop_callgv rfl rfl rfl rfl rfl rfl (fun _=>digit_c (byteI s (n:Int).toNat)) ?_ rfl rfl rfl ?_;(exact fun h=>⟨h,trivial⟩))|fail))|refine pnil ?_|refine kround_exit ?_|refine kround_ret ?_|refine kround_next ?_|refine kseq_normal ?_|refine pseq ?_|refine pregion ?_|refine pret ?_|refine kseq_ret ?_|refine pskip ?_|refine pblock ?_|refine pexit ?_|refine kseq_exit ?_|refine kblock_hit rfl ?_|refine kblock_miss rfl ?_|refine kblock_ret ?_|refine kblock_normal ?_|refine kloop_ret ?_|refine kloop_exit ?_|refine kcut_ret ?_|refine kcut_exit ?_|refine pcond_t rfl ?_|refine pcond_f rfl ?_|(with_reducible (show POps _ _ _ _ _ _ _);simp only [List.append_eq,List.cons_append,List.nil_append]))
    refine pcond rfl ?_ ?_<;>intro hc2
    · have hlt : n < s.size ∧ wrdB (byteI s n) = true := by
        have hc2 : (bif decide ((n : Int) < (s.size : Int)) then (bif (bif lowB (byteI s n) then true else digB (byteI s n)) then true else byteI s n == 95) else false) = true := hc2
        by_cases hn : n < s.size
        · refine ⟨hn,?_⟩
          unfold wrdB
          cases h1 : lowB (byteI s n) <;> cases h2 : digB (byteI s n) <;> simp_all
        · simp [hn] at hc2
      repeat' (first|((with_reducible (show POps _ _ _ _ (_ :: _) _ _));(first|refine pop_read rfl rfl rfl rfl trivial ?_|refine pop_guard rfl rfl rfl rfl rfl qgd ?_|refine pop_new rfl rfl rfl rfl trivial ?_|refine pop_store rfl rfl rfl Nat.zero_lt_one ?_|refine pop_read rfl rfl rfl rfl qrd ?_|refine pop_read2 rfl rfl rfl rfl trivial ?_|refine pop_store rfl rfl rfl qst ?_|fail))|refine pnil ?_|refine kround_exit ?_|refine kround_ret ?_|refine kround_next ?_|refine kseq_normal ?_|refine pseq ?_|refine pregion ?_|refine pret ?_|refine kseq_ret ?_|refine pskip ?_|refine pblock ?_|refine pexit ?_|refine kseq_exit ?_|refine kblock_hit rfl ?_|refine kblock_miss rfl ?_|refine kblock_ret ?_|refine kblock_normal ?_|refine kloop_ret ?_|refine kloop_exit ?_|refine kcut_ret ?_|refine kcut_exit ?_|refine pcond_t rfl ?_|refine pcond_f rfl ?_|(with_reducible (show POps _ _ _ _ _ _ _);simp only [List.append_eq,List.cons_append,List.nil_append]))
      rw [show IntKind.i64.wrap ((n:Int)+1)=((n+1:Nat):Int) from w64 (by omega) (by omega)]
      refine kloop_next (s.size - (n+1)) (can_sel [0,1]) (by omega) ⟨n+1,by omega,?_,rfl,rfl⟩
      rw [← hsc,show s.size - n=(s.size - (n+1))+1 by omega,scanW,if_pos hlt.2]
    · have hlt : ¬ n < s.size ∨ wrdB (byteI s n) = false := by
        have hc2 : (bif decide ((n : Int) < (s.size : Int)) then (bif (bif lowB (byteI s n) then true else digB (byteI s n)) then true else byteI s n == 95) else false) = false := hc2
        by_cases hn : n < s.size
        · refine .inr ?_
          unfold wrdB
          cases h1 : lowB (byteI s n) <;> cases h2 : digB (byteI s n) <;> simp_all
        · exact .inl hn
      repeat' (first|((with_reducible (show POps _ _ _ _ (_ :: _) _ _));(first|refine pop_read rfl rfl rfl rfl trivial ?_|refine pop_guard rfl rfl rfl rfl rfl qgd ?_|refine pop_new rfl rfl rfl rfl trivial ?_|refine pop_store rfl rfl rfl Nat.zero_lt_one ?_|refine pop_read rfl rfl rfl rfl qrd ?_|refine pop_read2 rfl rfl rfl rfl trivial ?_|refine pop_store rfl rfl rfl qst ?_|fail))|refine pnil ?_|refine kround_exit ?_|refine kround_ret ?_|refine kround_next ?_|refine kseq_normal ?_|refine pseq ?_|refine pregion ?_|refine pret ?_|refine kseq_ret ?_|refine pskip ?_|refine pblock ?_|refine pexit ?_|refine kseq_exit ?_|refine kblock_hit rfl ?_|refine kblock_miss rfl ?_|refine kblock_ret ?_|refine kblock_normal ?_|refine kloop_ret ?_|refine kloop_exit ?_|refine kcut_ret ?_|refine kcut_exit ?_|refine pcond_t rfl ?_|refine pcond_f rfl ?_|(with_reducible (show POps _ _ _ _ _ _ _);simp only [List.append_eq,List.cons_append,List.nil_append]))
      refine kretv rfl ⟨trivial,trivial⟩ rfl (eqI ?_)
      rw [← hsc]
      rcases hlt with h|h
      · rw [show s.size - n=0 by omega,scanW]
      · by_cases hn:n < s.size
        · rw [show s.size - n=(s.size - (n+1))+1 by omega,scanW,if_neg (by rw [h];simp)]
        · rw [show s.size - n=0 by omega,scanW]
theorem kwS_symm (s:ByteArray):kwS s=kwL.any (fun k=>k.toList == s.toList):=by
  unfold kwS
  congr 1
  funext k
  exact BEq.comm
set_option maxHeartbeats 1000000 in
theorem isKeyword17_c (s:ByteArray):PureC G.P 84 [vs s] (fun r=>r=vb (kwS s)):=by
  refine pure_of (G:=G.toPg) (fn:=Tryz.f84) Tryz.func84 rfl rfl rfl ?_;intro Γ hk
  repeat' (first|((with_reducible (show POps _ _ _ _ (_ :: _) _ _));(first|refine pop_read rfl rfl rfl rfl trivial ?_|refine pop_guard rfl rfl rfl rfl rfl qgd ?_|refine pop_new rfl rfl rfl rfl trivial ?_|refine pop_store rfl rfl rfl Nat.zero_lt_one ?_|refine pop_read rfl rfl rfl rfl qrd ?_|refine pop_read2 rfl rfl rfl rfl trivial ?_|refine pop_store rfl rfl rfl qst ?_|refine pop_make rfl rfl rfl rfl trivial ?_|fail))|refine pnil ?_|refine kround_exit ?_|refine kround_ret ?_|refine kround_next ?_|refine kseq_normal ?_|refine pseq ?_|refine pregion ?_|refine pret ?_|refine kseq_ret ?_|refine pskip ?_|refine pblock ?_|refine pexit ?_|refine kseq_exit ?_|refine kblock_hit rfl ?_|refine kblock_miss rfl ?_|refine kblock_ret ?_|refine kblock_normal ?_|refine kloop_ret ?_|refine kloop_exit ?_|refine kcut_ret ?_|refine kcut_exit ?_|refine pcond_t rfl ?_|refine pcond_f rfl ?_|(with_reducible (show POps _ _ _ _ _ _ _);simp only [List.append_eq,List.cons_append,List.nil_append]))
  refine ploopN 40 ?_
  repeat' (first|((with_reducible (show POps _ _ _ _ (_ :: _) _ _));(first|refine pop_read rfl rfl rfl rfl trivial ?_|refine pop_guard rfl rfl rfl rfl rfl qgd ?_|refine pop_new rfl rfl rfl rfl trivial ?_|refine pop_store rfl rfl rfl Nat.zero_lt_one ?_|refine pop_read rfl rfl rfl rfl qrd ?_|refine pop_read2 rfl rfl rfl rfl trivial ?_|refine pop_store rfl rfl rfl qst ?_|refine pop_read rfl rfl rfl rfl (by first|exact ⟨by decide,by decide⟩|(show (_:Nat) < _;decide)) ?_|fail))|refine pnil ?_|refine kround_exit ?_|refine kround_ret ?_|refine kround_next ?_|refine kseq_normal ?_|refine pseq ?_|refine pregion ?_|refine pret ?_|refine kseq_ret ?_|refine pskip ?_|refine pblock ?_|refine pexit ?_|refine kseq_exit ?_|refine kblock_hit rfl ?_|refine kblock_miss rfl ?_|refine kblock_ret ?_|refine kblock_normal ?_|refine kloop_ret ?_|refine kloop_exit ?_|refine kcut_ret ?_|refine kcut_exit ?_|refine pcond_t rfl ?_|refine pcond_f rfl ?_|(with_reducible (show POps _ _ _ _ _ _ _);simp only [List.append_eq,List.cons_append,List.nil_append])|(refine pcond rfl ?_ ?_<;>intro hc))
  all_goals refine kretv rfl ⟨trivial,trivial⟩ rfl (eqB ?_)
  all_goals rw [kwS_symm]
  all_goals first
    | (simp only [kwL,List.any_cons,List.any_nil, *,Bool.or_true,Bool.true_or,Bool.or_false,Bool.false_or];done)
theorem isName17_c (s:ByteArray) (hs:s.size≤9223372036854775807):PureC G.P 72 [vs s] (fun r=>r=vb (nameS s)):=by
  have he:=empty_iff s
  have hg:((bif !(s.toList == ({ data:=#[] } : ByteArray).toList) then decide ((s.size:Int)≤24) else false) == true)=true→0 < s.size∧s.size≤24:=fun h=>by
    rw [he] at h
    by_cases h1:0 < s.size
    · by_cases h2:(s.size:Int)≤24
      · omega
      · rw [decide_eq_true h1,decide_eq_false h2] at h;cases h
    · rw [decide_eq_false h1] at h;cases h
  refine pure_of (G:=G.toPg) (fn:=Tryz.f72) Tryz.func72 rfl rfl rfl ?_;intro Γ hk
  repeat' (first|((with_reducible (show POps _ _ _ _ (_ :: _) _ _));(first|refine pop_read rfl rfl rfl rfl trivial ?_|refine pop_guard rfl rfl rfl rfl rfl qgd ?_|refine pop_new rfl rfl rfl rfl trivial ?_|refine pop_store rfl rfl rfl Nat.zero_lt_one ?_|refine pop_read rfl rfl rfl rfl qrd ?_|refine pop_read2 rfl rfl rfl rfl trivial ?_|refine pop_store rfl rfl rfl qst ?_|(refine pop_callgv rfl rfl rfl rfl rfl rfl (fun h=>word_c s (hg h).1 (by have:=hg h;omega)) ?_ rfl rfl rfl ?_;(exact fun h=>⟨h,trivial⟩))|(refine pop_callgv rfl rfl rfl rfl rfl rfl (fun _=>isKeyword17_c s) ?_ rfl rfl rfl ?_;(exact fun h=>⟨h,trivial⟩))|fail))|refine pnil ?_|refine kround_exit ?_|refine kround_ret ?_|refine kround_next ?_|refine kseq_normal ?_|refine pseq ?_|refine pregion ?_|refine pret ?_|refine kseq_ret ?_|refine pskip ?_|refine pblock ?_|refine pexit ?_|refine kseq_exit ?_|refine kblock_hit rfl ?_|refine kblock_miss rfl ?_|refine kblock_ret ?_|refine kblock_normal ?_|refine kloop_ret ?_|refine kloop_exit ?_|refine kcut_ret ?_|refine kcut_exit ?_|refine pcond_t rfl ?_|refine pcond_f rfl ?_|(with_reducible (show POps _ _ _ _ _ _ _);simp only [List.append_eq,List.cons_append,List.nil_append]))
  refine kretv rfl ⟨trivial,trivial⟩ rfl (eqB ?_)
  unfold nameS
  rw [he]
  have e2:decide ((s.size:Int)≤24)=decide (s.size≤24):=by rw [Bool.eq_iff_iff];simp only [decide_eq_true_eq];omega
  have e3:((wlenS s:Int) == (s.size:Int))=decide (wlenS s=s.size):=by rw [Bool.eq_iff_iff];simp only [decide_eq_true_eq,beq_iff_eq];omega
  rw [e2,e3,Bool.decide_and]
  cases decide (0 < s.size)<;>cases decide (s.size≤24)<;>cases decide (wlenS s=s.size)<;>cases kwS s<;>rfl
end Go.Proofs.YtcefhgomkehokaaGreat
namespace Go.Proofs.YtcefhgomkehokaaGreat
theorem size_c (n:Int) (h1 : -9223372036854775808≤n) (h2:n≤9223372036854775807):PureC G.P 133 [vi n] (fun r=>r=vu n.natAbs):=by
  refine pure_of (G:=G.toPg) (fn:=Tryz.f133) Tryz.func133 rfl rfl rfl ?_;intro Γ hk
  repeat' (first|((with_reducible (show POps _ _ _ _ (_ :: _) _ _));(first|refine pop_read rfl rfl rfl rfl trivial ?_|refine pop_guard rfl rfl rfl rfl rfl qgd ?_|refine pop_new rfl rfl rfl rfl trivial ?_|refine pop_store rfl rfl rfl Nat.zero_lt_one ?_|refine pop_read rfl rfl rfl rfl qrd ?_|refine pop_read2 rfl rfl rfl rfl trivial ?_|refine pop_store rfl rfl rfl qst ?_|fail))|refine pnil ?_|refine kround_exit ?_|refine kround_ret ?_|refine kround_next ?_|refine kseq_normal ?_|refine pseq ?_|refine pregion ?_|refine pret ?_|refine kseq_ret ?_|refine pskip ?_|refine pblock ?_|refine pexit ?_|refine kseq_exit ?_|refine kblock_hit rfl ?_|refine kblock_miss rfl ?_|refine kblock_ret ?_|refine kblock_normal ?_|refine kloop_ret ?_|refine kloop_exit ?_|refine kcut_ret ?_|refine kcut_exit ?_|refine pcond_t rfl ?_|refine pcond_f rfl ?_|(with_reducible (show POps _ _ _ _ _ _ _);simp only [List.append_eq,List.cons_append,List.nil_append]))
  refine pcond rfl ?_ ?_<;>intro hc
  · have hc:n < 0:=by simpa using hc
    repeat' (first|((with_reducible (show POps _ _ _ _ (_ :: _) _ _));(first|refine pop_read rfl rfl rfl rfl trivial ?_|refine pop_guard rfl rfl rfl rfl rfl qgd ?_|refine pop_new rfl rfl rfl rfl trivial ?_|refine pop_store rfl rfl rfl Nat.zero_lt_one ?_|refine pop_read rfl rfl rfl rfl qrd ?_|refine pop_read2 rfl rfl rfl rfl trivial ?_|refine pop_store rfl rfl rfl qst ?_|fail))|refine pnil ?_|refine kround_exit ?_|refine kround_ret ?_|refine kround_next ?_|refine kseq_normal ?_|refine pseq ?_|refine pregion ?_|refine pret ?_|refine kseq_ret ?_|refine pskip ?_|refine pblock ?_|refine pexit ?_|refine kseq_exit ?_|refine kblock_hit rfl ?_|refine kblock_miss rfl ?_|refine kblock_ret ?_|refine kblock_normal ?_|refine kloop_ret ?_|refine kloop_exit ?_|refine kcut_ret ?_|refine kcut_exit ?_|refine pcond_t rfl ?_|refine pcond_f rfl ?_|(with_reducible (show POps _ _ _ _ _ _ _);simp only [List.append_eq,List.cons_append,List.nil_append]))
    refine kretv rfl ⟨trivial,trivial⟩ rfl (eqI ?_)
    rw [w64 (n:=n+1) (by omega) (by omega),w64 (by omega) (by omega),wu64 (n:=0 - (n+1)) (by omega) (by omega),wu64 (by omega) (by omega)];omega
  · have hc:0≤n:=by simpa using hc
    repeat' (first|((with_reducible (show POps _ _ _ _ (_ :: _) _ _));(first|refine pop_read rfl rfl rfl rfl trivial ?_|refine pop_guard rfl rfl rfl rfl rfl qgd ?_|refine pop_new rfl rfl rfl rfl trivial ?_|refine pop_store rfl rfl rfl Nat.zero_lt_one ?_|refine pop_read rfl rfl rfl rfl qrd ?_|refine pop_read2 rfl rfl rfl rfl trivial ?_|refine pop_store rfl rfl rfl qst ?_|fail))|refine pnil ?_|refine kround_exit ?_|refine kround_ret ?_|refine kround_next ?_|refine kseq_normal ?_|refine pseq ?_|refine pregion ?_|refine pret ?_|refine kseq_ret ?_|refine pskip ?_|refine pblock ?_|refine pexit ?_|refine kseq_exit ?_|refine kblock_hit rfl ?_|refine kblock_miss rfl ?_|refine kblock_ret ?_|refine kblock_normal ?_|refine kloop_ret ?_|refine kloop_exit ?_|refine kcut_ret ?_|refine kcut_exit ?_|refine pcond_t rfl ?_|refine pcond_f rfl ?_|(with_reducible (show POps _ _ _ _ _ _ _);simp only [List.append_eq,List.cons_append,List.nil_append]))
    refine kretv rfl ⟨trivial,trivial⟩ rfl (eqI ?_)
    rw [wu64 hc (by omega)];omega
theorem common_c (a b:Nat) (ha:a < 18446744073709551616) (hb:b < 18446744073709551616):PureC G.P 132 [vu a,vu b] (fun r=>r=vu (Nat.gcd a b)):=by
  refine pure_of (G:=G.toPg) (fn:=Tryz.f132) Tryz.func132 rfl rfl rfl ?_;intro Γ hk
  repeat' (first|((with_reducible (show POps _ _ _ _ (_ :: _) _ _));(first|refine pop_read rfl rfl rfl rfl trivial ?_|refine pop_guard rfl rfl rfl rfl rfl qgd ?_|refine pop_new rfl rfl rfl rfl trivial ?_|refine pop_store rfl rfl rfl Nat.zero_lt_one ?_|refine pop_read rfl rfl rfl rfl qrd ?_|refine pop_read2 rfl rfl rfl rfl trivial ?_|refine pop_store rfl rfl rfl qst ?_|fail))|refine pnil ?_|refine kround_exit ?_|refine kround_ret ?_|refine kround_next ?_|refine kseq_normal ?_|refine pseq ?_|refine pregion ?_|refine pret ?_|refine kseq_ret ?_|refine pskip ?_|refine pblock ?_|refine pexit ?_|refine kseq_exit ?_|refine kblock_hit rfl ?_|refine kblock_miss rfl ?_|refine kblock_ret ?_|refine kblock_normal ?_|refine kloop_ret ?_|refine kloop_exit ?_|refine kcut_ret ?_|refine kcut_exit ?_|refine pcond_t rfl ?_|refine pcond_f rfl ?_|(with_reducible (show POps _ _ _ _ _ _ _);simp only [List.append_eq,List.cons_append,List.nil_append]))
  refine pcan (can_sel [0,1]) ?_
  refine ploop (fun n st=>∃ p q:Nat,Nat.gcd p q=Nat.gcd a b∧p < 18446744073709551616∧q < 18446744073709551616∧q=n∧st=⟨[(0,vu p),(1,vu q)],[]⟩) b ⟨a,b,rfl,ha,hb,rfl,rfl⟩ ?_
  rintro _ _ ⟨p,q,hg,hp,hq,rfl,rfl⟩
  repeat' (first|((with_reducible (show POps _ _ _ _ (_ :: _) _ _));(first|refine pop_read rfl rfl rfl rfl trivial ?_|refine pop_guard rfl rfl rfl rfl rfl qgd ?_|refine pop_new rfl rfl rfl rfl trivial ?_|refine pop_store rfl rfl rfl Nat.zero_lt_one ?_|refine pop_read rfl rfl rfl rfl qrd ?_|refine pop_read2 rfl rfl rfl rfl trivial ?_|refine pop_store rfl rfl rfl qst ?_|fail))|refine pnil ?_|refine kround_exit ?_|refine kround_ret ?_|refine kround_next ?_|refine kseq_normal ?_|refine pseq ?_|refine pregion ?_|refine pret ?_|refine kseq_ret ?_|refine pskip ?_|refine pblock ?_|refine pexit ?_|refine kseq_exit ?_|refine kblock_hit rfl ?_|refine kblock_miss rfl ?_|refine kblock_ret ?_|refine kblock_normal ?_|refine kloop_ret ?_|refine kloop_exit ?_|refine kcut_ret ?_|refine kcut_exit ?_|refine pcond_t rfl ?_|refine pcond_f rfl ?_|(with_reducible (show POps _ _ _ _ _ _ _);simp only [List.append_eq,List.cons_append,List.nil_append]))
  refine pcond rfl ?_ ?_<;>intro hc
  · have hq0:(q:Int)≠0:=by simpa using hc
    repeat' (first|((with_reducible (show POps _ _ _ _ (_ :: _) _ _));(first|refine pop_read rfl rfl rfl rfl trivial ?_|refine pop_guard rfl rfl rfl rfl rfl qgd ?_|refine pop_new rfl rfl rfl rfl trivial ?_|refine pop_store rfl rfl rfl Nat.zero_lt_one ?_|refine pop_read rfl rfl rfl rfl qrd ?_|refine pop_read2 rfl rfl rfl rfl trivial ?_|refine pop_store rfl rfl rfl qst ?_|fail))|refine pnil ?_|refine kround_exit ?_|refine kround_ret ?_|refine kround_next ?_|refine kseq_normal ?_|refine pseq ?_|refine pregion ?_|refine pret ?_|refine kseq_ret ?_|refine pskip ?_|refine pblock ?_|refine pexit ?_|refine kseq_exit ?_|refine kblock_hit rfl ?_|refine kblock_miss rfl ?_|refine kblock_ret ?_|refine kblock_normal ?_|refine kloop_ret ?_|refine kloop_exit ?_|refine kcut_ret ?_|refine kcut_exit ?_|refine pcond_t rfl ?_|refine pcond_f rfl ?_|(with_reducible (show POps _ _ _ _ _ _ _);simp only [List.append_eq,List.cons_append,List.nil_append]))
    (refine any_start [] 6 rfl ?_);(first|refine aT 0 ?_|refine aT2 0 ?_|(refine aC 0 ?_ ?_;rotate_left));(first|refine aT 1 ?_|refine aT2 1 ?_|(refine aC 1 ?_ ?_;rotate_left));(first|refine aT 2 ?_|refine aT2 2 ?_|(refine aC 2 ?_ ?_;rotate_left));(first|refine aT 3 ?_|refine aT2 3 ?_|(refine aC 3 ?_ ?_;rotate_left));(first|refine aT 4 ?_|refine aT2 4 ?_|(refine aC 4 ?_ ?_;rotate_left));(first|refine aT 5 ?_|refine aT2 5 ?_|(refine aC 5 ?_ ?_;rotate_left));(refine any_done (by kernel_rfl) ?_)
    repeat' (first|((with_reducible (show POps _ _ _ _ (_ :: _) _ _));(first|refine pop_read rfl rfl rfl rfl trivial ?_|refine pop_guard rfl rfl rfl rfl rfl qgd ?_|refine pop_new rfl rfl rfl rfl trivial ?_|refine pop_store rfl rfl rfl Nat.zero_lt_one ?_|refine pop_read rfl rfl rfl rfl qrd ?_|refine pop_read2 rfl rfl rfl rfl trivial ?_|refine pop_store rfl rfl rfl qst ?_|fail))|refine pnil ?_|refine kround_exit ?_|refine kround_ret ?_|refine kround_next ?_|refine kseq_normal ?_|refine pseq ?_|refine pregion ?_|refine pret ?_|refine kseq_ret ?_|refine pskip ?_|refine pblock ?_|refine pexit ?_|refine kseq_exit ?_|refine kblock_hit rfl ?_|refine kblock_miss rfl ?_|refine kblock_ret ?_|refine kblock_normal ?_|refine kloop_ret ?_|refine kloop_exit ?_|refine kcut_ret ?_|refine kcut_exit ?_|refine pcond_t rfl ?_|refine pcond_f rfl ?_|(with_reducible (show POps _ _ _ _ _ _ _);simp only [List.append_eq,List.cons_append,List.nil_append]))
    have hlt:p % q < q:=Nat.mod_lt _ (by omega)
    exact kloop_next (p % q) (can_sel [0,1]) hlt ⟨q,p % q,(gcd_step p q).trans hg,hq,by omega,rfl,rfl⟩
  · have hq0:q=0:=by simpa using hc
    subst hq0
    repeat' (first|((with_reducible (show POps _ _ _ _ (_ :: _) _ _));(first|refine pop_read rfl rfl rfl rfl trivial ?_|refine pop_guard rfl rfl rfl rfl rfl qgd ?_|refine pop_new rfl rfl rfl rfl trivial ?_|refine pop_store rfl rfl rfl Nat.zero_lt_one ?_|refine pop_read rfl rfl rfl rfl qrd ?_|refine pop_read2 rfl rfl rfl rfl trivial ?_|refine pop_store rfl rfl rfl qst ?_|fail))|refine pnil ?_|refine kround_exit ?_|refine kround_ret ?_|refine kround_next ?_|refine kseq_normal ?_|refine pseq ?_|refine pregion ?_|refine pret ?_|refine kseq_ret ?_|refine pskip ?_|refine pblock ?_|refine pexit ?_|refine kseq_exit ?_|refine kblock_hit rfl ?_|refine kblock_miss rfl ?_|refine kblock_ret ?_|refine kblock_normal ?_|refine kloop_ret ?_|refine kloop_exit ?_|refine kcut_ret ?_|refine kcut_exit ?_|refine pcond_t rfl ?_|refine pcond_f rfl ?_|(with_reducible (show POps _ _ _ _ _ _ _);simp only [List.append_eq,List.cons_append,List.nil_append]))
    exact kretv rfl ⟨trivial,trivial⟩ rfl (eqI (by rw [← hg];simp))
theorem commonI_c (a b:Int) (ha0:0≤a) (ha:a < 18446744073709551616) (hb0:0≤b) (hb:b < 18446744073709551616):PureC G.P 132 [vu a,vu b] (fun r=>r=vu (Int.gcd a b)):=by
  obtain ⟨a,rfl⟩:=Int.eq_ofNat_of_zero_le ha0
  obtain ⟨b,rfl⟩:=Int.eq_ofNat_of_zero_le hb0
  exact common_c a b (by omega) (by omega)
theorem ref1Valid_c (n d:Int) (h1 : -9223372036854775808≤n) (h2:n≤9223372036854775807):PureC G.P 118 [vr n d] (fun r=>r=vb (okR n d)):=by
  refine pure_of (G:=G.toPg) (fn:=Tryz.f118) Tryz.func118 rfl rfl rfl ?_;intro Γ hk
  repeat' (first|((with_reducible (show POps _ _ _ _ (_ :: _) _ _));(first|refine pop_read rfl rfl rfl rfl trivial ?_|refine pop_guard rfl rfl rfl rfl rfl qgd ?_|refine pop_new rfl rfl rfl rfl trivial ?_|refine pop_store rfl rfl rfl Nat.zero_lt_one ?_|refine pop_read rfl rfl rfl rfl qrd ?_|refine pop_read2 rfl rfl rfl rfl trivial ?_|refine pop_store rfl rfl rfl qst ?_|fail))|refine pnil ?_|refine kround_exit ?_|refine kround_ret ?_|refine kround_next ?_|refine kseq_normal ?_|refine pseq ?_|refine pregion ?_|refine pret ?_|refine kseq_ret ?_|refine pskip ?_|refine pblock ?_|refine pexit ?_|refine kseq_exit ?_|refine kblock_hit rfl ?_|refine kblock_miss rfl ?_|refine kblock_ret ?_|refine kblock_normal ?_|refine kloop_ret ?_|refine kloop_exit ?_|refine kcut_ret ?_|refine kcut_exit ?_|refine pcond_t rfl ?_|refine pcond_f rfl ?_|(with_reducible (show POps _ _ _ _ _ _ _);simp only [List.append_eq,List.cons_append,List.nil_append]))
  (refine any_start [0] 29 rfl ?_);(first|refine aT 0 ?_|refine aT2 0 ?_|(refine aC 0 ?_ ?_;rotate_left));(first|refine aT 1 ?_|refine aT2 1 ?_|(refine aC 1 ?_ ?_;rotate_left));(first|refine aT 2 ?_|refine aT2 2 ?_|(refine aC 2 ?_ ?_;rotate_left));(first|refine aT 3 ?_|refine aT2 3 ?_|(refine aC 3 ?_ ?_;rotate_left));(first|refine any_takeg 4 rfl (by kernel_rfl) (by kernel_rfl) (by kernel_rfl) rfl rfl rfl rfl rfl rfl qtg ?_|(refine any_takeg 4 rfl (by kernel_rfl) (by kernel_rfl) (by kernel_rfl) rfl rfl rfl rfl rfl rfl (fun h=>?_) ?_;rotate_left));(first|refine any_takeg 5 rfl (by kernel_rfl) (by kernel_rfl) (by kernel_rfl) rfl rfl rfl rfl rfl rfl qtg ?_|(refine any_takeg 5 rfl (by kernel_rfl) (by kernel_rfl) (by kernel_rfl) rfl rfl rfl rfl rfl rfl (fun h=>?_) ?_;rotate_left));(first|refine any_takeg 6 rfl (by kernel_rfl) (by kernel_rfl) (by kernel_rfl) rfl rfl rfl rfl rfl rfl qtg ?_|(refine any_takeg 6 rfl (by kernel_rfl) (by kernel_rfl) (by kernel_rfl) rfl rfl rfl rfl rfl rfl (fun h=>?_) ?_;rotate_left));(first|refine aT 7 ?_|refine aT2 7 ?_|(refine aC 7 ?_ ?_;rotate_left));(first|refine aT 8 ?_|refine aT2 8 ?_|(refine aC 8 ?_ ?_;rotate_left));(first|refine any_takeg 9 rfl (by kernel_rfl) (by kernel_rfl) (by kernel_rfl) rfl rfl rfl rfl rfl rfl qtg ?_|(refine any_takeg 9 rfl (by kernel_rfl) (by kernel_rfl) (by kernel_rfl) rfl rfl rfl rfl rfl rfl (fun h=>?_) ?_;rotate_left));(first|refine any_takeg 10 rfl (by kernel_rfl) (by kernel_rfl) (by kernel_rfl) rfl rfl rfl rfl rfl rfl qtg ?_|(refine any_takeg 10 rfl (by kernel_rfl) (by kernel_rfl) (by kernel_rfl) rfl rfl rfl rfl rfl rfl (fun h=>?_) ?_;rotate_left));(first|refine any_takeg 11 rfl (by kernel_rfl) (by kernel_rfl) (by kernel_rfl) rfl rfl rfl rfl rfl rfl qtg ?_|(refine any_takeg 11 rfl (by kernel_rfl) (by kernel_rfl) (by kernel_rfl) rfl rfl rfl rfl rfl rfl (fun h=>?_) ?_;rotate_left));(first|refine aT 12 ?_|refine aT2 12 ?_|(refine aC 12 ?_ ?_;rotate_left));(first|refine aT 13 ?_|refine aT2 13 ?_|(refine aC 13 ?_ ?_;rotate_left));(first|refine any_takeg 14 rfl (by kernel_rfl) (by kernel_rfl) (by kernel_rfl) rfl rfl rfl rfl rfl rfl qtg ?_|(refine any_takeg 14 rfl (by kernel_rfl) (by kernel_rfl) (by kernel_rfl) rfl rfl rfl rfl rfl rfl (fun h=>?_) ?_;rotate_left));(first|refine any_takeg 15 rfl (by kernel_rfl) (by kernel_rfl) (by kernel_rfl) rfl rfl rfl rfl rfl rfl qtg ?_|(refine any_takeg 15 rfl (by kernel_rfl) (by kernel_rfl) (by kernel_rfl) rfl rfl rfl rfl rfl rfl (fun h=>?_) ?_;rotate_left));(first|refine any_takeg 16 rfl (by kernel_rfl) (by kernel_rfl) (by kernel_rfl) rfl rfl rfl rfl rfl rfl qtg ?_|(refine any_takeg 16 rfl (by kernel_rfl) (by kernel_rfl) (by kernel_rfl) rfl rfl rfl rfl rfl rfl (fun h=>?_) ?_;rotate_left));(first|refine aT 17 ?_|refine aT2 17 ?_|(refine aC 17 ?_ ?_;rotate_left));(first|refine aT 18 ?_|refine aT2 18 ?_|(refine aC 18 ?_ ?_;rotate_left));(first|refine any_takeg 19 rfl (by kernel_rfl) (by kernel_rfl) (by kernel_rfl) rfl rfl rfl rfl rfl rfl qtg ?_|(refine any_takeg 19 rfl (by kernel_rfl) (by kernel_rfl) (by kernel_rfl) rfl rfl rfl rfl rfl rfl (fun h=>?_) ?_;rotate_left));(first|refine any_takeg 20 rfl (by kernel_rfl) (by kernel_rfl) (by kernel_rfl) rfl rfl rfl rfl rfl rfl qtg ?_|(refine any_takeg 20 rfl (by kernel_rfl) (by kernel_rfl) (by kernel_rfl) rfl rfl rfl rfl rfl rfl (fun h=>?_) ?_;rotate_left));(first|refine any_takeg 22 rfl (by kernel_rfl) (by kernel_rfl) (by kernel_rfl) rfl rfl rfl rfl rfl rfl qtg ?_|(refine any_takeg 22 rfl (by kernel_rfl) (by kernel_rfl) (by kernel_rfl) rfl rfl rfl rfl rfl rfl (fun h=>?_) ?_;rotate_left));(first|refine any_takeg 23 rfl (by kernel_rfl) (by kernel_rfl) (by kernel_rfl) rfl rfl rfl rfl rfl rfl qtg ?_|(refine any_takeg 23 rfl (by kernel_rfl) (by kernel_rfl) (by kernel_rfl) rfl rfl rfl rfl rfl rfl (fun h=>?_) ?_;rotate_left));(refine aO 21 rfl (ch:=[])  (pst_callgv rfl rfl rfl rfl rfl rfl (fun _=>size_c _ h1 h2) (fun h=>⟨h,trivial⟩) rfl rfl rfl ?_));(refine aO 24 rfl (ch:=[])  (pst_callgv rfl rfl rfl rfl rfl rfl (fun h=>size_c _ (by simp at h;omega) (by simp at h;omega)) (fun h=>⟨h,trivial⟩) rfl rfl rfl ?_));(refine aO 25 rfl (ch:=[])  (pst_callgv rfl rfl rfl rfl rfl rfl (fun h=>commonI_c _ _ (by omega) (by omega) (by omega) (by simp at h;omega)) (fun h=>⟨h,h,trivial⟩) rfl rfl rfl ?_));(first|refine any_takeg 26 rfl (by kernel_rfl) (by kernel_rfl) (by kernel_rfl) rfl rfl rfl rfl rfl rfl qtg ?_|(refine any_takeg 26 rfl (by kernel_rfl) (by kernel_rfl) (by kernel_rfl) rfl rfl rfl rfl rfl rfl (fun h=>?_) ?_;rotate_left));(first|refine aT 27 ?_|refine aT2 27 ?_|(refine aC 27 ?_ ?_;rotate_left));(first|refine aT 28 ?_|refine aT2 28 ?_|(refine aC 28 ?_ ?_;rotate_left));(refine any_done (by kernel_rfl) ?_)
  repeat' (first|((with_reducible (show POps _ _ _ _ (_ :: _) _ _));(first|refine pop_read rfl rfl rfl rfl trivial ?_|refine pop_guard rfl rfl rfl rfl rfl qgd ?_|refine pop_new rfl rfl rfl rfl trivial ?_|refine pop_store rfl rfl rfl Nat.zero_lt_one ?_|refine pop_read rfl rfl rfl rfl qrd ?_|refine pop_read2 rfl rfl rfl rfl trivial ?_|refine pop_store rfl rfl rfl qst ?_|fail))|refine pnil ?_|refine kround_exit ?_|refine kround_ret ?_|refine kround_next ?_|refine kseq_normal ?_|refine pseq ?_|refine pregion ?_|refine pret ?_|refine kseq_ret ?_|refine pskip ?_|refine pblock ?_|refine pexit ?_|refine kseq_exit ?_|refine kblock_hit rfl ?_|refine kblock_miss rfl ?_|refine kblock_ret ?_|refine kblock_normal ?_|refine kloop_ret ?_|refine kloop_exit ?_|refine kcut_ret ?_|refine kcut_exit ?_|refine pcond_t rfl ?_|refine pcond_f rfl ?_|(with_reducible (show POps _ _ _ _ _ _ _);simp only [List.append_eq,List.cons_append,List.nil_append]))
  refine kretv rfl ⟨trivial,trivial⟩ rfl (eqB ?_)
  rw [Bool.eq_iff_iff]
  have hg:Int.gcd (n.natAbs:Int) (d.natAbs:Int)=Int.gcd n d:=by simp [Int.gcd]
  rw [hg]
  simp [okR]
  omega
end Go.Proofs.YtcefhgomkehokaaGreat
namespace Go.Proofs.YtcefhgomkehokaaGreat
theorem mode2_c (m:Int):PureC G.P 89 [vi m] (fun r=>r=vb (modeB m)):=by
  refine pure_of (G:=G.toPg) (fn:=Tryz.f89) Tryz.func89 rfl rfl rfl ?_;intro Γ hk
  repeat' (first|refine gg ?_|exact trivial|with_reducible refine wA ?_ ?_|refine Y2.mk ?_ ?_|refine gh ?_|exact qq|fail)
  refine kretv rfl ⟨trivial,trivial⟩ rfl (eqB ?_)
  unfold modeB
  rw [Bool.eq_iff_iff];simp
theorem isUnit18_c (m h d:Int):PureC G.P 85 [.agg 3 (nthP [vi m,vi h,vi d])] (fun r=>r=vb (unitS m h d)):=by
  refine pure_of (G:=G.toPg) (fn:=Tryz.f85) Tryz.func85 rfl rfl rfl ?_;intro Γ hk
  repeat' (first|refine gg ?_|exact trivial|with_reducible refine wA ?_ ?_|refine Y2.mk ?_ ?_|refine gh ?_|exact qq|fail)
  refine kretv rfl ⟨trivial,trivial⟩ rfl (eqB ?_)
  unfold unitS
  rw [Bool.eq_iff_iff];simp;omega
theorem isDecimal_c (n d:Int) (h1 : -9223372036854775808≤n) (h2:n≤9223372036854775807):PureC G.P 116 [vr n d] (fun r=>r=vb (decS n d)):=by
  have c1:=ref1Valid_c n d h1 h2
  have hne:((bif okR n d then decide (0≤n) else false) == true)=true→d≠0:=fun h=>by
    cases ho:okR n d
    · rw [ho] at h;cases h
    · have:=okR_bd ho;omega
  refine pure_of (G:=G.toPg) (fn:=Tryz.f116) Tryz.func116 rfl rfl rfl ?_;intro Γ hk
  repeat' (first|refine gg ?_|exact trivial|with_reducible refine wA ?_ ?_|refine Y2.mk ?_ ?_|exact fun h=>⟨h,hne h⟩|refine zz c1 ?_|refine gh ?_|exact qq|fail)
  refine kretv rfl ⟨trivial,trivial⟩ rfl (eqB ?_)
  unfold decS
  have e:(Int.tmod 1000000 d == 0)=decide (Int.tmod 1000000 d=0):=by rw [Bool.eq_iff_iff];simp
  rw [e]
  cases okR n d<;>cases decide (0≤n)<;>cases decide (Int.tmod 1000000 d=0)<;>rfl
set_option maxHeartbeats 2000000 in
theorem kids18_c (op:Int):PureC G.P 130 [vi op] (fun r=>r=vi (kidsN op)):=by
  refine pure_of (G:=G.toPg) (fn:=Tryz.f130) Tryz.func130 rfl rfl rfl ?_;intro Γ hk
  by_cases hr:1≤op∧op≤21
  · obtain rfl|rfl|rfl|rfl|rfl|rfl|rfl|rfl|rfl|rfl|rfl|rfl|rfl|rfl|rfl|rfl|rfl|rfl|rfl|rfl|rfl:op=1∨op=2∨op=3∨op=4∨op=5∨op=6∨op=7∨op=8∨op=9∨op=10∨op=11∨op=12∨op=13∨op=14∨op=15∨op=16∨op=17∨op=18∨op=19∨op=20∨op=21:=by omega
    all_goals
      repeat' (first|refine gg ?_|exact trivial|with_reducible refine wA ?_ ?_|refine Y2.mk ?_ ?_|refine gh ?_|exact qq|fail)
      exact kretv rfl ⟨trivial,trivial⟩ rfl rfl
  · have e : kidsN op = -1 := by
      unfold kidsN
      rw [if_neg (by omega),if_neg (by omega),if_neg (by omega),if_neg (by omega)]
    repeat' (first|refine gg ?_|exact trivial|with_reducible refine wA ?_ ?_|refine Y2.mk ?_ ?_|(refine pcond_n rfl (by simp;omega) ?_)|refine gh ?_|exact qq|fail)
    exact kretv rfl ⟨trivial,trivial⟩ rfl (eqI e.symm)
set_option maxHeartbeats 8000000 in
theorem own_c (e:Ex) (hv : -9223372036854775808≤e.vn∧e.vn≤9223372036854775807) (hs:e.nm.size≤9223372036854775807):PureC G.P 131 [vX e] (fun r=>r=vb (fieldS e)):=by
  have c1:=isDecimal_c e.vn e.vd hv.1 hv.2
  have c3:=isUnit18_c e.um e.uh e.ud
  have c4:=isName17_c e.nm hs
  have c5:=mode2_c e.mode
  refine pure_of (G:=G.toPg) (fn:=Tryz.f131) Tryz.func131 rfl rfl rfl ?_;intro Γ hk
  by_cases hr:e.op=1∨e.op=2∨e.op=3∨e.op=4∨e.op=19∨e.op=20∨e.op=21
  · rcases hr with h|h|h|h|h|h|h
    all_goals
      repeat' (first|refine gg ?_|exact trivial|with_reducible refine wA ?_ ?_|refine Y2.mk ?_ ?_|refine xs_start (id:=1) true [.take 0,.take 1,.take 2,.take 3,.take 4,.take 5,.take 6,.take 7,.take 8,.take 9,.take 10,.take 11,.take 12,.take 13,.take 14,.take 15,.take 16,.take 17,.take 18,.take 19,.take 20,.take 21] 0 rfl rfl (by kernel_rfl) ?_|refine xs_start (id:=4) true [.take 0,.take 1,.take 3,.take 4,.one 2,.one 5,.take 6,.take 7] 0 rfl rfl (by kernel_rfl) ?_|refine xs_start (id:=11) true [.take 0,.take 1,.take 9,.take 10,.take 12,.take 13,.one 2,.take 3,.take 4,.take 5,.take 6,.take 7,.take 8,.one 11,.one 14,.take 15,.take 16,.take 17] 0 rfl rfl (by kernel_rfl) ?_|refine xs_start (id:=14) true [.take 0,.take 1,.take 3,.take 4,.take 5,.one 2,.take 6,.take 7,.take 8,.take 9,.take 10,.take 11,.take 12] 0 rfl rfl (by kernel_rfl) ?_|(refine pcond_y rfl (by rw [h];rfl) ?_)|(refine pcond_n rfl (by rw [h];rfl) ?_)|refine zz c1 ?_|refine zz c3 ?_|refine zz c4 ?_|refine zz c5 ?_|refine gh ?_|exact qq|fail)
      refine kretv rfl ⟨trivial,trivial⟩ rfl (eqB ?_)
      simp [fieldS,h,bqd,Bool.and_assoc]<;>ac_rfl
  · repeat' (first|refine gg ?_|exact trivial|with_reducible refine wA ?_ ?_|refine Y2.mk ?_ ?_|refine xs_start (id:=1) true [.take 0,.take 1,.take 2,.take 3,.take 4,.take 5,.take 6,.take 7,.take 8,.take 9,.take 10,.take 11,.take 12,.take 13,.take 14,.take 15,.take 16,.take 17,.take 18,.take 19,.take 20,.take 21] 0 rfl rfl (by kernel_rfl) ?_|refine xs_start (id:=4) true [.take 0,.take 1,.take 3,.take 4,.one 2,.one 5,.take 6,.take 7] 0 rfl rfl (by kernel_rfl) ?_|refine xs_start (id:=11) true [.take 0,.take 1,.take 9,.take 10,.take 12,.take 13,.one 2,.take 3,.take 4,.take 5,.take 6,.take 7,.take 8,.one 11,.one 14,.take 15,.take 16,.take 17] 0 rfl rfl (by kernel_rfl) ?_|refine xs_start (id:=14) true [.take 0,.take 1,.take 3,.take 4,.take 5,.one 2,.take 6,.take 7,.take 8,.take 9,.take 10,.take 11,.take 12] 0 rfl rfl (by kernel_rfl) ?_|(refine pcond_n rfl (by simp;omega) ?_)|refine gh ?_|exact qq|fail)
    refine kretv rfl ⟨trivial,trivial⟩ rfl (eqB ?_)
    have e1 : ¬ e.op=1:=by omega
    have e2 : ¬ e.op=2:=by omega
    have e3 : ¬ e.op=3:=by omega
    have e4 : ¬ e.op=4:=by omega
    have e5 : ¬ e.op=19:=by omega
    have e6 : ¬ e.op=20:=by omega
    have e7 : ¬ e.op=21:=by omega
    simp [fieldS,e1,e2,e3,e4,e5,e6,e7,bqd,Bool.and_assoc]<;>ac_rfl
theorem peqK18 (e:Ex):PEq (.vsl e.nk 10 e.kc) (.vsl e.nk 10 (tF cX e.kf)):=peq_vsl rfl fun i hi j hj=>by rw [kc_eq (by omega)]
abbrev rX18 (e:Ex):Row:=⟨.own,true,1,10,fun _=>nthP [vi e.op,vi e.vn,vi e.vd,vi e.um,vi e.uh,vi e.ud,vs e.nm,vi e.cnt,vi e.mode,.vsl e.nk 10 (tF cX e.kf)]⟩
theorem rX18_cl (e:Ex):rowCl (rX18 e):=fun i _ j _=>clL_nth _ j ⟨trivial,trivial,trivial,trivial,trivial,trivial,trivial,trivial,trivial,trivial,trivial⟩
theorem nb18_t {b:Bool} (h:(!b)=true):b=false:=by cases b;rfl;cases h
theorem nb18_f {b:Bool} (h:(!b)=false):b=true:=by cases b;cases h;rfl
set_option maxHeartbeats 4000000 in
theorem within_c:∀ (n:Nat) (e:Ex),n≤1000→Bd e→PureC G.P 117 [vX e,vi n] (fun r=>r=vb (validS n e))
  | 0,e,_,hb=>by
    have c1:=kids18_c e.op
    have c2:=own_c e hb.v hb.s
    refine pure_of (G:=G.toPg) (fn:=Tryz.f117) Tryz.func117 rfl rfl rfl ?_;intro Γ hk
    repeat' (first|refine gg ?_|exact trivial|with_reducible refine wA ?_ ?_|refine Y2.mk ?_ ?_|refine xs_start (id:=1) true [.take 0,.take 1,.take 2,.take 3,.take 4,.take 5,.take 6,.take 7,.one 8,.take 9,.take 10,.take 11,.take 12,.one 13,.take 14,.take 15] 0 rfl rfl (by kernel_rfl) ?_|refine zz c1 ?_|refine zz c2 ?_|refine gh ?_|exact qq|fail)
    exact kretv rfl ⟨trivial,trivial⟩ rfl rfl
  | n+1,e,hn,hb=>by
    have c1:=kids18_c e.op
    have c2:=own_c e hb.v hb.s
    have hw:IntKind.i64.wrap (((n+1:Nat):Int) - 1)=n:=by rw [w64 (by omega) (by omega)];omega
    have c3:∀ i,i < e.nk→PureC G.P 117 [vX (e.kf i),vi (IntKind.i64.wrap (((n+1:Nat):Int) - 1))] (fun r=>r=vb (validS n (e.kf i))):=fun i hi=>by
      rw [hw];exact within_c n (e.kf i) (by omega) (hb.k hi)
    have hk3:=kidsN_le e.op
    refine pure_of (G:=G.toPg) (fn:=Tryz.f117) Tryz.func117 rfl rfl rfl ?_;intro Γ hk
    repeat' (first|refine gg ?_|exact trivial|with_reducible refine wA ?_ ?_|refine Y2.mk ?_ ?_|refine xs_start (id:=1) true [.take 0,.take 1,.take 2,.take 3,.take 4,.take 5,.take 6,.take 7,.one 8,.take 9,.take 10,.take 11,.take 12,.one 13,.take 14,.take 15] 0 rfl rfl (by kernel_rfl) ?_|refine zz c1 ?_|refine zz c2 ?_|refine gh ?_|exact qq|fail)
    refine pcond (b:=!(decide ((e.nk:Int)=kidsN e.op) && fieldS e)) ?_ ?_ ?_
    · refine eqB ?_
      rw [decide_eq_false (show ¬ (((n+1:Nat):Int) < 1) by omega),show ((e.nk:Int) != kidsN e.op)=!decide ((e.nk:Int)=kidsN e.op) from by rw [← bqd];rfl]
      cases decide ((e.nk:Int)=kidsN e.op)<;>cases fieldS e<;>rfl
    · intro h
      repeat' (first|refine gg ?_|exact trivial|with_reducible refine wA ?_ ?_|refine Y2.mk ?_ ?_|refine gh ?_|exact qq|fail)
      refine kretv rfl ⟨trivial,trivial⟩ rfl (eqB ?_)
      rw [validS]
      revert h
      cases decide ((e.nk:Int)=kidsN e.op)<;>cases fieldS e<;>simp
    · intro h
      have h1:(e.nk:Int)=kidsN e.op∧fieldS e=true:=by
        revert h
        by_cases hn:(e.nk:Int)=kidsN e.op<;>cases fieldS e<;>simp [hn]
      obtain ⟨h1,h2⟩:=h1
      repeat' (first|refine gg ?_|exact trivial|with_reducible refine wA ?_ ?_|refine Y2.mk ?_ ?_|refine gh ?_|exact qq|fail)
      refine pcan (st':=⟨[(1,vi ((n+1:Nat):Int)),(2,.ptr 0 0 0),(5,vi ((0:Nat):Int))],[rX18 e]⟩) (can_rowsv [0] (k0_sel hk rfl) rfl (.cons rfl (var_eq ⟨PEq.refl _,PEq.refl _,PEq.refl _,PEq.refl _,PEq.refl _,PEq.refl _,PEq.refl _,PEq.refl _,PEq.refl _,peqK18 e,trivial⟩) .nil) tmq) ?_
      refine ploop (fun q st=>∃ i:Nat,i≤e.nk∧(∀ j,j < i→validS n (e.kf j)=true)∧q=e.nk - i∧st=⟨[(1,vi ((n+1:Nat):Int)),(2,.ptr 0 0 0),(5,vi i)],[rX18 e]⟩) e.nk ⟨0,by omega,fun j hj=>by omega,by omega,rfl⟩ ?_
      rintro _ _ ⟨i,hi,hv,rfl,rfl⟩
      repeat' (first|refine gg ?_|exact trivial|with_reducible refine wA ?_ ?_|refine Y2.mk ?_ ?_|refine gh ?_|exact qq|fail)
      refine pcond rfl ?_ ?_<;>intro hc<;>simp at hc
      · have c4:=c3 i hc
        repeat' (first|refine gg ?_|exact trivial|with_reducible refine wA ?_ ?_|refine Y2.mk ?_ ?_|refine zz c4 ?_|refine gh ?_|exact qq|fail)
        refine pcond rfl ?_ ?_<;>intro hc2
        · have hf:validS n (e.kf i)=false:=by simpa using hc2
          repeat' (first|refine gg ?_|exact trivial|with_reducible refine wA ?_ ?_|refine Y2.mk ?_ ?_|refine gh ?_|exact qq|fail)
          refine kretv rfl ⟨trivial,trivial⟩ rfl (eqB ?_)
          rw [validS,allK_no hc hf];simp
        · have hf:validS n (e.kf i)=true:=by simpa using hc2
          repeat' (first|refine gg ?_|exact trivial|with_reducible refine wA ?_ ?_|refine Y2.mk ?_ ?_|refine gh ?_|exact qq|fail)
          rw [show IntKind.i64.wrap ((i:Int)+1)=((i+1:Nat):Int) from w64 (by omega) (by omega)]
          exact kloop_next (st':=⟨[(1,vi ((n+1:Nat):Int)),(2,.ptr 0 0 0),(5,vi ((i+1:Nat):Int))],[rX18 e]⟩) (e.nk - (i+1)) (can_rowsv [0] (k0_sel hk rfl) rfl (.cons rfl (RowEq.cl (rX18_cl e)) .nil) tmq) (by omega) ⟨i+1,by omega,fun j hj=>by
            by_cases e:j=i
            · subst e;exact hf
            · exact hv j (by omega),rfl,rfl⟩
      · repeat' (first|refine gg ?_|exact trivial|with_reducible refine wA ?_ ?_|refine Y2.mk ?_ ?_|refine gh ?_|exact qq|fail)
        refine kretv rfl ⟨trivial,trivial⟩ rfl (eqB ?_)
        rw [validS,decide_eq_true h1,h2,allK_iff.2 fun j hj=>hv j (by omega)];rfl
theorem validExpr18_c (e:Ex) (hb:Bd e):PureC G.P 88 [vX e] (fun r=>r=vb (validS 32 e)):=by
  have c1:=within_c 32 e (by omega) hb
  refine pure_of (G:=G.toPg) (fn:=Tryz.f88) Tryz.func88 rfl rfl rfl ?_;intro Γ hk
  repeat' (first|refine gg ?_|exact trivial|with_reducible refine wA ?_ ?_|refine Y2.mk ?_ ?_|refine zz c1 ?_|refine gh ?_|exact qq|fail)
  exact kretv rfl ⟨trivial,trivial⟩ rfl rfl
end Go.Proofs.YtcefhgomkehokaaGreat
namespace Go.Proofs.YtcefhgomkehokaaGreat
theorem inDays_c (n:Int):PureC G.P 48 [vi n] (fun r=>r=vb (dayS n)):=by
  refine pure_of (G:=G.toPg) (fn:=Tryz.f48) Tryz.func48 rfl rfl rfl ?_;intro Γ hk
  repeat' (first|refine gg ?_|exact trivial|with_reducible refine wA ?_ ?_|refine Y2.mk ?_ ?_|refine gh ?_|exact qq|fail)
  refine kretv rfl ⟨trivial,trivial⟩ rfl (eqB ?_)
  unfold dayS
  rw [Bool.eq_iff_iff];simp
theorem isStep18_c (n d:Int) (h1 : -9223372036854775808≤n) (h2:n≤9223372036854775807):PureC G.P 90 [vr n d] (fun r=>r=vb (okR n d && (decide (0 < n) && decide (Int.tmod 100 d=0)))):=by
  have c1:=ref1Valid_c n d h1 h2
  have hne:((bif okR n d then decide (0 < n) else false) == true)=true→d≠0:=fun h=>by
    cases ho:okR n d
    · rw [ho] at h;cases h
    · have:=okR_bd ho;omega
  refine pure_of (G:=G.toPg) (fn:=Tryz.f90) Tryz.func90 rfl rfl rfl ?_;intro Γ hk
  repeat' (first|refine gg ?_|exact trivial|with_reducible refine wA ?_ ?_|refine Y2.mk ?_ ?_|exact fun h=>⟨h,hne h⟩|refine zz c1 ?_|refine gh ?_|exact qq|fail)
  refine kretv rfl ⟨trivial,trivial⟩ rfl (eqB ?_)
  have e:(Int.tmod 100 d == 0)=decide (Int.tmod 100 d=0):=by rw [Bool.eq_iff_iff];simp
  rw [e]
  cases okR n d<;>cases decide (0 < n)<;>cases decide (Int.tmod 100 d=0)<;>rfl
abbrev vX0:PV:=.agg 10 (nthP [vi 0,vi 0,vi 0,vi 0,vi 0,vi 0,vs ⟨#[]⟩,vi 0,vi 0,.val (.slice none 0 0)])
set_option maxHeartbeats 4000000 in
theorem same0_c (e:Ex):PureC G.P 86 [vX e,vX0] (fun r=>r=vb (zeroX e)):=by
  refine pure_of (G:=G.toPg) (fn:=Tryz.f86) Tryz.func86 rfl rfl rfl ?_;intro Γ hk
  repeat' (first|refine gg ?_|exact trivial|with_reducible refine wA ?_ ?_|refine Y2.mk ?_ ?_|refine gh ?_|exact qq|fail)
  refine pcond (b:=!(zeroX e)) ?_ ?_ ?_
  · refine eqB ?_
    have hb:∀ a b:Int,(a != b)=!decide (a=b):=fun a b=>by rw [← bqd];rfl
    simp [zeroX,hb,bqd,Bool.or_assoc]
  · intro h
    have h:=nb18_t h
    repeat' (first|refine gg ?_|exact trivial|with_reducible refine wA ?_ ?_|refine Y2.mk ?_ ?_|refine gh ?_|exact qq|fail)
    exact kretv rfl ⟨trivial,trivial⟩ rfl (eqB h.symm)
  · intro h
    have h:=nb18_f h
    have h0:e.nk=0:=by
      have:=h
      simp [zeroX] at this
      exact this.2.2.2.2.2.2
    repeat' (first|refine gg ?_|exact trivial|with_reducible refine wA ?_ ?_|refine Y2.mk ?_ ?_|refine gh ?_|exact qq|fail)
    refine ploopN 1 ?_
    repeat' (first|refine gg ?_|exact trivial|with_reducible refine wA ?_ ?_|refine Y2.mk ?_ ?_|refine gh ?_|exact qq|fail)
    refine pcond_n rfl (by simp [h0]) ?_
    repeat' (first|refine gg ?_|exact trivial|with_reducible refine wA ?_ ?_|refine Y2.mk ?_ ?_|refine gh ?_|exact qq|fail)
    exact kretv rfl ⟨trivial,trivial⟩ rfl (eqB h.symm)
set_option maxHeartbeats 4000000 in
theorem entries18_c (n:Nat) (f:Nat→En) (hn:n≤1000000) (hb:∀ i,i < n→-9223372036854775808≤(f i).2.1∧(f i).2.1≤9223372036854775807):PureC G.P 87 [.vsl n 3 (tF cN3 f)] (fun r=>r=vb (entsS n f)):=by
  refine pure_of (G:=G.toPg) (fn:=Tryz.f87) Tryz.func87 rfl rfl rfl ?_;intro Γ hk
  repeat' (first|refine gg ?_|exact trivial|with_reducible refine wA ?_ ?_|refine Y2.mk ?_ ?_|refine gh ?_|exact qq|fail)
  refine pcond (b:=!decide (1≤n∧n≤64)) ?_ ?_ ?_
  · refine eqB ?_
    rw [Bool.eq_iff_iff];simp;omega
  · intro h
    repeat' (first|refine gg ?_|exact trivial|with_reducible refine wA ?_ ?_|refine Y2.mk ?_ ?_|refine gh ?_|exact qq|fail)
    refine kretv rfl ⟨trivial,trivial⟩ rfl (eqB ?_)
    unfold entsS
    have:decide (1≤n∧n≤64)=false:=nb18_t h
    rw [this];rfl
  · intro h
    have h1:decide (1≤n∧n≤64)=true:=nb18_f h
    repeat' (first|refine gg ?_|exact trivial|with_reducible refine wA ?_ ?_|refine Y2.mk ?_ ?_|refine gh ?_|exact qq|fail)
    refine pcan (st':=⟨[(0,.vsl n 3 (tF cN3 f)),(3,vi ((0:Nat):Int))],[]⟩) (can_rowsv [] (k0_sel hk rfl) rfl .nil tmq) ?_
    refine ploop (fun q st=>∃ i:Nat,i≤n∧(∀ j,j < i→0≤(f j).1∧(decide ((if j=0 then -1 else (f (j - 1)).1) < (f j).1∧(f j).1≤1000000) && decS (f j).2.1 (f j).2.2)=true)∧q=n - i∧st=⟨[(0,.vsl n 3 (tF cN3 f)),(3,vi i)],[]⟩) n ⟨0,by omega,fun j hj=>by omega,by omega,rfl⟩ ?_
    rintro _ _ ⟨i,hi,hv,rfl,rfl⟩
    have hw1:IntKind.i64.wrap ((i:Int) - 1)=(i:Int) - 1:=w64 (by omega) (by omega)
    repeat' (first|refine gg ?_|exact trivial|with_reducible refine wA ?_ ?_|refine Y2.mk ?_ ?_|refine gh ?_|exact qq|fail)
    refine pcond rfl ?_ ?_<;>intro hc<;>simp at hc
    · have c1:=isDecimal_c (f i).2.1 (f i).2.2 (hb i hc).1 (hb i hc).2
      repeat' (first|refine gg ?_|exact trivial|with_reducible refine wA ?_ ?_|refine Y2.mk ?_ ?_|refine xs_start (id:=6) true [.take 0,.take 1,.take 2,.take 3,.take 4,.take 5,.take 6,.take 7,.take 8,.take 9,.take 10,.take 11,.take 12,.take 13,.take 14,.take 15,.take 16,.take 17,.take 18,.take 19,.one 20,.take 21,.take 22,.take 23,.take 24,.take 25,.take 26,.take 27,.take 28,.take 29,.take 30,.take 31,.take 32,.take 33,.take 34,.take 35,.take 36,.take 37,.take 38,.take 39,.take 40] 0 rfl rfl (by kernel_rfl) ?_|refine zz c1 ?_|refine gh ?_|exact qq|fail)
      generalize hbe:(if i=0 then -1 else (f (i - 1)).1)=be
      have hpv:(if i=0 then -1 else (f (i - 1)).1)=be:=hbe
      have hbe0 : -1≤be:=by
        by_cases e:i=0
        · rw [← hbe,if_pos e];omega
        · rw [← hbe,if_neg e];have:=(hv (i - 1) (by omega)).1;omega
      refine pcond (b:=!(decide (be < (f i).1∧(f i).1≤1000000) && decS (f i).2.1 (f i).2.2)) ?_ ?_ ?_
      · refine eqB ?_
        rw [hw1]
        rw [show ((i:Int)).toNat=i by omega,show ((i:Int) - 1).toNat=i - 1 by omega]
        by_cases e:i=0
        · have e2:be=-1:=by rw [← hbe,if_pos e]
          rw [e2,decide_eq_false (show ¬ (0:Int) < (i:Int) by omega)]
          by_cases q1:(f i).1 < 0<;>by_cases q2:(1000000:Int) < (f i).1<;>cases decS (f i).2.1 (f i).2.2<;>simp [q1,q2]<;>omega
        · have e2:(f (i - 1)).1=be:=by rw [← hbe,if_neg e]
          have e3:=(hv (i - 1) (by omega)).1
          rw [e2,decide_eq_true (show (0:Int) < (i:Int) by omega)]
          by_cases q1:(f i).1 < 0<;>by_cases q2:(1000000:Int) < (f i).1<;>by_cases q3:(f i).1≤be<;>cases decS (f i).2.1 (f i).2.2<;>simp [q1,q2,q3]<;>omega
      · intro h2
        repeat' (first|refine gg ?_|exact trivial|with_reducible refine wA ?_ ?_|refine Y2.mk ?_ ?_|refine gh ?_|exact qq|fail)
        refine kretv rfl ⟨trivial,trivial⟩ rfl (eqB ?_)
        have:(decide ((if i=0 then -1 else (f (i - 1)).1) < (f i).1∧(f i).1≤1000000) && decS (f i).2.1 (f i).2.2)=false:=by rw [hbe];exact nb18_t h2
        unfold entsS
        rw [allK_no hc this];simp
      · intro h2
        have hg:(decide (be < (f i).1∧(f i).1≤1000000) && decS (f i).2.1 (f i).2.2)=true:=nb18_f h2
        repeat' (first|refine gg ?_|exact trivial|with_reducible refine wA ?_ ?_|refine Y2.mk ?_ ?_|refine gh ?_|exact qq|fail)
        rw [show IntKind.i64.wrap ((i:Int)+1)=((i+1:Nat):Int) from w64 (by omega) (by omega)]
        exact kloop_next (st':=⟨[(0,.vsl n 3 (tF cN3 f)),(3,vi ((i+1:Nat):Int))],[]⟩) (n - (i+1)) (can_rowsv [] (k0_sel hk rfl) rfl .nil tmq) (by omega) ⟨i+1,by omega,fun j hj=>by
          by_cases e:j=i
          · subst e
            refine ⟨?_,by rw [hbe];exact hg⟩
            simp only [Bool.and_eq_true,decide_eq_true_eq] at hg
            omega
          · exact hv j (by omega),rfl,rfl⟩
    · repeat' (first|refine gg ?_|exact trivial|with_reducible refine wA ?_ ?_|refine Y2.mk ?_ ?_|refine gh ?_|exact qq|fail)
      refine kretv rfl ⟨trivial,trivial⟩ rfl (eqB ?_)
      unfold entsS
      rw [h1,allK_iff.2 fun j hj=>(hv j (by omega)).2];rfl
theorem tz18_eq (t:Ty):tz t=(!t.b && (decide (t.m=0) && (decide (t.h=0) && decide (t.d=0)))):=by
  obtain ⟨b,m,h,d⟩:=t
  unfold tz
  rw [Bool.eq_iff_iff];simp
theorem step18_eq (n d:Int):stepS n d=(okR n d && (decide (0 < n) && decide (Int.tmod 100 d=0))):=by
  unfold stepS decS
  rw [Bool.eq_iff_iff]
  simp only [Bool.and_eq_true,decide_eq_true_eq]
  constructor
  · rintro ⟨⟨h1,_,_⟩,h2,h3⟩;exact ⟨h1,h2,h3⟩
  · rintro ⟨h1,h2,h3⟩
    refine ⟨⟨h1,by omega,?_⟩,h2,h3⟩
    have hd:d ∣ 100:=Int.dvd_of_tmod_eq_zero h3
    exact Int.tmod_eq_zero_of_dvd (Int.dvd_trans hd ⟨10000,rfl⟩)
end Go.Proofs.YtcefhgomkehokaaGreat
namespace Go.Proofs.YtcefhgomkehokaaGreat
theorem typ18_eq (t:Ty):typS t=(unitS t.m t.h t.d && (!t.b || (decide (t.m=0) && (decide (t.h=0) && decide (t.d=0))))):=by
  unfold typS
  cases t.b
  · simp
  · rw [if_pos rfl,Bool.eq_iff_iff]
    simp [unitS]
    omega
set_option maxHeartbeats 8000000 in
theorem vd1 (d:Df) (hb:BdD d) (h:d.kind=1):PureC G.P 73 [.agg 21 (nthP (cD d))] (fun r=>r=vb (nameS d.nm && defS d)):=by
  have c_u:=isUnit18_c d.ty.m d.ty.h d.ty.d
  have c_z:=same0_c d.body
  have c_nm:=isName17_c d.nm hb.nm
  refine pure_of (G:=G.toPg) (fn:=Tryz.f73) Tryz.func73 rfl rfl rfl ?_;intro Γ hk
  repeat' (first|refine gg ?_|exact trivial|with_reducible refine wA ?_ ?_|refine Y2.mk ?_ ?_|refine xs_start (id:=2) true [.take 0,.take 1,.take 2,.take 3,.take 4,.take 5,.take 6,.take 7,.take 8,.take 9,.one 10,.take 11,.take 12,.take 13] 0 rfl rfl (by kernel_rfl) ?_|refine xs_start (id:=10) true [.take 0,.take 1,.take 2,.take 3,.take 4,.take 5,.take 6,.take 7,.take 8,.take 10,.take 11,.one 9,.one 12,.take 13,.take 14,.take 15] 0 rfl rfl (by kernel_rfl) ?_|refine xs_start (id:=12) true [.take 0,.take 1,.take 3,.take 4,.one 2,.one 5,.take 6,.take 7] 0 rfl rfl (by kernel_rfl) ?_|refine xs_start (id:=14) true [.take 0,.take 1,.take 2,.take 3,.take 4,.take 5,.take 7,.take 8,.one 6,.one 9,.take 10,.take 11,.take 12] 0 rfl rfl (by kernel_rfl) ?_|(refine pcond_y rfl (by rw [h];rfl) ?_)|(refine pcond_n rfl (by rw [h];rfl) ?_)|refine zz c_u ?_|refine zz c_z ?_|refine zz c_nm ?_|refine gh ?_|exact qq|fail)
  refine kretv rfl ⟨trivial,trivial⟩ rfl (eqB ?_)
  rw [show defS d=(typS d.ty && (decide (d.day=0) && (decide (d.ne=0) && (zeroX d.body && (decide (d.mode=0) && decide (d.sn=0∧d.sd=0)))))) from by simp [defS,h],typ18_eq d.ty]
  simp [bqd,Bool.and_assoc]<;>ac_rfl
set_option maxHeartbeats 8000000 in
theorem vd5 (d:Df) (hb:BdD d) (h:d.kind=5):PureC G.P 73 [.agg 21 (nthP (cD d))] (fun r=>r=vb (nameS d.nm && defS d)):=by
  have c_u:=isUnit18_c d.ty.m d.ty.h d.ty.d
  have c_z:=same0_c d.body
  have c_nm:=isName17_c d.nm hb.nm
  refine pure_of (G:=G.toPg) (fn:=Tryz.f73) Tryz.func73 rfl rfl rfl ?_;intro Γ hk
  repeat' (first|refine gg ?_|exact trivial|with_reducible refine wA ?_ ?_|refine Y2.mk ?_ ?_|refine xs_start (id:=2) true [.take 0,.take 1,.take 2,.take 3,.take 4,.take 5,.take 6,.take 7,.take 8,.take 9,.one 10,.take 11,.take 12,.take 13] 0 rfl rfl (by kernel_rfl) ?_|refine xs_start (id:=10) true [.take 0,.take 1,.take 2,.take 3,.take 4,.take 5,.take 6,.take 7,.take 8,.take 10,.take 11,.one 9,.one 12,.take 13,.take 14,.take 15] 0 rfl rfl (by kernel_rfl) ?_|refine xs_start (id:=12) true [.take 0,.take 1,.take 3,.take 4,.one 2,.one 5,.take 6,.take 7] 0 rfl rfl (by kernel_rfl) ?_|refine xs_start (id:=14) true [.take 0,.take 1,.take 2,.take 3,.take 4,.take 5,.take 7,.take 8,.one 6,.one 9,.take 10,.take 11,.take 12] 0 rfl rfl (by kernel_rfl) ?_|(refine pcond_y rfl (by rw [h];rfl) ?_)|(refine pcond_n rfl (by rw [h];rfl) ?_)|refine zz c_u ?_|refine zz c_z ?_|refine zz c_nm ?_|refine gh ?_|exact qq|fail)
  refine kretv rfl ⟨trivial,trivial⟩ rfl (eqB ?_)
  rw [show defS d=((typS d.ty && !d.ty.b) && (decide (d.day=0) && (decide (d.ne=0) && (zeroX d.body && (decide (d.mode=0) && decide (d.sn=0∧d.sd=0)))))) from by simp [defS,h],typ18_eq d.ty]
  simp [bqd,Bool.and_assoc]<;>ac_rfl
set_option maxHeartbeats 8000000 in
theorem vd2 (d:Df) (hb:BdD d) (h:d.kind=2):PureC G.P 73 [.agg 21 (nthP (cD d))] (fun r=>r=vb (nameS d.nm && defS d)):=by
  have c_u:=isUnit18_c d.ty.m d.ty.h d.ty.d
  have c_z:=same0_c d.body
  have c_nm:=isName17_c d.nm hb.nm
  have c_day:=inDays_c d.day
  have c_en:=entries18_c d.ne d.ef hb.ne hb.ef
  refine pure_of (G:=G.toPg) (fn:=Tryz.f73) Tryz.func73 rfl rfl rfl ?_;intro Γ hk
  repeat' (first|refine gg ?_|exact trivial|with_reducible refine wA ?_ ?_|refine Y2.mk ?_ ?_|refine xs_start (id:=2) true [.take 0,.take 1,.take 2,.take 3,.take 4,.take 5,.take 6,.take 7,.take 8,.take 9,.one 10,.take 11,.take 12,.take 13] 0 rfl rfl (by kernel_rfl) ?_|refine xs_start (id:=10) true [.take 0,.take 1,.take 2,.take 3,.take 4,.take 5,.take 6,.take 7,.take 8,.take 10,.take 11,.one 9,.one 12,.take 13,.take 14,.take 15] 0 rfl rfl (by kernel_rfl) ?_|refine xs_start (id:=12) true [.take 0,.take 1,.take 3,.take 4,.one 2,.one 5,.take 6,.take 7] 0 rfl rfl (by kernel_rfl) ?_|refine xs_start (id:=14) true [.take 0,.take 1,.take 2,.take 3,.take 4,.take 5,.take 7,.take 8,.one 6,.one 9,.take 10,.take 11,.take 12] 0 rfl rfl (by kernel_rfl) ?_|(refine pcond_y rfl (by rw [h];rfl) ?_)|(refine pcond_n rfl (by rw [h];rfl) ?_)|refine zz c_u ?_|refine zz c_z ?_|refine zz c_nm ?_|refine zz c_day ?_|refine zz c_en ?_|refine gh ?_|exact qq|fail)
  refine kretv rfl ⟨trivial,trivial⟩ rfl (eqB ?_)
  rw [show defS d=((typS d.ty && !d.ty.b) && (dayS d.day && (entsS d.ne d.ef && (zeroX d.body && (decide (d.mode=0) && decide (d.sn=0∧d.sd=0)))))) from by simp [defS,h],typ18_eq d.ty]
  simp [bqd,Bool.and_assoc]<;>ac_rfl
set_option maxHeartbeats 8000000 in
theorem vd3 (d:Df) (hb:BdD d) (h:d.kind=3):PureC G.P 73 [.agg 21 (nthP (cD d))] (fun r=>r=vb (nameS d.nm && defS d)):=by
  have c_u:=isUnit18_c d.ty.m d.ty.h d.ty.d
  have c_z:=same0_c d.body
  have c_nm:=isName17_c d.nm hb.nm
  have c_day:=inDays_c d.day
  have c_x:=validExpr18_c d.body hb.body
  refine pure_of (G:=G.toPg) (fn:=Tryz.f73) Tryz.func73 rfl rfl rfl ?_;intro Γ hk
  repeat' (first|refine gg ?_|exact trivial|with_reducible refine wA ?_ ?_|refine Y2.mk ?_ ?_|refine xs_start (id:=2) true [.take 0,.take 1,.take 2,.take 3,.take 4,.take 5,.take 6,.take 7,.take 8,.take 9,.one 10,.take 11,.take 12,.take 13] 0 rfl rfl (by kernel_rfl) ?_|refine xs_start (id:=10) true [.take 0,.take 1,.take 2,.take 3,.take 4,.take 5,.take 6,.take 7,.take 8,.take 10,.take 11,.one 9,.one 12,.take 13,.take 14,.take 15] 0 rfl rfl (by kernel_rfl) ?_|refine xs_start (id:=12) true [.take 0,.take 1,.take 3,.take 4,.one 2,.one 5,.take 6,.take 7] 0 rfl rfl (by kernel_rfl) ?_|refine xs_start (id:=14) true [.take 0,.take 1,.take 2,.take 3,.take 4,.take 5,.take 7,.take 8,.one 6,.one 9,.take 10,.take 11,.take 12] 0 rfl rfl (by kernel_rfl) ?_|(refine pcond_y rfl (by rw [h];rfl) ?_)|(refine pcond_n rfl (by rw [h];rfl) ?_)|refine zz c_u ?_|refine zz c_z ?_|refine zz c_nm ?_|refine zz c_day ?_|refine zz c_x ?_|refine gh ?_|exact qq|fail)
  refine kretv rfl ⟨trivial,trivial⟩ rfl (eqB ?_)
  rw [show defS d=(typS d.ty && (dayS d.day && (decide (d.ne=0) && (validS 32 d.body && (decide (d.mode=0) && decide (d.sn=0∧d.sd=0)))))) from by simp [defS,h],typ18_eq d.ty]
  simp [bqd,Bool.and_assoc]<;>ac_rfl
set_option maxHeartbeats 8000000 in
theorem vd4 (d:Df) (hb:BdD d) (h:d.kind=4):PureC G.P 73 [.agg 21 (nthP (cD d))] (fun r=>r=vb (nameS d.nm && defS d)):=by
  have c_u:=isUnit18_c d.ty.m d.ty.h d.ty.d
  have c_z:=same0_c d.body
  have c_nm:=isName17_c d.nm hb.nm
  have c_day:=inDays_c d.day
  have c_x:=validExpr18_c d.body hb.body
  have c_mo:=mode2_c d.mode
  have c_st:=isStep18_c d.sn d.sd hb.st.1 hb.st.2
  refine pure_of (G:=G.toPg) (fn:=Tryz.f73) Tryz.func73 rfl rfl rfl ?_;intro Γ hk
  repeat' (first|refine gg ?_|exact trivial|with_reducible refine wA ?_ ?_|refine Y2.mk ?_ ?_|refine xs_start (id:=2) true [.take 0,.take 1,.take 2,.take 3,.take 4,.take 5,.take 6,.take 7,.take 8,.take 9,.one 10,.take 11,.take 12,.take 13] 0 rfl rfl (by kernel_rfl) ?_|refine xs_start (id:=10) true [.take 0,.take 1,.take 2,.take 3,.take 4,.take 5,.take 6,.take 7,.take 8,.take 10,.take 11,.one 9,.one 12,.take 13,.take 14,.take 15] 0 rfl rfl (by kernel_rfl) ?_|refine xs_start (id:=12) true [.take 0,.take 1,.take 3,.take 4,.one 2,.one 5,.take 6,.take 7] 0 rfl rfl (by kernel_rfl) ?_|refine xs_start (id:=14) true [.take 0,.take 1,.take 2,.take 3,.take 4,.take 5,.take 7,.take 8,.one 6,.one 9,.take 10,.take 11,.take 12] 0 rfl rfl (by kernel_rfl) ?_|(refine pcond_y rfl (by rw [h];rfl) ?_)|(refine pcond_n rfl (by rw [h];rfl) ?_)|refine zz c_u ?_|refine zz c_z ?_|refine zz c_nm ?_|refine zz c_day ?_|refine zz c_x ?_|refine zz c_mo ?_|refine zz c_st ?_|refine gh ?_|exact qq|fail)
  refine kretv rfl ⟨trivial,trivial⟩ rfl (eqB ?_)
  rw [show defS d=(tz d.ty && (dayS d.day && (decide (d.ne=0) && (validS 32 d.body && (modeB d.mode && stepS d.sn d.sd))))) from by simp [defS,h],tz18_eq d.ty,step18_eq]
  simp [bqd,Bool.and_assoc]<;>ac_rfl
set_option maxHeartbeats 8000000 in
theorem vd0 (d:Df) (hb:BdD d) (e1 : ¬ d.kind=1) (e2 : ¬ d.kind=2) (e3 : ¬ d.kind=3) (e4 : ¬ d.kind=4) (e5 : ¬ d.kind=5):PureC G.P 73 [.agg 21 (nthP (cD d))] (fun r=>r=vb (nameS d.nm && defS d)):=by
  have c_u:=isUnit18_c d.ty.m d.ty.h d.ty.d
  have c_z:=same0_c d.body
  refine pure_of (G:=G.toPg) (fn:=Tryz.f73) Tryz.func73 rfl rfl rfl ?_;intro Γ hk
  repeat' (first|refine gg ?_|exact trivial|with_reducible refine wA ?_ ?_|refine Y2.mk ?_ ?_|refine xs_start (id:=2) true [.take 0,.take 1,.take 2,.take 3,.take 4,.take 5,.take 6,.take 7,.take 8,.take 9,.one 10,.take 11,.take 12,.take 13] 0 rfl rfl (by kernel_rfl) ?_|refine xs_start (id:=10) true [.take 0,.take 1,.take 2,.take 3,.take 4,.take 5,.take 6,.take 7,.take 8,.take 10,.take 11,.one 9,.one 12,.take 13,.take 14,.take 15] 0 rfl rfl (by kernel_rfl) ?_|refine xs_start (id:=12) true [.take 0,.take 1,.take 3,.take 4,.one 2,.one 5,.take 6,.take 7] 0 rfl rfl (by kernel_rfl) ?_|refine xs_start (id:=14) true [.take 0,.take 1,.take 2,.take 3,.take 4,.take 5,.take 7,.take 8,.one 6,.one 9,.take 10,.take 11,.take 12] 0 rfl rfl (by kernel_rfl) ?_|(refine pcond_n rfl (by simp;omega) ?_)|refine zz c_u ?_|refine zz c_z ?_|refine gh ?_|exact qq|fail)
  refine kretv rfl ⟨trivial,trivial⟩ rfl (eqB ?_)
  simp [defS,e1,e2,e3,e4,e5]
theorem validDef18_c (d:Df) (hb:BdD d):PureC G.P 73 [.agg 21 (nthP (cD d))] (fun r=>r=vb (nameS d.nm && defS d)):=by
  by_cases e1:d.kind=1
  · exact vd1 d hb e1
  by_cases e2:d.kind=2
  · exact vd2 d hb e2
  by_cases e3:d.kind=3
  · exact vd3 d hb e3
  by_cases e4:d.kind=4
  · exact vd4 d hb e4
  by_cases e5:d.kind=5
  · exact vd5 d hb e5
  exact vd0 d hb e1 e2 e3 e4 e5
end Go.Proofs.YtcefhgomkehokaaGreat
namespace Go.Proofs.YtcefhgomkehokaaGreat
abbrev rAg18 (nm:ByteArray) (l:List Df):Row:=⟨.own,true,1,2,fun _=>nthP [vs nm,vDs l]⟩
theorem valid18_c (nm:ByteArray) (l:List Df) (hs:nm.size≤9223372036854775807) (hb:∀ d,d ∈ l→BdD d):PureC G.P 47 [vA nm l] (fun r=>r=vb (agrS nm l)):=by
  have c1:=isName17_c nm hs
  have at_:∀ i,i < l.length→lF dD l i ∈ l:=fun i hi=>by
    unfold lF;rw [List.getD_eq_getElem?_getD,List.getElem?_eq_getElem hi];exact List.getElem_mem _
  refine pure_of (G:=G.toPg) (fn:=Tryz.f47) Tryz.func47 rfl rfl rfl ?_;intro Γ hk
  repeat' (first|refine gg ?_|exact trivial|with_reducible refine wA ?_ ?_|refine Y2.mk ?_ ?_|refine zz c1 ?_|refine gh ?_|exact qq|fail)
  refine pcond (b:=!(nameS nm && decide (l.length≤128))) ?_ ?_ ?_
  · refine eqB ?_
    show (bif !nameS nm then true else decide ((128:Int) < (l.length:Int)))=_
    cases nameS nm
    · rfl
    · rw [Bool.eq_iff_iff];simp;omega
  · intro h
    repeat' (first|refine gg ?_|exact trivial|with_reducible refine wA ?_ ?_|refine Y2.mk ?_ ?_|refine gh ?_|exact qq|fail)
    refine kretv rfl ⟨trivial,trivial⟩ rfl (eqB ?_)
    have:=nb18_t h
    unfold agrS
    revert this
    cases nameS nm<;>cases decide (l.length≤128)<;>simp
  · intro h
    have h2:=nb18_f h
    have h3:nameS nm=true∧l.length≤128:=by simpa using h2
    repeat' (first|refine gg ?_|exact trivial|with_reducible refine wA ?_ ?_|refine Y2.mk ?_ ?_|refine gh ?_|exact qq|fail)
    refine pcan (st':=⟨[(1,.ptr 0 0 0),(3,vi ((0:Nat):Int))],[rAg18 nm l]⟩) (can_rowsv [0] (k0_sel hk rfl) rfl (.cons rfl rqq .nil) tmq) ?_
    refine ploop (fun q st=>∃ i:Nat,i≤l.length∧(∀ j,j < i→(nameS (lF dD l j).nm && defS (lF dD l j))=true)∧q=l.length - i∧st=⟨[(1,.ptr 0 0 0),(3,vi i)],[rAg18 nm l]⟩) l.length ⟨0,by omega,fun j hj=>by omega,by omega,rfl⟩ ?_
    rintro _ _ ⟨i,hi,hv,rfl,rfl⟩
    repeat' (first|refine gg ?_|exact trivial|with_reducible refine wA ?_ ?_|refine Y2.mk ?_ ?_|refine gh ?_|exact qq|fail)
    refine pcond rfl ?_ ?_<;>intro hc<;>simp at hc
    · have hbd:=hb _ (at_ i hc)
      have c3:=validDef18_c (lF dD l i) hbd
      repeat' (first|refine gg ?_|exact trivial|with_reducible refine wA ?_ ?_|refine Y2.mk ?_ ?_|refine zz c3 ?_|refine gh ?_|exact qq|fail)
      refine pcond (b:=!(nameS (lF dD l i).nm && defS (lF dD l i))) ?_ ?_ ?_
      · exact eqB rfl
      · intro h4
        have h5:=nb18_t h4
        repeat' (first|refine gg ?_|exact trivial|with_reducible refine wA ?_ ?_|refine Y2.mk ?_ ?_|refine gh ?_|exact qq|fail)
        refine kretv rfl ⟨trivial,trivial⟩ rfl (eqB ?_)
        unfold agrS
        have:l.all (fun d=>nameS d.nm && defS d)=false:=by
          rw [List.all_eq_false]
          exact ⟨_,at_ i hc,by rw [h5];simp⟩
        rw [this];simp
      · intro h4
        have h5:=nb18_f h4
        repeat' (first|refine gg ?_|exact trivial|with_reducible refine wA ?_ ?_|refine Y2.mk ?_ ?_|refine gh ?_|exact qq|fail)
        rw [show IntKind.i64.wrap ((i:Int)+1)=((i+1:Nat):Int) from w64 (by omega) (by omega)]
        exact kloop_next (st':=⟨[(1,.ptr 0 0 0),(3,vi ((i+1:Nat):Int))],[rAg18 nm l]⟩) (l.length - (i+1)) (can_rowsv [0] (k0_sel hk rfl) rfl (.cons rfl rqq .nil) tmq) (by omega) ⟨i+1,by omega,fun j hj=>by
          by_cases e:j=i
          · subst e;exact h5
          · exact hv j (by omega),rfl,rfl⟩
    · repeat' (first|refine gg ?_|exact trivial|with_reducible refine wA ?_ ?_|refine Y2.mk ?_ ?_|refine gh ?_|exact qq|fail)
      refine kretv rfl ⟨trivial,trivial⟩ rfl (eqB ?_)
      unfold agrS
      have:l.all (fun d=>nameS d.nm && defS d)=true:=by
        rw [List.all_eq_true]
        intro d hd
        obtain ⟨j,hj,e⟩:=List.getElem_of_mem hd
        have:=hv j (by omega)
        unfold lF at this
        rw [List.getD_eq_getElem?_getD,List.getElem?_eq_getElem hj,e] at this
        exact this
      rw [h3.1,decide_eq_true h3.2,this];rfl
end Go.Proofs.YtcefhgomkehokaaGreat
namespace Go.Proofs.YtcefhgomkehokaaGreat
theorem dated_c (k:Int):PureC G.P 75 [vi k] (fun r=>r=vb (decide (k=2∨k=3∨k=4))):=by
  refine pure_of (G:=G.toPg) (fn:=Tryz.f75) Tryz.func75 rfl rfl rfl ?_;intro Γ hk
  repeat' (first|refine gg ?_|exact trivial|with_reducible refine wA ?_ ?_|refine Y2.mk ?_ ?_|refine gh ?_|exact qq|fail)
  refine kretv rfl ⟨trivial,trivial⟩ rfl (eqB ?_)
  by_cases e1:k=2<;>by_cases e2:k=3<;>by_cases e3:k=4<;>simp [e1,e2,e3]
theorem isRoutine_c (d:Df):PureC G.P 50 [vD d] (fun r=>r=vb (comp d)):=by
  refine pure_of (G:=G.toPg) (fn:=Tryz.f50) Tryz.func50 rfl rfl rfl ?_;intro Γ hk
  repeat' (first|refine gg ?_|exact trivial|with_reducible refine wA ?_ ?_|refine Y2.mk ?_ ?_|refine gh ?_|exact qq|fail)
  refine kretv rfl ⟨trivial,trivial⟩ rfl (eqB ?_)
  unfold comp
  by_cases e1:d.kind=3<;>by_cases e2:d.kind=4<;>simp [e1,e2]
theorem has_c (L:List Int) (x:Int) (hL:L.length≤1000000):PureC G.P 49 [sV L,vi x] (fun r=>r=vb (decide (x ∈ L))):=by
  refine pure_of (G:=G.toPg) (fn:=Tryz.f49) Tryz.func49 rfl rfl rfl ?_;intro Γ hk
  repeat' (first|refine gg ?_|exact trivial|with_reducible refine wA ?_ ?_|refine Y2.mk ?_ ?_|refine gh ?_|exact qq|fail)
  refine pcan (st':=⟨[(0,sV L),(1,vi x),(5,vi ((0:Nat):Int))],[]⟩) (can_rowsv [] (k0_sel hk rfl) rfl .nil tmq) ?_
  refine ploop (fun q st=>∃ i:Nat,i≤L.length∧(∀ j,j < i→lF 0 L j≠x)∧q=L.length - i∧st=⟨[(0,sV L),(1,vi x),(5,vi i)],[]⟩) L.length ⟨0,Nat.zero_le _,fun j hj=>absurd hj (Nat.not_lt_zero j),rfl,rfl⟩ ?_
  rintro _ _ ⟨i,hi,hv,rfl,rfl⟩
  have hw1:IntKind.i64.wrap ((i:Int)+1)=((i+1:Nat):Int):=w64 (by omega) (by omega)
  repeat' (first|refine gg ?_|exact trivial|with_reducible refine wA ?_ ?_|refine Y2.mk ?_ ?_|refine gh ?_|exact qq|fail)
  refine pcond rfl ?_ ?_<;>intro hc
  · have hc:i < L.length:=by have:=of_decide_eq_true hc;omega
    repeat' (first|refine gg ?_|exact trivial|with_reducible refine wA ?_ ?_|refine Y2.mk ?_ ?_|refine gh ?_|exact qq|fail)
    refine pcond (b:=decide (lF 0 L i=x)) ?_ ?_ ?_
    · exact eqB (bqd _ _)
    · intro h1
      have h1:=of_decide_eq_true h1
      repeat' (first|refine gg ?_|exact trivial|with_reducible refine wA ?_ ?_|refine Y2.mk ?_ ?_|refine gh ?_|exact qq|fail)
      refine kretv rfl ⟨trivial,trivial⟩ rfl (eqB ?_)
      rw [← h1,lF_get' hc,decide_eq_true (List.getElem_mem hc)]
    · intro h1
      have h1:=of_decide_eq_false h1
      repeat' (first|refine gg ?_|exact trivial|with_reducible refine wA ?_ ?_|refine Y2.mk ?_ ?_|refine gh ?_|exact qq|fail)
      rw [hw1]
      exact kloop_next (st':=⟨[(0,sV L),(1,vi x),(5,vi ((i+1:Nat):Int))],[]⟩) (L.length - (i+1)) (can_rowsv [] (k0_sel hk rfl) rfl .nil tmq) (by omega) ⟨i+1,by omega,fun j hj=>by
        by_cases e:j=i
        · subst e;exact h1
        · exact hv j (by omega),rfl,rfl⟩
  · have hil:i=L.length:=by have:=of_decide_eq_false hc;omega
    subst hil
    repeat' (first|refine gg ?_|exact trivial|with_reducible refine wA ?_ ?_|refine Y2.mk ?_ ?_|refine gh ?_|exact qq|fail)
    refine kretv rfl ⟨trivial,trivial⟩ rfl (eqB ?_)
    refine (decide_eq_false fun h=>?_).symm
    obtain ⟨m,hm,e⟩:=List.getElem_of_mem h
    exact hv m hm (by rw [lF_get' hm];exact e)
theorem ready_c (A B:List Int) (hA:A.length≤1000000) (hB:B.length≤1000000):PureC G.P 53 [sV A,sV B] (fun r=>r=vb (B.all fun y=>decide (y ∈ A))):=by
  refine pure_of (G:=G.toPg) (fn:=Tryz.f53) Tryz.func53 rfl rfl rfl ?_;intro Γ hk
  repeat' (first|refine gg ?_|exact trivial|with_reducible refine wA ?_ ?_|refine Y2.mk ?_ ?_|refine gh ?_|exact qq|fail)
  refine pcan (st':=⟨[(0,sV A),(1,sV B),(5,vi ((0:Nat):Int))],[]⟩) (can_rowsv [] (k0_sel hk rfl) rfl .nil tmq) ?_
  refine ploop (fun q st=>∃ i:Nat,i≤B.length∧(∀ j,j < i→lF 0 B j ∈ A)∧q=B.length - i∧st=⟨[(0,sV A),(1,sV B),(5,vi i)],[]⟩) B.length ⟨0,Nat.zero_le _,fun j hj=>absurd hj (Nat.not_lt_zero j),rfl,rfl⟩ ?_
  rintro _ _ ⟨i,hi,hv,rfl,rfl⟩
  have hw1:IntKind.i64.wrap ((i:Int)+1)=((i+1:Nat):Int):=w64 (by omega) (by omega)
  repeat' (first|refine gg ?_|exact trivial|with_reducible refine wA ?_ ?_|refine Y2.mk ?_ ?_|refine gh ?_|exact qq|fail)
  refine pcond rfl ?_ ?_<;>intro hc
  · have hc:i < B.length:=by have:=of_decide_eq_true hc;omega
    have ch:=has_c A (lF 0 B i) hA
    repeat' (first|refine gg ?_|exact trivial|with_reducible refine wA ?_ ?_|refine Y2.mk ?_ ?_|refine zz ch ?_|refine gh ?_|exact qq|fail)
    refine pcond (b:=!decide (lF 0 B i ∈ A)) ?_ ?_ ?_
    · exact eqB rfl
    · intro h1
      have h1:=of_decide_eq_false (nv_t h1)
      repeat' (first|refine gg ?_|exact trivial|with_reducible refine wA ?_ ?_|refine Y2.mk ?_ ?_|refine gh ?_|exact qq|fail)
      refine kretv rfl ⟨trivial,trivial⟩ rfl (eqB ?_)
      symm
      rw [List.all_eq_false]
      exact ⟨lF 0 B i,by rw [lF_get' hc];exact List.getElem_mem hc,by simpa using h1⟩
    · intro h1
      have h1:=of_decide_eq_true (nv_f h1)
      repeat' (first|refine gg ?_|exact trivial|with_reducible refine wA ?_ ?_|refine Y2.mk ?_ ?_|refine gh ?_|exact qq|fail)
      rw [hw1]
      exact kloop_next (st':=⟨[(0,sV A),(1,sV B),(5,vi ((i+1:Nat):Int))],[]⟩) (B.length - (i+1)) (can_rowsv [] (k0_sel hk rfl) rfl .nil tmq) (by omega) ⟨i+1,by omega,fun j hj=>by
        by_cases e:j=i
        · subst e;exact h1
        · exact hv j (by omega),rfl,rfl⟩
  · have hil:i=B.length:=by have:=of_decide_eq_false hc;omega
    subst hil
    repeat' (first|refine gg ?_|exact trivial|with_reducible refine wA ?_ ?_|refine Y2.mk ?_ ?_|refine gh ?_|exact qq|fail)
    refine kretv rfl ⟨trivial,trivial⟩ rfl (eqB ?_)
    symm
    rw [List.all_eq_true]
    intro y hy
    obtain ⟨m,hm,rfl⟩:=List.getElem_of_mem hy
    rw [← lF_get' hm]
    exact decide_eq_true (hv m hm)
theorem defS_kind {d:Df} (h:defS d=true):d.kind=1∨d.kind=2∨d.kind=3∨d.kind=4∨d.kind=5:=by
  unfold defS at h
  by_cases k1:d.kind=1
  · exact .inl k1
  · rw [if_neg k1] at h
    by_cases k5:d.kind=5
    · exact .inr (.inr (.inr (.inr k5)))
    · rw [if_neg k5] at h
      by_cases k2:d.kind=2
      · exact .inr (.inl k2)
      · rw [if_neg k2] at h
        by_cases k3:d.kind=3
        · exact .inr (.inr (.inl k3))
        · rw [if_neg k3] at h
          by_cases k4:d.kind=4
          · exact .inr (.inr (.inr (.inl k4)))
          · rw [if_neg k4] at h;cases h
set_option maxHeartbeats 8000000 in
theorem active21_c (nm:ByteArray) (l:List Df) (day:Int) (i:Nat) (hi:i < l.length) (hl:l.length≤1000000) (hd:defS (lF dD l i)=true):PureC G.P 54 [vA nm l,vi day,vi i] (fun r=>r=vb (isAct l day i)):=by
  have hkd:=defS_kind hd
  have cd:=dated_c (lF dD l i).kind
  refine pure_of (G:=G.toPg) (fn:=Tryz.f54) Tryz.func54 rfl rfl rfl ?_;intro Γ hk
  repeat' (first|refine gg ?_|exact trivial|with_reducible refine wA ?_ ?_|refine Y2.mk ?_ ?_|exact ⟨(show (0:Int)≤(i:Int) by omega),(show ((i:Nat):Int) < ((l.length:Nat):Int) by omega)⟩|exact ⟨(show ((i:Nat):Int).toNat < l.length by omega)⟩|exact (show ((i:Nat):Int).toNat < l.length by omega)|refine zz cd ?_|refine gh ?_|exact qq|fail)
  refine pcond (b:=!decide ((lF dD l i).kind=2∨(lF dD l i).kind=3∨(lF dD l i).kind=4)) ?_ ?_ ?_
  · exact eqB rfl
  · intro h1
    have h1:=of_decide_eq_false (nv_t h1)
    repeat' (first|refine gg ?_|exact trivial|with_reducible refine wA ?_ ?_|refine Y2.mk ?_ ?_|refine gh ?_|exact qq|fail)
    refine kretv rfl ⟨trivial,trivial⟩ rfl (eqB ?_)
    unfold isAct
    rw [decide_eq_true (by omega:(lF dD l i).kind=1∨(lF dD l i).kind=5)];rfl
  · intro h1
    have h1:=of_decide_eq_true (nv_f h1)
    have h15 : ¬ ((lF dD l i).kind=1∨(lF dD l i).kind=5):=by omega
    repeat' (first|refine gg ?_|exact trivial|with_reducible refine wA ?_ ?_|refine Y2.mk ?_ ?_|refine gh ?_|exact qq|fail)
    refine pcan (st':=⟨[(1,vi day),(2,vi i),(3,.ptr 0 0 0),(7,.ptr 1 0 0),(8,vi ((0:Nat):Int))],[rA1 nm l,rD1 (lF dD l i)]⟩) (can_rowsv [0,1] (k0_sel hk rfl) rfl (.cons rfl (RowEq.cl (rA1_cl _ _)) (.cons rfl (RowEq.cl (rD1_cl _)) .nil)) tmq) ?_
    refine ploop (fun q st=>∃ j:Nat,j≤l.length∧(∀ j',j' < j→supB l day i j'=false)∧q=l.length - j∧st=⟨[(1,vi day),(2,vi i),(3,.ptr 0 0 0),(7,.ptr 1 0 0),(8,vi j)],[rA1 nm l,rD1 (lF dD l i)]⟩) l.length ⟨0,by omega,fun j hj=>by omega,by omega,rfl⟩ ?_
    rintro _ _ ⟨j,hj,hv,rfl,rfl⟩
    have hwj:IntKind.i64.wrap ((j:Int)+1)=((j+1:Nat):Int):=w64 (by omega) (by omega)
    repeat' (first|refine gg ?_|exact trivial|with_reducible refine wA ?_ ?_|refine Y2.mk ?_ ?_|refine gh ?_|exact qq|fail)
    refine pcond rfl ?_ ?_<;>intro hc
    · have hc:j < l.length:=by have:=of_decide_eq_true hc;omega
      repeat' (first|refine gg ?_|exact trivial|with_reducible refine wA ?_ ?_|refine Y2.mk ?_ ?_|refine gh ?_|exact qq|fail)
      refine pcond (b:=supB l day i j) ?_ ?_ ?_
      · refine eqB ?_
        unfold supB
        show (bif bif bif ((lF dD l j).kind == (lF dD l i).kind) then ((lF dD l j).nm.toList == (lF dD l i).nm.toList) else false then decide ((lF dD l j).day≤day) else false then (bif decide ((lF dD l i).day < (lF dD l j).day) then true else bif ((lF dD l j).day == (lF dD l i).day) then decide ((j:Int) < (i:Int)) else false) else false)=_
        by_cases e1:(lF dD l j).kind=(lF dD l i).kind<;>by_cases e2:(lF dD l j).nm.toList=(lF dD l i).nm.toList<;>by_cases e3:(lF dD l j).day≤day<;>by_cases e4:(lF dD l i).day < (lF dD l j).day<;>by_cases e5:(lF dD l j).day=(lF dD l i).day<;>by_cases e6:j < i<;>simp [e1,e2,e3,e4,e5,e6]
      · intro h2
        repeat' (first|refine gg ?_|exact trivial|with_reducible refine wA ?_ ?_|refine Y2.mk ?_ ?_|refine gh ?_|exact qq|fail)
        refine kretv rfl ⟨trivial,trivial⟩ rfl (eqB ?_)
        unfold isAct
        rw [decide_eq_false h15,repl_yes hc h2];simp
      · intro h2
        repeat' (first|refine gg ?_|exact trivial|with_reducible refine wA ?_ ?_|refine Y2.mk ?_ ?_|refine gh ?_|exact qq|fail)
        rw [hwj]
        exact kloop_next (st':=⟨[(1,vi day),(2,vi i),(3,.ptr 0 0 0),(7,.ptr 1 0 0),(8,vi ((j+1:Nat):Int))],[rA1 nm l,rD1 (lF dD l i)]⟩) (l.length - (j+1)) (can_rowsv [0,1] (k0_sel hk rfl) rfl (.cons rfl (RowEq.cl (rA1_cl _ _)) (.cons rfl (RowEq.cl (rD1_cl _)) .nil)) tmq) (by omega) ⟨j+1,by omega,fun j' hj'=>by
          by_cases e:j'=j
          · subst e;exact h2
          · exact hv j' (by omega),rfl,rfl⟩
    · have hjl:j=l.length:=by have:=of_decide_eq_false hc;omega
      subst hjl
      repeat' (first|refine gg ?_|exact trivial|with_reducible refine wA ?_ ?_|refine Y2.mk ?_ ?_|refine gh ?_|exact qq|fail)
      refine kretv rfl ⟨trivial,trivial⟩ rfl (eqB ?_)
      unfold isAct
      rw [decide_eq_false h15,repl_no hv];simp
end Go.Proofs.YtcefhgomkehokaaGreat
namespace Go.Proofs.YtcefhgomkehokaaGreat
theorem chk_days {nm:ByteArray} {l:List Df} {day:Int} : chkE nm l day=if agrS nm l=false then 1 else if dayS day=false then 2 else 0:=by
  unfold chkE dayS
  by_cases h1:agrS nm l=false
  · rw [if_pos h1,if_pos h1]
  · rw [if_neg h1,if_neg h1]
    by_cases h2:day < 0∨84005 < day
    · rw [if_pos h2,if_pos (decide_eq_false (by omega))]
    · rw [if_neg h2,if_neg (by rw [decide_eq_true (by omega)];decide)]
set_option maxHeartbeats 8000000 in
theorem Active21_c (nm:ByteArray) (l:List Df) (day:Int) (h:AgO nm l) (hl:l.length≤1000000):PureC G.P 32 [vA nm l,vi day] (fun r=>r=sV (ActS nm l day)):=by
  have cv:=valid18_c nm l h.nm h.bd
  have cd:=inDays_c day
  have hck:=chk_days (nm:=nm) (l:=l) (day:=day)
  refine pure_of (G:=G.toPg) (fn:=Tryz.f32) Tryz.func32 rfl rfl rfl ?_;intro Γ hk
  repeat' (first|refine gg ?_|exact trivial|with_reducible refine wA ?_ ?_|refine Y2.mk ?_ ?_|refine zz cv ?_|refine gh ?_|exact qq|fail)
  cases ha:agrS nm l with
  | false =>
    rw [ha] at hck
    repeat' (first|refine gg ?_|exact trivial|with_reducible refine wA ?_ ?_|refine Y2.mk ?_ ?_|(refine pop_gfalse rfl rfl rfl rfl ?_)|refine gh ?_|exact qq|fail)
    refine xdone ?_
    refine kret [] rfl ⟨trivial,trivial⟩ (qs:=[.vsl 0 1 (tI (lF 0 []))]) ⟨argNil,trivial⟩ ?_
    unfold ActS;rw [hck];rfl
  | true =>
    rw [ha] at hck
    repeat' (first|refine gg ?_|exact trivial|with_reducible refine wA ?_ ?_|refine Y2.mk ?_ ?_|(refine pop_opt 10 rfl rfl ?_)|(refine pop_unguard rfl rfl ?_)|refine zz cd ?_|refine gh ?_|exact qq|fail)
    refine pcond (b:=!dayS day) ?_ ?_ ?_
    · exact eqB rfl
    · intro h1
      rw [nv_t h1] at hck
      repeat' (first|refine gg ?_|exact trivial|with_reducible refine wA ?_ ?_|refine Y2.mk ?_ ?_|refine gh ?_|exact qq|fail)
      refine xdone ?_
      refine kret [] rfl ⟨trivial,trivial⟩ (qs:=[.vsl 0 1 (tI (lF 0 []))]) ⟨argNil,trivial⟩ ?_
      unfold ActS;rw [hck];rfl
    · intro h1
      rw [nv_f h1] at hck
      have hA:ActS nm l day=actL l day:=by unfold ActS;rw [hck];rfl
      rw [hA]
      repeat' (first|refine gg ?_|exact trivial|with_reducible refine wA ?_ ?_|refine Y2.mk ?_ ?_|refine gh ?_|exact qq|fail)
      refine pcan (can_virt (vRow c1 1 0 (lF 0 [])) rfl) ?_
      refine pcan (st':=⟨[(1,vi day),(2,.ptr 0 0 0),(5,slP 0 1),(6,vi ((0:Nat):Int))],[rA1 nm l,vRow c1 1 0 (lF 0 (actN l day 0))]⟩) (can_rowsv [0,1] (k0_sel hk rfl) rfl (.cons rfl (RowEq.cl (rA1_cl _ _)) (.cons rfl (RowEq.cl (v_cl c1_cl _ _ _)) .nil)) tmq) ?_
      refine ploop (fun q st=>∃ j k:Nat,j≤l.length∧(actN l day j).length=k∧q=l.length - j∧st=⟨[(1,vi day),(2,.ptr 0 0 0),(5,slP k 1),(6,vi j)],[rA1 nm l,vRow c1 1 k (lF 0 (actN l day j))]⟩) l.length ⟨0,0,by omega,rfl,by omega,rfl⟩ ?_
      rintro _ _ ⟨j,k,hj,hk2,rfl,rfl⟩
      have hwj:IntKind.i64.wrap ((j:Int)+1)=((j+1:Nat):Int):=w64 (by omega) (by omega)
      have hkl:=actN_len l day j
      repeat' (first|refine gg ?_|exact trivial|with_reducible refine wA ?_ ?_|refine Y2.mk ?_ ?_|refine gh ?_|exact qq|fail)
      refine pcond rfl ?_ ?_<;>intro hc
      · have hc:j < l.length:=by have:=of_decide_eq_true hc;omega
        have cr:=active21_c nm l day j hc hl (agr_at ha hc)
        repeat' (first|refine gg ?_|exact trivial|with_reducible refine wA ?_ ?_|refine Y2.mk ?_ ?_|refine zz cr ?_|refine gh ?_|exact qq|fail)
        refine pcond (b:=isAct l day j) ?_ ?_ ?_
        · exact eqB rfl
        · intro h1
          have e1:=actN_y h1
          rcases k with _|k
          · repeat' (first|refine gg ?_|exact trivial|with_reducible refine wA ?_ ?_|refine Y2.mk ?_ ?_|exact ⟨Nat.le_refl _,(by rw [hk];exact Nat.le_of_ble_eq_true rfl),Nat.le_of_eq (Nat.zero_add _),(show (_:Nat) * 8≤140737488355328 from by omega),(show (_:Nat)≤9223372036854775807 from by omega)⟩|refine gh ?_|exact qq|fail)
            rw [hwj]
            exact kloop_next (st':=⟨[(1,vi day),(2,.ptr 0 0 0),(5,slP (0+1) 1),(6,vi ((j+1:Nat):Int))],[rA1 nm l,vRow c1 1 (0+1) (lF 0 (actN l day j ++ [(j:Int)]))]⟩) (l.length - (j+1)) (can_rowsv [0,3] (k0_sel hk rfl) rfl (.cons rfl (RowEq.cl (rA1_cl _ _)) (.cons rfl (app_l0 c1_cl hk2 rfl) .nil)) tmq) (by omega) ⟨j+1,0+1,by omega,by rw [e1,List.length_append,hk2];rfl,rfl,by rw [e1]⟩
          · repeat' (first|refine gg ?_|exact trivial|with_reducible refine wA ?_ ?_|refine Y2.mk ?_ ?_|exact ⟨Nat.le_refl _,(by rw [hk];exact Nat.le_of_ble_eq_true rfl),Nat.le_of_eq (Nat.zero_add _),(show (_:Nat) * 8≤140737488355328 from by omega),(show (_:Nat)≤9223372036854775807 from by omega)⟩|refine gh ?_|exact qq|fail)
            rw [hwj]
            exact kloop_next (st':=⟨[(1,vi day),(2,.ptr 0 0 0),(5,slP (k+1+1) 1),(6,vi ((j+1:Nat):Int))],[rA1 nm l,vRow c1 1 (k+1+1) (lF 0 (actN l day j ++ [(j:Int)]))]⟩) (l.length - (j+1)) (can_rowsv [0,3] (k0_sel hk rfl) rfl (.cons rfl (RowEq.cl (rA1_cl _ _)) (.cons rfl (app_l c1_cl hk2 rfl rfl) .nil)) tmq) (by omega) ⟨j+1,k+1+1,by omega,by rw [e1,List.length_append,hk2];rfl,rfl,by rw [e1]⟩
        · intro h1
          have e1:=actN_n h1
          repeat' (first|refine gg ?_|exact trivial|with_reducible refine wA ?_ ?_|refine Y2.mk ?_ ?_|refine gh ?_|exact qq|fail)
          rw [hwj]
          exact kloop_next (st':=⟨[(1,vi day),(2,.ptr 0 0 0),(5,slP k 1),(6,vi ((j+1:Nat):Int))],[rA1 nm l,vRow c1 1 k (lF 0 (actN l day j))]⟩) (l.length - (j+1)) (can_rowsv [0,1] (k0_sel hk rfl) rfl (.cons rfl (RowEq.cl (rA1_cl _ _)) (.cons rfl (RowEq.cl (v_cl c1_cl _ _ _)) .nil)) (by exact ⟨PEq.refl _,PEq.refl _,peq_slP rfl,PEq.refl _,trivial⟩)) (by omega) ⟨j+1,k,by omega,by rw [e1];exact hk2,rfl,by rw [e1]⟩
      · have hjl:j=l.length:=by have:=of_decide_eq_false hc;omega
        subst hjl
        rcases k with _|k
        · repeat' (first|refine gg ?_|exact trivial|with_reducible refine wA ?_ ?_|refine Y2.mk ?_ ?_|refine gh ?_|exact qq|fail)
          refine xdone ?_
          refine kret [1] rfl ⟨trivial,trivial⟩ (qs:=[.vsl 0 1 (tI (lF 0 (actL l day)))]) ⟨argTI (arg_v (n:=0) (l:=1) c1_cl rfl (List.Mem.head _)),trivial⟩ ?_
          rw [← hk2];rfl
        · repeat' (first|refine gg ?_|exact trivial|with_reducible refine wA ?_ ?_|refine Y2.mk ?_ ?_|refine gh ?_|exact qq|fail)
          refine xdone ?_
          refine kret [1] rfl ⟨trivial,trivial⟩ (qs:=[.vsl (k+1) 1 (tI (lF 0 (actL l day)))]) ⟨argTI (arg_v (n:=k+1) (l:=1) c1_cl rfl (List.Mem.head _)),trivial⟩ ?_
          rw [← hk2];rfl
def inpI (l:List Df) (s:ByteArray):Int:=match (List.range l.length).find? (inpB l s) with
  | some i=>i
  | none=>-1
set_option maxHeartbeats 8000000 in
theorem input21_c (nm:ByteArray) (l:List Df) (s:ByteArray) (hl:l.length≤1000000):PureC G.P 92 [vA nm l,vs s] (fun r=>r=vi (inpI l s)):=by
  refine pure_of (G:=G.toPg) (fn:=Tryz.f92) Tryz.func92 rfl rfl rfl ?_;intro Γ hk
  repeat' (first|refine gg ?_|exact trivial|with_reducible refine wA ?_ ?_|refine Y2.mk ?_ ?_|refine gh ?_|exact qq|fail)
  refine pcan (st':=⟨[(1,vs s),(2,.ptr 0 0 0),(5,vi ((0:Nat):Int))],[rA1 nm l]⟩) (can_rowsv [0] (k0_sel hk rfl) rfl (.cons rfl (RowEq.cl (rA1_cl _ _)) .nil) tmq) ?_
  refine ploop (fun q st=>∃ i:Nat,i≤l.length∧(∀ j,j < i→inpB l s j=false)∧q=l.length - i∧st=⟨[(1,vs s),(2,.ptr 0 0 0),(5,vi i)],[rA1 nm l]⟩) l.length ⟨0,by omega,fun j hj=>by omega,by omega,rfl⟩ ?_
  rintro _ _ ⟨i,hi,hv,rfl,rfl⟩
  have hw1:IntKind.i64.wrap ((i:Int)+1)=((i+1:Nat):Int):=w64 (by omega) (by omega)
  repeat' (first|refine gg ?_|exact trivial|with_reducible refine wA ?_ ?_|refine Y2.mk ?_ ?_|refine gh ?_|exact qq|fail)
  refine pcond rfl ?_ ?_<;>intro hc
  · have hc:i < l.length:=by have:=of_decide_eq_true hc;omega
    repeat' (first|refine gg ?_|exact trivial|with_reducible refine wA ?_ ?_|refine Y2.mk ?_ ?_|(intro hh;exact ⟨hh,by omega,by omega⟩)|(intro hh;exact ⟨by omega,by omega⟩)|refine gh ?_|exact qq|fail)
    refine pcond (b:=inpB l s i) ?_ ?_ ?_
    · refine eqB ?_
      unfold inpB
      show (bif ((lF dD l i).kind == 1) then ((lF dD l i).nm.toList == s.toList) else false)=_
      by_cases e1:(lF dD l i).kind=1<;>by_cases e2:(lF dD l i).nm.toList=s.toList<;>simp [e1,e2]
    · intro h1
      repeat' (first|refine gg ?_|exact trivial|with_reducible refine wA ?_ ?_|refine Y2.mk ?_ ?_|refine gh ?_|exact qq|fail)
      refine kretv rfl ⟨trivial,trivial⟩ rfl ?_
      unfold inpI
      rw [find_rng hc hv h1];rfl
    · intro h1
      repeat' (first|refine gg ?_|exact trivial|with_reducible refine wA ?_ ?_|refine Y2.mk ?_ ?_|refine gh ?_|exact qq|fail)
      rw [hw1]
      exact kloop_next (st':=⟨[(1,vs s),(2,.ptr 0 0 0),(5,vi ((i+1:Nat):Int))],[rA1 nm l]⟩) (l.length - (i+1)) (can_rowsv [0] (k0_sel hk rfl) rfl (.cons rfl (RowEq.cl (rA1_cl _ _)) .nil) tmq) (by omega) ⟨i+1,by omega,fun j hj=>by
        by_cases e:j=i
        · subst e;exact h1
        · exact hv j (by omega),rfl,rfl⟩
  · have hil:i=l.length:=by have:=of_decide_eq_false hc;omega
    subst hil
    repeat' (first|refine gg ?_|exact trivial|with_reducible refine wA ?_ ?_|refine Y2.mk ?_ ?_|refine gh ?_|exact qq|fail)
    refine kretv rfl ⟨trivial,trivial⟩ rfl ?_
    unfold inpI
    rw [find_rno hv];rfl
end Go.Proofs.YtcefhgomkehokaaGreat
