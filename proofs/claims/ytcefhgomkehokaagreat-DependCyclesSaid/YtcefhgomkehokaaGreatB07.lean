/- Names: package token. -/
import Derived.Test.YtcefhgomkehokaaGreatB05
import Derived.Test.YtcefhgomkehokaaGreatB06
import Derived.Carry
set_option linter.unusedSimpArgs false
set_option linter.unusedVariables false
set_option maxRecDepth 100000
namespace Go.Proofs.YtcefhgomkehokaaGreat
def byteI (s : ByteArray) (i : Nat) : Int := ((s.data.getD i 0).toNat : Int)
def lowB (c : Int) : Bool := decide (97 ≤ c ∧ c ≤ 122)
def digB (c : Int) : Bool := decide (48 ≤ c ∧ c ≤ 57)
def wrdB (c : Int) : Bool := lowB c || digB c || c == 95
abbrev vy (c : Int) : PV := .val (.int .u8 c)
theorem isLower_c (c : Int) : PureC G.P 119 [vy c] (fun r => r = vb (lowB c)) := by
  refine pure_of (G := G.toPg) (fn := Tryz.f119) Tryz.func119 rfl rfl rfl ?_; intro Γ hk
  repeat' (first | ((with_reducible (show POps _ _ _ _ (_ :: _) _ _)); (first | refine pop_read rfl rfl rfl rfl trivial ?_ | refine pop_guard rfl rfl rfl rfl rfl qgd ?_ | refine pop_new rfl rfl rfl rfl trivial ?_ | refine pop_store rfl rfl rfl Nat.zero_lt_one ?_ | refine pop_read rfl rfl rfl rfl qrd ?_ | refine pop_read2 rfl rfl rfl rfl trivial ?_ | refine pop_store rfl rfl rfl qst ?_ | fail)) | refine pnil ?_ | refine kround_exit ?_ | refine kround_ret ?_ | refine kround_next ?_ | refine kseq_normal ?_ | refine pseq ?_ | refine pregion ?_ | refine pret ?_ | refine kseq_ret ?_ | refine pskip ?_ | refine pblock ?_ | refine pexit ?_ | refine kseq_exit ?_ | refine kblock_hit rfl ?_ | refine kblock_miss rfl ?_ | refine kblock_ret ?_ | refine kblock_normal ?_ | refine kloop_ret ?_ | refine kloop_exit ?_ | refine kcut_ret ?_ | refine kcut_exit ?_ | refine pcond_t rfl ?_ | refine pcond_f rfl ?_ | (with_reducible (show POps _ _ _ _ _ _ _); simp only [List.append_eq, List.cons_append, List.nil_append]))
  refine kretv rfl ⟨trivial, trivial⟩ rfl (eqB ?_)
  rw [Bool.eq_iff_iff]; simp [lowB]
theorem isDigit_c (c : Int) : PureC G.P 120 [vy c] (fun r => r = vb (digB c)) := by
  refine pure_of (G := G.toPg) (fn := Tryz.f120) Tryz.func120 rfl rfl rfl ?_; intro Γ hk
  repeat' (first | ((with_reducible (show POps _ _ _ _ (_ :: _) _ _)); (first | refine pop_read rfl rfl rfl rfl trivial ?_ | refine pop_guard rfl rfl rfl rfl rfl qgd ?_ | refine pop_new rfl rfl rfl rfl trivial ?_ | refine pop_store rfl rfl rfl Nat.zero_lt_one ?_ | refine pop_read rfl rfl rfl rfl qrd ?_ | refine pop_read2 rfl rfl rfl rfl trivial ?_ | refine pop_store rfl rfl rfl qst ?_ | fail)) | refine pnil ?_ | refine kround_exit ?_ | refine kround_ret ?_ | refine kround_next ?_ | refine kseq_normal ?_ | refine pseq ?_ | refine pregion ?_ | refine pret ?_ | refine kseq_ret ?_ | refine pskip ?_ | refine pblock ?_ | refine pexit ?_ | refine kseq_exit ?_ | refine kblock_hit rfl ?_ | refine kblock_miss rfl ?_ | refine kblock_ret ?_ | refine kblock_normal ?_ | refine kloop_ret ?_ | refine kloop_exit ?_ | refine kcut_ret ?_ | refine kcut_exit ?_ | refine pcond_t rfl ?_ | refine pcond_f rfl ?_ | (with_reducible (show POps _ _ _ _ _ _ _); simp only [List.append_eq, List.cons_append, List.nil_append]))
  refine kretv rfl ⟨trivial, trivial⟩ rfl (eqB ?_)
  rw [Bool.eq_iff_iff]; simp [digB]
def scanW (s : ByteArray) : Nat → Nat → Nat
  | 0, n => n
  | f + 1, n => if wrdB (byteI s n) then scanW s f (n + 1) else n
def wlenS (s : ByteArray) : Nat := if lowB (byteI s 0) = true then scanW s (s.size - 1) 1 else 0
theorem empty_eq (s : ByteArray) (h : 0 < s.size) : (s.toList == ({ data := #[] } : ByteArray).toList) = false := by
  rw [ByteArray.toList_eq, ByteArray.toList_eq]
  have e1 : s.data.toList.length = s.size := by rw [Array.length_toList]; rfl
  cases hl : s.data.toList with
  | nil => rw [hl] at e1; simp at e1; omega
  | cons a l => rfl
theorem wordLength_c (s : ByteArray) (h0 : 0 < s.size) (hs : s.size ≤ 1000) : PureC G.P 93 [vs s] (fun r => r = vi (wlenS s)) := by
  have he := empty_eq s h0
  refine pure_of (G := G.toPg) (fn := Tryz.f93) Tryz.func93 rfl rfl rfl ?_; intro Γ hk
  repeat' (first | ((with_reducible (show POps _ _ _ _ (_ :: _) _ _)); (first | refine pop_read rfl rfl rfl rfl trivial ?_ | refine pop_guard rfl rfl rfl rfl rfl qgd ?_ | refine pop_new rfl rfl rfl rfl trivial ?_ | refine pop_store rfl rfl rfl Nat.zero_lt_one ?_ | refine pop_read rfl rfl rfl rfl qrd ?_ | refine pop_read2 rfl rfl rfl rfl trivial ?_ | refine pop_store rfl rfl rfl qst ?_ | (refine pop_guard2 rfl rfl rfl rfl rfl ?_ ?_; (exact fun h => ⟨h, by omega, by omega⟩)) | (refine pop_callgv rfl rfl rfl rfl rfl rfl (fun _ => isLower_c (byteI s 0)) ?_ rfl rfl rfl ?_; (exact fun h => ⟨h, trivial⟩)) | fail)) | refine pnil ?_ | refine kround_exit ?_ | refine kround_ret ?_ | refine kround_next ?_ | refine kseq_normal ?_ | refine pseq ?_ | refine pregion ?_ | refine pret ?_ | refine kseq_ret ?_ | refine pskip ?_ | refine pblock ?_ | refine pexit ?_ | refine kseq_exit ?_ | refine kblock_hit rfl ?_ | refine kblock_miss rfl ?_ | refine kblock_ret ?_ | refine kblock_normal ?_ | refine kloop_ret ?_ | refine kloop_exit ?_ | refine kcut_ret ?_ | refine kcut_exit ?_ | refine pcond_t rfl ?_ | refine pcond_f rfl ?_ | (with_reducible (show POps _ _ _ _ _ _ _); simp only [List.append_eq, List.cons_append, List.nil_append]))
  rw [he]
  refine pcond rfl ?_ ?_ <;> intro hc
  · have hl : lowB (byteI s 0) = false := by simpa using hc
    repeat' (first | ((with_reducible (show POps _ _ _ _ (_ :: _) _ _)); (first | refine pop_read rfl rfl rfl rfl trivial ?_ | refine pop_guard rfl rfl rfl rfl rfl qgd ?_ | refine pop_new rfl rfl rfl rfl trivial ?_ | refine pop_store rfl rfl rfl Nat.zero_lt_one ?_ | refine pop_read rfl rfl rfl rfl qrd ?_ | refine pop_read2 rfl rfl rfl rfl trivial ?_ | refine pop_store rfl rfl rfl qst ?_ | fail)) | refine pnil ?_ | refine kround_exit ?_ | refine kround_ret ?_ | refine kround_next ?_ | refine kseq_normal ?_ | refine pseq ?_ | refine pregion ?_ | refine pret ?_ | refine kseq_ret ?_ | refine pskip ?_ | refine pblock ?_ | refine pexit ?_ | refine kseq_exit ?_ | refine kblock_hit rfl ?_ | refine kblock_miss rfl ?_ | refine kblock_ret ?_ | refine kblock_normal ?_ | refine kloop_ret ?_ | refine kloop_exit ?_ | refine kcut_ret ?_ | refine kcut_exit ?_ | refine pcond_t rfl ?_ | refine pcond_f rfl ?_ | (with_reducible (show POps _ _ _ _ _ _ _); simp only [List.append_eq, List.cons_append, List.nil_append]))
    refine kretv rfl ⟨trivial, trivial⟩ rfl (eqI ?_)
    rw [wlenS, hl]; rfl
  · have hl : lowB (byteI s 0) = true := by simpa using hc
    rw [wlenS, if_pos hl]
    repeat' (first | ((with_reducible (show POps _ _ _ _ (_ :: _) _ _)); (first | refine pop_read rfl rfl rfl rfl trivial ?_ | refine pop_guard rfl rfl rfl rfl rfl qgd ?_ | refine pop_new rfl rfl rfl rfl trivial ?_ | refine pop_store rfl rfl rfl Nat.zero_lt_one ?_ | refine pop_read rfl rfl rfl rfl qrd ?_ | refine pop_read2 rfl rfl rfl rfl trivial ?_ | refine pop_store rfl rfl rfl qst ?_ | fail)) | refine pnil ?_ | refine kround_exit ?_ | refine kround_ret ?_ | refine kround_next ?_ | refine kseq_normal ?_ | refine pseq ?_ | refine pregion ?_ | refine pret ?_ | refine kseq_ret ?_ | refine pskip ?_ | refine pblock ?_ | refine pexit ?_ | refine kseq_exit ?_ | refine kblock_hit rfl ?_ | refine kblock_miss rfl ?_ | refine kblock_ret ?_ | refine kblock_normal ?_ | refine kloop_ret ?_ | refine kloop_exit ?_ | refine kcut_ret ?_ | refine kcut_exit ?_ | refine pcond_t rfl ?_ | refine pcond_f rfl ?_ | (with_reducible (show POps _ _ _ _ _ _ _); simp only [List.append_eq, List.cons_append, List.nil_append]))
    refine pcan (can_sel [0, 3]) ?_
    refine ploop (fun q st => ∃ n : Nat, 1 ≤ n ∧ n ≤ s.size ∧ scanW s (s.size - n) n = scanW s (s.size - 1) 1 ∧ q = s.size - n ∧ st = ⟨[(0, vs s), (3, vi n)], []⟩) (s.size - 1) ⟨1, by omega, by omega, rfl, rfl, rfl⟩ ?_
    rintro _ _ ⟨n, n1, n2, hsc, rfl, rfl⟩
    repeat' (first | ((with_reducible (show POps _ _ _ _ (_ :: _) _ _)); (first | refine pop_read rfl rfl rfl rfl trivial ?_ | refine pop_guard rfl rfl rfl rfl rfl qgd ?_ | refine pop_new rfl rfl rfl rfl trivial ?_ | refine pop_store rfl rfl rfl Nat.zero_lt_one ?_ | refine pop_read rfl rfl rfl rfl qrd ?_ | refine pop_read2 rfl rfl rfl rfl trivial ?_ | refine pop_store rfl rfl rfl qst ?_ | (refine pop_guard2 rfl rfl rfl rfl rfl ?_ ?_; (exact fun h => ⟨h, h, by omega, by simp at h; omega⟩)) | (refine pop_callgv rfl rfl rfl rfl rfl rfl (fun _ => isLower_c (byteI s (n : Int).toNat)) ?_ rfl rfl rfl ?_; (exact fun h => ⟨h, trivial⟩)) | (refine pop_callgv rfl rfl rfl rfl rfl rfl (fun _ => isDigit_c (byteI s (n : Int).toNat)) ?_ rfl rfl rfl ?_; (exact fun h => ⟨h, trivial⟩)) | fail)) | refine pnil ?_ | refine kround_exit ?_ | refine kround_ret ?_ | refine kround_next ?_ | refine kseq_normal ?_ | refine pseq ?_ | refine pregion ?_ | refine pret ?_ | refine kseq_ret ?_ | refine pskip ?_ | refine pblock ?_ | refine pexit ?_ | refine kseq_exit ?_ | refine kblock_hit rfl ?_ | refine kblock_miss rfl ?_ | refine kblock_ret ?_ | refine kblock_normal ?_ | refine kloop_ret ?_ | refine kloop_exit ?_ | refine kcut_ret ?_ | refine kcut_exit ?_ | refine pcond_t rfl ?_ | refine pcond_f rfl ?_ | (with_reducible (show POps _ _ _ _ _ _ _); simp only [List.append_eq, List.cons_append, List.nil_append]))
    refine pcond rfl ?_ ?_ <;> intro hc2
    · have hlt : n < s.size ∧ wrdB (byteI s n) = true := by
        have hc2 : (bif decide ((n : Int) < (s.size : Int)) then (bif (bif lowB (byteI s n) then true else digB (byteI s n)) then true else byteI s n == 95) else false) = true := hc2
        by_cases hn : n < s.size
        · refine ⟨hn, ?_⟩
          unfold wrdB
          cases h1 : lowB (byteI s n) <;> cases h2 : digB (byteI s n) <;> simp_all
        · simp [hn] at hc2
      repeat' (first | ((with_reducible (show POps _ _ _ _ (_ :: _) _ _)); (first | refine pop_read rfl rfl rfl rfl trivial ?_ | refine pop_guard rfl rfl rfl rfl rfl qgd ?_ | refine pop_new rfl rfl rfl rfl trivial ?_ | refine pop_store rfl rfl rfl Nat.zero_lt_one ?_ | refine pop_read rfl rfl rfl rfl qrd ?_ | refine pop_read2 rfl rfl rfl rfl trivial ?_ | refine pop_store rfl rfl rfl qst ?_ | fail)) | refine pnil ?_ | refine kround_exit ?_ | refine kround_ret ?_ | refine kround_next ?_ | refine kseq_normal ?_ | refine pseq ?_ | refine pregion ?_ | refine pret ?_ | refine kseq_ret ?_ | refine pskip ?_ | refine pblock ?_ | refine pexit ?_ | refine kseq_exit ?_ | refine kblock_hit rfl ?_ | refine kblock_miss rfl ?_ | refine kblock_ret ?_ | refine kblock_normal ?_ | refine kloop_ret ?_ | refine kloop_exit ?_ | refine kcut_ret ?_ | refine kcut_exit ?_ | refine pcond_t rfl ?_ | refine pcond_f rfl ?_ | (with_reducible (show POps _ _ _ _ _ _ _); simp only [List.append_eq, List.cons_append, List.nil_append]))
      rw [show IntKind.i64.wrap ((n : Int) + 1) = ((n + 1 : Nat) : Int) from w64 (by omega) (by omega)]
      refine kloop_next (s.size - (n + 1)) (can_sel [0, 3]) (by omega) ⟨n + 1, by omega, by omega, ?_, rfl, rfl⟩
      rw [← hsc, show s.size - n = (s.size - (n + 1)) + 1 by omega, scanW, if_pos hlt.2]
    · have hlt : ¬ n < s.size ∨ wrdB (byteI s n) = false := by
        have hc2 : (bif decide ((n : Int) < (s.size : Int)) then (bif (bif lowB (byteI s n) then true else digB (byteI s n)) then true else byteI s n == 95) else false) = false := hc2
        by_cases hn : n < s.size
        · refine .inr ?_
          unfold wrdB
          cases h1 : lowB (byteI s n) <;> cases h2 : digB (byteI s n) <;> simp_all
        · exact .inl hn
      repeat' (first | ((with_reducible (show POps _ _ _ _ (_ :: _) _ _)); (first | refine pop_read rfl rfl rfl rfl trivial ?_ | refine pop_guard rfl rfl rfl rfl rfl qgd ?_ | refine pop_new rfl rfl rfl rfl trivial ?_ | refine pop_store rfl rfl rfl Nat.zero_lt_one ?_ | refine pop_read rfl rfl rfl rfl qrd ?_ | refine pop_read2 rfl rfl rfl rfl trivial ?_ | refine pop_store rfl rfl rfl qst ?_ | fail)) | refine pnil ?_ | refine kround_exit ?_ | refine kround_ret ?_ | refine kround_next ?_ | refine kseq_normal ?_ | refine pseq ?_ | refine pregion ?_ | refine pret ?_ | refine kseq_ret ?_ | refine pskip ?_ | refine pblock ?_ | refine pexit ?_ | refine kseq_exit ?_ | refine kblock_hit rfl ?_ | refine kblock_miss rfl ?_ | refine kblock_ret ?_ | refine kblock_normal ?_ | refine kloop_ret ?_ | refine kloop_exit ?_ | refine kcut_ret ?_ | refine kcut_exit ?_ | refine pcond_t rfl ?_ | refine pcond_f rfl ?_ | (with_reducible (show POps _ _ _ _ _ _ _); simp only [List.append_eq, List.cons_append, List.nil_append]))
      refine kretv rfl ⟨trivial, trivial⟩ rfl (eqI ?_)
      rw [← hsc]
      rcases hlt with h | h
      · rw [show s.size - n = 0 by omega, scanW]
      · by_cases hn : n < s.size
        · rw [show s.size - n = (s.size - (n + 1)) + 1 by omega, scanW, if_neg (by rw [h]; simp)]
        · rw [show s.size - n = 0 by omega, scanW]
def kwL : List ByteArray := [⟨#[97, 103, 114, 101, 101, 109, 101, 110, 116]⟩, ⟨#[105, 110, 112, 117, 116]⟩, ⟨#[112, 97, 115, 116]⟩, ⟨#[115, 99, 97, 108, 101]⟩, ⟨#[114, 117, 108, 101]⟩, ⟨#[112, 97, 121]⟩, ⟨#[102, 114, 111, 109]⟩, ⟨#[114, 111, 117, 110, 100, 101, 100]⟩, ⟨#[116, 111]⟩, ⟨#[105, 102]⟩, ⟨#[116, 104, 101, 110]⟩, ⟨#[101, 108, 115, 101]⟩, ⟨#[97, 110, 100]⟩, ⟨#[111, 114]⟩, ⟨#[110, 111, 116]⟩, ⟨#[116, 114, 117, 101]⟩, ⟨#[102, 97, 108, 115, 101]⟩, ⟨#[109, 105, 110]⟩, ⟨#[109, 97, 120]⟩, ⟨#[114, 111, 117, 110, 100]⟩, ⟨#[97, 118, 101, 114, 97, 103, 101]⟩, ⟨#[108, 97, 115, 116]⟩, ⟨#[109, 111, 110, 101, 121]⟩, ⟨#[104, 111, 117, 114, 115]⟩, ⟨#[100, 97, 121, 115]⟩, ⟨#[110, 117, 109, 98, 101, 114]⟩, ⟨#[98, 111, 111, 108]⟩, ⟨#[100, 111, 119, 110]⟩, ⟨#[117, 112]⟩, ⟨#[102, 108, 111, 111, 114]⟩, ⟨#[99, 101, 105, 108, 105, 110, 103]⟩, ⟨#[104, 97, 108, 102, 95, 117, 112]⟩, ⟨#[104, 97, 108, 102, 95, 100, 111, 119, 110]⟩, ⟨#[104, 97, 108, 102, 95, 101, 118, 101, 110]⟩]
def kwS (s : ByteArray) : Bool := kwL.any (fun k => s.toList == k.toList)
theorem isKeyword_c (s : ByteArray) : PureC G.P 94 [vs s] (fun r => r = vb (kwS s)) := by
  refine pure_of (G := G.toPg) (fn := Tryz.f94) Tryz.func94 rfl rfl rfl ?_; intro Γ hk
  repeat' (first | ((with_reducible (show POps _ _ _ _ (_ :: _) _ _)); (first | refine pop_read rfl rfl rfl rfl trivial ?_ | refine pop_guard rfl rfl rfl rfl rfl qgd ?_ | refine pop_new rfl rfl rfl rfl trivial ?_ | refine pop_store rfl rfl rfl Nat.zero_lt_one ?_ | refine pop_read rfl rfl rfl rfl qrd ?_ | refine pop_read2 rfl rfl rfl rfl trivial ?_ | refine pop_store rfl rfl rfl qst ?_ | fail)) | refine pnil ?_ | refine kround_exit ?_ | refine kround_ret ?_ | refine kround_next ?_ | refine kseq_normal ?_ | refine pseq ?_ | refine pregion ?_ | refine pret ?_ | refine kseq_ret ?_ | refine pskip ?_ | refine pblock ?_ | refine pexit ?_ | refine kseq_exit ?_ | refine kblock_hit rfl ?_ | refine kblock_miss rfl ?_ | refine kblock_ret ?_ | refine kblock_normal ?_ | refine kloop_ret ?_ | refine kloop_exit ?_ | refine kcut_ret ?_ | refine kcut_exit ?_ | refine pcond_t rfl ?_ | refine pcond_f rfl ?_ | (with_reducible (show POps _ _ _ _ _ _ _); simp only [List.append_eq, List.cons_append, List.nil_append]) | (refine pcond rfl ?_ ?_ <;> intro hc))
  all_goals refine kretv rfl ⟨trivial, trivial⟩ rfl (eqB ?_)
  all_goals first
    | (simp only [kwS, kwL, List.any_cons, List.any_nil, *, Bool.or_true, Bool.true_or, Bool.or_false, Bool.false_or]; done)
    | (exfalso; rename_i a; exact absurd (a.symm.trans hc) (by decide))
def nameS (s : ByteArray) : Bool := decide (0 < s.size ∧ s.size ≤ 24) && (decide (wlenS s = s.size) && !kwS s)
theorem isName_c (s : ByteArray) (hs : s.size ≤ 9223372036854775807) : PureC G.P 79 [vs s] (fun r => r = vb (nameS s)) := by
  have hg : ((bif decide ((0 : Int) < (s.size : Int)) then decide ((s.size : Int) ≤ 24) else false) == true) = true → 0 < s.size ∧ s.size ≤ 24 := fun h => by
    by_cases h1 : (0 : Int) < (s.size : Int)
    · by_cases h2 : (s.size : Int) ≤ 24
      · omega
      · rw [decide_eq_true h1, decide_eq_false h2] at h; cases h
    · rw [decide_eq_false h1] at h; cases h
  refine pure_of (G := G.toPg) (fn := Tryz.f79) Tryz.func79 rfl rfl rfl ?_; intro Γ hk
  repeat' (first | ((with_reducible (show POps _ _ _ _ (_ :: _) _ _)); (first | refine pop_read rfl rfl rfl rfl trivial ?_ | refine pop_guard rfl rfl rfl rfl rfl qgd ?_ | refine pop_new rfl rfl rfl rfl trivial ?_ | refine pop_store rfl rfl rfl Nat.zero_lt_one ?_ | refine pop_read rfl rfl rfl rfl qrd ?_ | refine pop_read2 rfl rfl rfl rfl trivial ?_ | refine pop_store rfl rfl rfl qst ?_ | (refine pop_callgv rfl rfl rfl rfl rfl rfl (fun h => wordLength_c s (hg h).1 (by have := hg h; omega)) ?_ rfl rfl rfl ?_; (exact fun h => ⟨h, trivial⟩)) | (refine pop_callgv rfl rfl rfl rfl rfl rfl (fun _ => isKeyword_c s) ?_ rfl rfl rfl ?_; (exact fun h => ⟨h, trivial⟩)) | fail)) | refine pnil ?_ | refine kround_exit ?_ | refine kround_ret ?_ | refine kround_next ?_ | refine kseq_normal ?_ | refine pseq ?_ | refine pregion ?_ | refine pret ?_ | refine kseq_ret ?_ | refine pskip ?_ | refine pblock ?_ | refine pexit ?_ | refine kseq_exit ?_ | refine kblock_hit rfl ?_ | refine kblock_miss rfl ?_ | refine kblock_ret ?_ | refine kblock_normal ?_ | refine kloop_ret ?_ | refine kloop_exit ?_ | refine kcut_ret ?_ | refine kcut_exit ?_ | refine pcond_t rfl ?_ | refine pcond_f rfl ?_ | (with_reducible (show POps _ _ _ _ _ _ _); simp only [List.append_eq, List.cons_append, List.nil_append]))
  refine kretv rfl ⟨trivial, trivial⟩ rfl (eqB ?_)
  unfold nameS
  have e1 : decide ((0 : Int) < (s.size : Int)) = decide (0 < s.size) := by rw [Bool.eq_iff_iff]; simp only [decide_eq_true_eq]; omega
  have e2 : decide ((s.size : Int) ≤ 24) = decide (s.size ≤ 24) := by rw [Bool.eq_iff_iff]; simp only [decide_eq_true_eq]; omega
  have e3 : ((wlenS s : Int) == (s.size : Int)) = decide (wlenS s = s.size) := by rw [Bool.eq_iff_iff]; simp only [decide_eq_true_eq, beq_iff_eq]; omega
  rw [e1, e2, e3, Bool.decide_and]
  cases decide (0 < s.size) <;> cases decide (s.size ≤ 24) <;> cases decide (wlenS s = s.size) <;> cases kwS s <;> rfl
theorem empty_iff (s : ByteArray) : (s.toList == ({ data := #[] } : ByteArray).toList) = !decide (0 < s.size) := by
  by_cases h0 : 0 < s.size
  · rw [empty_eq s h0, decide_eq_true h0]; rfl
  · rw [decide_eq_false h0, ByteArray.toList_eq, ByteArray.toList_eq]
    have : s.data.toList = [] := by
      apply List.length_eq_zero_iff.1
      rw [Array.length_toList]
      have : ¬ 0 < s.data.size := h0
      omega
    rw [this]; rfl
theorem bqd (a b : Int) : (a == b) = decide (a = b) := by rw [Bool.eq_iff_iff]; simp
theorem pcond_n {G : Pg} {N : Nat} {Γ : Fr} {st : PSt} {K : Exit → PSt → Prop} {c : Operand} {x y : Code} {b : Bool} (hc : st.ev c = .val (.bool b)) (hb : b = false) (h : PWp G N Γ y st K) : PWp G N Γ (.cond c x y) st K := pcond hc (fun h1 => by rw [hb] at h1; cases h1) (fun _ => h)
theorem pcond_y {G : Pg} {N : Nat} {Γ : Fr} {st : PSt} {K : Exit → PSt → Prop} {c : Operand} {x y : Code} {b : Bool} (hc : st.ev c = .val (.bool b)) (hb : b = true) (h : PWp G N Γ x st K) : PWp G N Γ (.cond c x y) st K := pcond hc (fun _ => h) (fun h1 => by rw [hb] at h1; cases h1)
inductive Ex where
  | nil
  | mk (op vn vd um uh ud : Int) (nm : ByteArray) (cnt mode : Int) (nk : Nat) (kf : Nat → Ex)
namespace Ex
def op : Ex → Int | .nil => 0 | .mk x _ _ _ _ _ _ _ _ _ _ => x
def vn : Ex → Int | .nil => 0 | .mk _ x _ _ _ _ _ _ _ _ _ => x
def vd : Ex → Int | .nil => 0 | .mk _ _ x _ _ _ _ _ _ _ _ => x
def um : Ex → Int | .nil => 0 | .mk _ _ _ x _ _ _ _ _ _ _ => x
def uh : Ex → Int | .nil => 0 | .mk _ _ _ _ x _ _ _ _ _ _ => x
def ud : Ex → Int | .nil => 0 | .mk _ _ _ _ _ x _ _ _ _ _ => x
def nm : Ex → ByteArray | .nil => ⟨#[]⟩ | .mk _ _ _ _ _ _ x _ _ _ _ => x
def cnt : Ex → Int | .nil => 0 | .mk _ _ _ _ _ _ _ x _ _ _ => x
def mode : Ex → Int | .nil => 0 | .mk _ _ _ _ _ _ _ _ x _ _ => x
def nk : Ex → Nat | .nil => 0 | .mk _ _ _ _ _ _ _ _ _ x _ => x
def kf : Ex → Nat → Ex | .nil => fun _ => .nil | .mk _ _ _ _ _ _ _ _ _ _ x => x
def kc : Ex → Nat → Nat → PV
  | .nil => fun _ _ => .junk
  | .mk _ _ _ _ _ _ _ _ _ _ kf => fun i j => nthP [vi (kf i).op, vi (kf i).vn, vi (kf i).vd, vi (kf i).um, vi (kf i).uh, vi (kf i).ud, vs (kf i).nm, vi (kf i).cnt, vi (kf i).mode, .vsl (kf i).nk 10 (kf i).kc] j
end Ex
abbrev cX (e : Ex) : List PV := [vi e.op, vi e.vn, vi e.vd, vi e.um, vi e.uh, vi e.ud, vs e.nm, vi e.cnt, vi e.mode, .vsl e.nk 10 e.kc]
theorem kc_eq {e : Ex} (h : 0 < e.nk) : e.kc = tF cX e.kf := by
  cases e with
  | nil => exact absurd h (Nat.lt_irrefl 0)
  | mk => rfl
theorem cX_cl : CellsCl cX := fun _ => ⟨trivial, trivial, trivial, trivial, trivial, trivial, trivial, trivial, trivial, trivial, trivial⟩
abbrev vX (e : Ex) : PV := .agg 10 (nthP (cX e))
abbrev En := Int × Int × Int
abbrev cN3 (x : En) : List PV := [vi x.1, vi x.2.1, vi x.2.2]
structure Ty where
  b : Bool
  m : Int
  h : Int
  d : Int
deriving DecidableEq
abbrev cT (t : Ty) : List PV := [vb t.b, vi t.m, vi t.h, vi t.d]
abbrev vT (t : Ty) : PV := .agg 4 (nthP (cT t))
abbrev t0 : Ty := ⟨false, 0, 0, 0⟩
abbrev tB : Ty := ⟨true, 0, 0, 0⟩
abbrev tM : Ty := ⟨false, 1, 0, 0⟩
structure Df where
  kind : Int
  nm : ByteArray
  ty : Ty
  day : Int
  ne : Nat
  ef : Nat → En
  body : Ex
  mode : Int
  sn : Int
  sd : Int
abbrev cD (d : Df) : List PV := [vi d.kind, vs d.nm, vb d.ty.b, vi d.ty.m, vi d.ty.h, vi d.ty.d, vi d.day, .vsl d.ne 3 (tF cN3 d.ef),
  vi d.body.op, vi d.body.vn, vi d.body.vd, vi d.body.um, vi d.body.uh, vi d.body.ud, vs d.body.nm, vi d.body.cnt, vi d.body.mode, .vsl d.body.nk 10 d.body.kc,
  vi d.mode, vi d.sn, vi d.sd]
theorem cD_cl : CellsCl cD := fun _ => by (repeat' (first | exact trivial | refine ⟨trivial, ?_⟩))
def kidsN (op : Int) : Int :=
  if op = 1 ∨ op = 2 ∨ op = 3 ∨ op = 20 ∨ op = 21 then 0 else if op = 4 ∨ op = 16 ∨ op = 17 ∨ op = 19 then 1 else if 5 ≤ op ∧ op ≤ 15 then 2 else if op = 18 then 3 else -1
def decS (n d : Int) : Bool := okR n d && (decide (0 ≤ n) && decide (Int.tmod 1000000 d = 0))
def unitS (m h d : Int) : Bool := decide (-3 ≤ m ∧ m ≤ 3) && (decide (-3 ≤ h ∧ h ≤ 3) && decide (-3 ≤ d ∧ d ≤ 3))
def fieldS (e : Ex) : Bool :=
  (if e.op = 1 then decS e.vn e.vd else if e.op = 19 then decS e.vn e.vd && decide (0 < e.vn) else decide (e.vn = 0 ∧ e.vd = 0)) &&
  ((if e.op = 1 ∨ e.op = 19 then unitS e.um e.uh e.ud else decide (e.um = 0 ∧ e.uh = 0 ∧ e.ud = 0)) &&
  ((if e.op = 3 ∨ e.op = 4 ∨ e.op = 20 ∨ e.op = 21 then nameS e.nm else e.nm.toList == []) &&
  ((if e.op = 2 then decide (e.cnt = 0 ∨ e.cnt = 1) else if e.op = 20 ∨ e.op = 21 then decide (1 ≤ e.cnt ∧ e.cnt ≤ 120) else decide (e.cnt = 0)) &&
  (if e.op = 19 then modeB e.mode else decide (e.mode = 0)))))
def allK (n : Nat) (p : Nat → Bool) : Bool := (List.range n).all p
theorem allK_iff {n : Nat} {p : Nat → Bool} : allK n p = true ↔ ∀ i, i < n → p i = true := by simp [allK, List.all_eq_true]
theorem allK_no {n i : Nat} {p : Nat → Bool} (hi : i < n) (h : p i = false) : allK n p = false := by
  cases hb : allK n p
  · rfl
  · have := allK_iff.1 hb i hi; rw [h] at this; cases this
def validS : Nat → Ex → Bool
  | 0, _ => false
  | n + 1, e => decide ((e.nk : Int) = kidsN e.op) && (fieldS e && allK e.nk (fun i => validS n (e.kf i)))
inductive Bd : Ex → Prop where
  | nil : Bd .nil
  | mk {op vn vd um uh ud : Int} {nm : ByteArray} {cnt mode : Int} {nk : Nat} {kf : Nat → Ex} (h : -9223372036854775808 ≤ vn ∧ vn ≤ 9223372036854775807 ∧ nm.size ≤ 9223372036854775807) (hk : ∀ i, i < nk → Bd (kf i)) : Bd (.mk op vn vd um uh ud nm cnt mode nk kf)
theorem Bd.v {e : Ex} (h : Bd e) : -9223372036854775808 ≤ e.vn ∧ e.vn ≤ 9223372036854775807 := by cases h with | nil => exact ⟨by decide, by decide⟩ | mk h _ => exact ⟨h.1, h.2.1⟩
theorem Bd.s {e : Ex} (h : Bd e) : e.nm.size ≤ 9223372036854775807 := by cases h with | nil => exact Nat.zero_le _ | mk h _ => exact h.2.2
theorem Bd.k {e : Ex} (h : Bd e) {i : Nat} (hi : i < e.nk) : Bd (e.kf i) := by cases h with | nil => exact absurd hi (Nat.not_lt_zero _) | mk _ h => exact h i hi
def findS : List Df → ByteArray → Ty × Int
  | [], _ => (t0, 7)
  | d :: l, s => if d.nm.toList = s.toList then (if d.kind = 4 then (tM, 0) else (d.ty, 0)) else findS l s
def mulT (a b : Ty) (s : Int) : Ty × Int :=
  if unitS a.m a.h a.d = true ∧ unitS b.m b.h b.d = true ∧ unitS (a.m + s * b.m) (a.h + s * b.h) (a.d + s * b.d) = true then (⟨false, a.m + s * b.m, a.h + s * b.h, a.d + s * b.d⟩, 0) else (t0, 10)
def equS (a b : Ty) : Int := if a.b = true ∨ b.b = true then 9 else if a.m = b.m ∧ a.h = b.h ∧ a.d = b.d then 0 else 10
def resS (t : Ty) (e : Int) : Ty × Int := if e = 0 then (t, 0) else (t0, e)
def opS (N S P : List Df) (e : Ex) (a b c : Ty) : Ty × Int :=
  if e.op = 1 then (⟨false, e.um, e.uh, e.ud⟩, 0) else if e.op = 2 then (tB, 0) else if e.op = 3 then findS N e.nm else if e.op = 20 ∨ e.op = 21 then findS P e.nm
  else if e.op = 4 then (if (findS S e.nm).2 ≠ 0 then (t0, (findS S e.nm).2) else resS (findS S e.nm).1 (equS a t0))
  else if e.op = 5 ∨ e.op = 6 ∨ e.op = 14 ∨ e.op = 15 then resS a (equS a b)
  else if e.op = 7 then (if a.b = true ∨ b.b = true then (t0, 9) else mulT a b 1)
  else if e.op = 8 then (if a.b = true ∨ b.b = true then (t0, 9) else mulT a b (-1))
  else if e.op = 9 ∨ e.op = 10 then resS tB (equS a b)
  else if e.op = 11 then (if a.b = true ∧ b.b = true then (tB, 0) else resS tB (equS a b))
  else if e.op = 12 ∨ e.op = 13 then (if a.b = true ∧ b.b = true then (tB, 0) else (t0, 9))
  else if e.op = 17 then (if a.b = true then (tB, 0) else (t0, 9))
  else if e.op = 16 then (if a.b = true then (t0, 9) else (a, 0))
  else if e.op = 18 then (if a.b = true then (if b.b = true ∧ c.b = true then (b, 0) else resS b (equS b c)) else (t0, 9))
  else if e.op = 19 then resS a (equS a ⟨false, e.um, e.uh, e.ud⟩)
  else (t0, 1)
def typeS (N S P : List Df) : Nat → Ex → Ty × Int
  | 0, _ => (t0, 1)
  | n + 1, e =>
    if 0 < e.nk ∧ (typeS N S P n (e.kf 0)).2 ≠ 0 then (t0, (typeS N S P n (e.kf 0)).2)
    else if 1 < e.nk ∧ (typeS N S P n (e.kf 1)).2 ≠ 0 then (t0, (typeS N S P n (e.kf 1)).2)
    else if 2 < e.nk ∧ (typeS N S P n (e.kf 2)).2 ≠ 0 then (t0, (typeS N S P n (e.kf 2)).2)
    else opS N S P e (if 0 < e.nk then (typeS N S P n (e.kf 0)).1 else t0) (if 1 < e.nk then (typeS N S P n (e.kf 1)).1 else t0) (if 2 < e.nk then (typeS N S P n (e.kf 2)).1 else t0)
abbrev dD : Df := ⟨0, ⟨#[]⟩, t0, 0, 0, fun _ => (0, 0, 0), .nil, 0, 0, 0⟩
abbrev vDs (l : List Df) : PV := .vsl l.length 21 (tF cD (lF dD l))
def tyD (d : Df) : Ty := if d.kind = 4 then tM else d.ty
def typS (t : Ty) : Bool := if t.b = true then decide (t.m = 0 ∧ t.h = 0 ∧ t.d = 0) else unitS t.m t.h t.d
def zeroX (e : Ex) : Bool := decide (e.op = 0) && (decide (e.vn = 0 ∧ e.vd = 0) && (decide (e.um = 0 ∧ e.uh = 0 ∧ e.ud = 0) && ((e.nm.toList == []) && (decide (e.cnt = 0) && (decide (e.mode = 0) && decide (e.nk = 0))))))
def dayS (d : Int) : Bool := decide (0 ≤ d ∧ d ≤ 84005)
def entsS (n : Nat) (f : Nat → En) : Bool := decide (1 ≤ n ∧ n ≤ 64) && allK n (fun i => decide ((if i = 0 then -1 else (f (i - 1)).1) < (f i).1 ∧ (f i).1 ≤ 1000000) && decS (f i).2.1 (f i).2.2)
def stepS (n d : Int) : Bool := decS n d && (decide (0 < n) && decide (Int.tmod 100 d = 0))
def tz (t : Ty) : Bool := decide (t = t0)
def defS (d : Df) : Bool :=
  if d.kind = 1 then typS d.ty && (decide (d.day = 0) && (decide (d.ne = 0) && (zeroX d.body && (decide (d.mode = 0) && decide (d.sn = 0 ∧ d.sd = 0)))))
  else if d.kind = 5 then (typS d.ty && !d.ty.b) && (decide (d.day = 0) && (decide (d.ne = 0) && (zeroX d.body && (decide (d.mode = 0) && decide (d.sn = 0 ∧ d.sd = 0)))))
  else if d.kind = 2 then (typS d.ty && !d.ty.b) && (dayS d.day && (entsS d.ne d.ef && (zeroX d.body && (decide (d.mode = 0) && decide (d.sn = 0 ∧ d.sd = 0)))))
  else if d.kind = 3 then typS d.ty && (dayS d.day && (decide (d.ne = 0) && (validS 32 d.body && (decide (d.mode = 0) && decide (d.sn = 0 ∧ d.sd = 0)))))
  else if d.kind = 4 then tz d.ty && (dayS d.day && (decide (d.ne = 0) && (validS 32 d.body && (modeB d.mode && stepS d.sn d.sd))))
  else false
def agrS (nm : ByteArray) (l : List Df) : Bool := nameS nm && (decide (l.length ≤ 128) && l.all (fun d => nameS d.nm && defS d))
abbrev vA (nm : ByteArray) (l : List Df) : PV := .agg 2 (nthP [vs nm, vDs l])
structure BdD (d : Df) : Prop where
  nm : d.nm.size ≤ 9223372036854775807
  ef : ∀ i, i < d.ne → -9223372036854775808 ≤ (d.ef i).2.1 ∧ (d.ef i).2.1 ≤ 9223372036854775807
  ne : d.ne ≤ 1000000
  body : Bd d.body
  st : -9223372036854775808 ≤ d.sn ∧ d.sn ≤ 9223372036854775807
theorem kidsN_le (op : Int) : kidsN op ≤ 3 := by unfold kidsN; repeat' split
                                                 all_goals omega
def kt (T : Nat → Ty × Int) (i j : Nat) : Ty := if j < i then (T j).1 else t0
def opK (N S P : List Df) (e : Ex) (T : Nat → Ty × Int) : Ty × Int := opS N S P e (kt T e.nk 0) (kt T e.nk 1) (kt T e.nk 2)
theorem typeS_succ (N S P : List Df) (n : Nat) (e : Ex) {T : Nat → Ty × Int} (hT : ∀ i, typeS N S P n (e.kf i) = T i) (h3 : e.nk ≤ 3) :
    (∀ i, i < e.nk → (∀ j, j < i → (T j).2 = 0) → (T i).2 ≠ 0 → typeS N S P (n + 1) e = (t0, (T i).2)) ∧ ((∀ j, j < e.nk → (T j).2 = 0) → typeS N S P (n + 1) e = opK N S P e T) := by
  constructor
  · intro i hi hj h
    rw [typeS]
    simp only [hT]
    rcases (by omega : i = 0 ∨ i = 1 ∨ i = 2) with rfl | rfl | rfl
    · rw [if_pos ⟨hi, h⟩]
    · rw [if_neg (by rintro ⟨_, h1⟩; exact h1 (hj 0 (by omega))), if_pos ⟨hi, h⟩]
    · rw [if_neg (by rintro ⟨_, h1⟩; exact h1 (hj 0 (by omega))), if_neg (by rintro ⟨_, h1⟩; exact h1 (hj 1 (by omega))), if_pos ⟨hi, h⟩]
  · intro h
    rw [typeS]
    simp only [hT]
    rw [if_neg (by rintro ⟨h0, h1⟩; exact h1 (h 0 h0)), if_neg (by rintro ⟨h0, h1⟩; exact h1 (h 1 h0)), if_neg (by rintro ⟨h0, h1⟩; exact h1 (h 2 h0))]
    rfl
abbrev vD (d : Df) : PV := .agg 21 (nthP (cD d))
end Go.Proofs.YtcefhgomkehokaaGreat
namespace Go.Proofs.YtcefhgomkehokaaGreat
def wS : Nat → (Nat → Nat) → Nat
  | 0, _ => 0
  | n + 1, g => wS n g + g n
def Ex.w : Ex → Nat
  | .nil => 0
  | .mk _ _ _ _ _ _ _ _ _ nk kf => 1 + wS nk fun i => (kf i).w
theorem w_kids (e : Ex) : (wS e.nk fun i => (e.kf i).w) ≤ e.w := by
  cases e with
  | nil => exact Nat.zero_le _
  | mk => exact Nat.le_add_left _ 1
theorem w_kid {e : Ex} {i : Nat} (hi : i < e.nk) : (e.kf i).w ≤ e.w := by
  refine Nat.le_trans ?_ (w_kids e)
  have : ∀ n (g : Nat → Nat), i < n → g i ≤ wS n g := by
    intro n
    induction n with
    | zero => intro g h; exact absurd h (Nat.not_lt_zero _)
    | succ n ih =>
      intro g h
      simp only [wS]
      by_cases e : i = n
      · subst e; omega
      · have := ih g (by omega); omega
  exact this _ (fun i => (e.kf i).w) hi
end Go.Proofs.YtcefhgomkehokaaGreat
namespace Go.Proofs.YtcefhgomkehokaaGreat
section
variable {G : Pg} {N : Nat} {Γ : Fr} {st : PSt} {ρ : Nat → Loc} {I : Nat → Prop} {a : Act} {w : World}
theorem papp2 (h : Rel N Γ st ρ I a w) {t tx e e' ty : TypeId} {i : TypeInfo} {z : Value} (ht : G.P.underlying t = some (.slice e)) (hx : G.P.underlying tx = some (.slice e')) (hi : G.P.info? e = some i) (hz : i.zero = some z) (hzs : z.cells.size = i.size) (hsz : 0 < i.size)
    {l n m : Nat} {r : Row} (hl : st.mem[l]? = some r) (ho : r.s = .own) (hrs : r.sz = i.size) {v u : Value} (hv : VRel st.mem.length ρ I w (.lsl l 0 n) v) {g : Nat → Nat → PV}
    (hu : ∃ ad cap, u = .slice ad m cap ∧ (m = 0 ∨ ∃ b o, ad = some ⟨b, o, none⟩ ∧ ∀ p, p < m → ∀ j, j < i.size → ∃ y, w.cell? ⟨b, o + p * i.size + j, none⟩ = some y ∧ y.oneCell' = true ∧ VRel st.mem.length ρ I w (g p j) y))
    (hn : n ≤ r.n) (hn0 : 0 < n) (hm0 : 0 < m) (hb : (n + m) * i.bytes ≤ 140737488355328) (h63 : n + m ≤ 9223372036854775807) :
    ∃ v' w' ρ', (Builtin.append_ #[t, tx] ty #[v, u]).run G.P w = .ok v' w' ∧
      ((Rel N Γ ⟨st.tm, st.mem.set l ⟨.own, false, n + m, i.size, appF n r.f g⟩⟩ ρ' I a w' ∧ VRel (st.mem.set l (⟨.own, false, n + m, i.size, appF n r.f g⟩ : Row)).length ρ' I w' (.lsl l 0 (n + m)) v') ∨
       (Rel N Γ ⟨st.tm, st.mem ++ [⟨.own, false, n + m, i.size, appF n r.f g⟩]⟩ ρ' I a w' ∧ VRel (st.mem ++ [(⟨.own, false, n + m, i.size, appF n r.f g⟩ : Row)]).length ρ' I w' (.lsl (0 + st.mem.length) 0 (n + m)) v')) := by
  have hlen := lt_get hl
  have hio : r.s.isOwn := by rw [ho]; trivial
  have hlv := RS.live_of_own hio
  obtain ⟨hs0, cs, T, hcb, hcell⟩ := h.fr.m.row l r hl hlv
  have e0 : (ρ l).sz = i.size := by rw [hs0, hrs]
  obtain ⟨news, hsrc, hnf⟩ := src_of hx hsz hu
  rcases hv.2 with ⟨rfl, ad, rfl⟩ | ⟨cap, hcap, rfl, cs2, T2, fz2, hcb2, hsz2⟩
  · omega
  rw [hcb] at hcb2
  simp only [Option.some.injEq, Obj.cells.injEq] at hcb2
  obtain ⟨rfl, rfl, rfl⟩ := hcb2
  rw [hs0, hrs] at hsz2
  rw [hrs] at hcell
  by_cases hg : cap < n + m
  · have hold0 : ∀ p, p < n → ∀ j, j < i.size → ∃ y, w.cell? ⟨(ρ l).b, ((ρ l).o + 0 * i.size) + p * i.size + j, none⟩ = some y ∧ y.oneCell' = true ∧ VRel st.mem.length ρ I w (r.f p j) y := fun p hp j hj => by
      obtain ⟨y, g1, g2, g3⟩ := hcell p (by omega) j hj
      refine ⟨y, ?_, g2, g3⟩
      simp only [World.cell?, hcb]
      rw [← g1]; simp
    obtain ⟨olds, o1, o2, o3, o4⟩ := news_list (g := fun p j => r.f p j) hsz hold0
    have hold : (Builtin.firstCells i.size n (.slice (some ⟨(ρ l).b, (ρ l).o + 0 * (ρ l).sz, none⟩) n cap)).run G.P w.drew = .ok olds.toArray w.drew := by
      rw [hs0, hrs]
      exact run_firstCells_some w.drew i.size n _ n cap olds o1 (by simpa using o2)
    have hrun := run_append_grow_src (P := G.P) w t tx ty e i z ht hi hz (some ⟨(ρ l).b, (ρ l).o + 0 * (ρ l).sz, none⟩) n cap olds hold u m news hsrc hg (by omega) (growslice_fits hg hb)
    have := grown_app h e i.size n m (grownCap w (n + m) cap e) hsz olds news (Builtin.zeroCells z.cells (grownCap w (n + m) cap e - (n + m))) r.f g _ (grownCap_ge w _ _ _) (by rw [size_zeroCells, hzs]) (fun _ => rfl) o1 o4 hsrc.newsLen hnf
    exact ⟨_, _, _, hrun, .inr ⟨this.rel, this.val⟩⟩
  · have hnl := hsrc.newsLen
    have hspan : (ρ l).o + 0 * i.size + n * i.size + news.length ≤ cs.size := by
      have : (n + m) * i.size ≤ cap * i.size := Nat.mul_le_mul_right _ (by omega)
      rw [Nat.add_mul] at this
      rw [Nat.add_mul] at hsz2
      omega
    have hrun := run_append_room_src (P := G.P) w t tx ty e i ht hi (ρ l).b ((ρ l).o + 0 * i.size) n cap u m news hsrc (by omega)
      (fun j hj => by
        have hlt : (ρ l).o + 0 * i.size + n * i.size + j < cs.size := by omega
        simp only [World.cell?, hcb, Array.getElem?_eq_getElem hlt]; simp) (fun j hj => by simp [World.frozen?, hcb])
    obtain ⟨cs', k1, k2, k3⟩ := heap_setCells (ρ l).b news ((ρ l).o + 0 * i.size + n * i.size) w cs T (0, 0) hcb
    obtain ⟨z1, z2, z3, z4⟩ := rest_setCells (ρ l).b news ((ρ l).o + 0 * i.size + n * i.size) w
    have hset := h.setRow hl hio ⟨.own, false, n + m, i.size, appF n r.f g⟩ rfl hrs.symm hcb k1 k2 (fun b hne => other_setCells _ _ _ _ b hne) z1 z2 z3 z4 (fun p hp q hq => by
      simp only at hp hq ⊢
      rw [k3]
      by_cases hc : p < n
      · rw [appF_lt _ _ hc, if_neg]
        · exact hcell p (by omega) q hq
        · have : (p + 1) * i.size ≤ n * i.size := Nat.mul_le_mul_right _ hc
          rw [Nat.add_mul] at this; omega
      · rw [appF_ge _ _ (by omega)]
        obtain ⟨y, y1, y2, y3⟩ := hnf (p - n) (by omega) q hq
        have e1 : p * i.size = n * i.size + (p - n) * i.size := by rw [← Nat.add_mul]; congr 1; omega
        have hlt : (p - n) * i.size + q < news.length := by
          by_cases hlt : (p - n) * i.size + q < news.length
          · exact hlt
          · rw [List.getElem?_eq_none (by omega)] at y1; cases y1
        rw [if_pos (by omega)]
        refine ⟨y, ?_, y2, y3⟩
        rw [show (ρ l).o + p * i.size + q - ((ρ l).o + 0 * i.size + n * i.size) = (p - n) * i.size + q by omega]
        simp [List.getD, y1])
    refine ⟨.slice (some ⟨(ρ l).b, (ρ l).o + 0 * i.size, none⟩) (n + m) cap, w.setCells (ρ l).b ((ρ l).o + 0 * i.size + n * i.size) news, ρ, by rw [e0]; exact hrun, .inl ⟨hset, ?_⟩⟩
    refine ⟨by simp; omega, .inr ⟨cap, by omega, by rw [e0], cs', T, (0, 0), k1, ?_⟩⟩
    rw [k2, e0]; exact hsz2
end
section
variable {G : Pg} {N : Nat} {Γ : Fr} {st : PSt} {K : Exit → PSt → Prop} {ops : Array Oper} {o : Oper} {rest : List Oper} {d : Nat}
theorem pop_app2 {s x : Operand} {t t' e e' : TypeId} {z : Value} {l lx n m : Nat} {r rx : Row} {m1 m2 : List Row} (hg : o.guard = none) (hd : o.dst = some d) (hN : Nat.blt d N = true) (ho : o.op = .call ⟨.builtin .append, #[s, x], #[t, t']⟩)
    (hk1 : (tget G.tab t).k = .slice e) (hk2 : (tget G.tab t').k = .slice e') (hz : (tget G.tab e).zero = some z) (hzs : Nat.beq z.cells.size (tget G.tab e).sz = true) (hsz : Nat.blt 0 (tget G.tab e).sz = true) (hs : st.ev s = .lsl l 0 n) (hr : rowAt st.mem l = some r) (hown : r.s = .own) (hrs : Nat.beq r.sz (tget G.tab e).sz = true)
    (hx : st.ev x = .lsl lx 0 m) (hrx : rowAt st.mem lx = some rx) (hxo : rx.s.live) (hxs : Nat.beq rx.sz (tget G.tab e).sz = true) (hxn : m ≤ rx.n) (hn : n ≤ r.n) (hn0 : 0 < n) (hm0 : 0 < m) (hb : (n + m) * (tget G.tab e).bytes ≤ 140737488355328) (h63 : n + m ≤ 9223372036854775807)
    (hm1 : setM st.mem l ⟨.own, false, n + m, (tget G.tab e).sz, appF n r.f rx.f⟩ some = some m1) (hm2 : snocM st.mem ⟨.own, false, n + m, (tget G.tab e).sz, appF n r.f rx.f⟩ 0 (fun k mem => some mem) = some m2)
    (h1 : POps G N Γ ops rest (PSt.put ⟨st.tm, m1⟩ d (.lsl l 0 (n + m))) K) (h2 : POps G N Γ ops rest (PSt.put ⟨st.tm, m2⟩ d (.lsl (lenK st.mem 0) 0 (n + m))) K) : POps G N Γ ops (o :: rest) st K := .mk fun ρ I a w hrel => by
  have hw : Region.wanted o (yielded ops a.tmps) = true := by simp [Region.wanted, hg]
  simp only [wpList, hw, if_true]
  refine .inl ?_
  rw [rowAt_get] at hr hrx
  rw [setM_eq] at hm1
  rw [snocM_eq] at hm2
  simp only [Option.some.injEq] at hm1 hm2
  subst hm1 hm2
  obtain ⟨i, hi, hiz, his, hib⟩ := tab_zero G.ok hz
  have hu := tab_slice G.ok hk1
  have hu' := tab_slice G.ok hk2
  have hzs' : z.cells.size = (tget G.tab e).sz := Nat.eq_of_beq_eq_true hzs
  rw [Nat.blt_eq] at hsz
  have hrs' : r.sz = (tget G.tab e).sz := Nat.eq_of_beq_eq_true hrs
  have hxs' : rx.sz = (tget G.tab e).sz := Nat.eq_of_beq_eq_true hxs
  have hx1 := ev_rel hrel x
  rw [hx] at hx1
  have hs1 := ev_rel hrel s
  rw [hs] at hs1
  rw [← his] at hzs' hsz hrs' hxs' h1 h2
  rw [← hib] at hb
  have hsrc : ∃ ad cap, a.eval x = .slice ad m cap ∧ (m = 0 ∨ ∃ b o, ad = some ⟨b, o, none⟩ ∧ ∀ p, p < m → ∀ j, j < i.size → ∃ y, w.cell? ⟨b, o + p * i.size + j, none⟩ = some y ∧ y.oneCell' = true ∧ VRel st.mem.length ρ I w (rx.f p j) y) := by
    rcases hx1.2 with ⟨e, _⟩ | ⟨cap, _, e, _⟩
    · omega
    · refine ⟨_, cap, e, .inr ⟨_, _, rfl, fun p hp j hj => ?_⟩⟩
      obtain ⟨q1, cs, T, q2, q3⟩ := hrel.fr.m.row lx rx hrx hxo
      obtain ⟨y, y1, y2, y3⟩ := q3 p (by omega) j (by omega)
      refine ⟨y, ?_, y2, y3⟩
      simp only [World.cell?, q2]
      rw [← y1, hxs']
      simp
  obtain ⟨v', w', ρ', q1, q2⟩ := papp2 hrel hu hu' hi hiz hzs' hsz (ty := o.type) hr hown hrs' hs1 hsrc hn hn0 hm0 hb h63
  have hexec : (execOp a.eval o).run G.P w = .ok (.value v') w' := by
    simp only [execOp, ho, resolve, Sem.run_bind, Sem.run_pure, Result.andThen_ok, invoke, builtin]
    have : (#[s, x].map a.eval) = #[a.eval s, a.eval x] := by simp
    rw [this, q1]; rfl
  simp only [Oper.wp, hexec, Oper.upon_value, hd]
  rcases q2 with ⟨q2, q3⟩ | ⟨q2, q3⟩
  · exact h1.go ρ' I _ w' (q2.put (by rwa [Nat.blt_eq] at hN) q3)
  · refine h2.go ρ' I _ w' (q2.put (by rwa [Nat.blt_eq] at hN) ?_)
    rw [lenK_eq]; exact q3
end
end Go.Proofs.YtcefhgomkehokaaGreat
namespace Go.Proofs.YtcefhgomkehokaaGreat
set_option maxHeartbeats 4000000 in
theorem kids_c (op : Int) : PureC G.P 136 [vi op] (fun r => r = vi (kidsN op)) := by
  refine pure_of (G := G.toPg) (fn := Tryz.f136) Tryz.func136 rfl rfl rfl ?_; intro Γ hk
  by_cases hr : 1 ≤ op ∧ op ≤ 21
  · obtain rfl | rfl | rfl | rfl | rfl | rfl | rfl | rfl | rfl | rfl | rfl | rfl | rfl | rfl | rfl | rfl | rfl | rfl | rfl | rfl | rfl : op = 1 ∨ op = 2 ∨ op = 3 ∨ op = 4 ∨ op = 5 ∨ op = 6 ∨ op = 7 ∨ op = 8 ∨ op = 9 ∨ op = 10 ∨ op = 11 ∨ op = 12 ∨ op = 13 ∨ op = 14 ∨ op = 15 ∨ op = 16 ∨ op = 17 ∨ op = 18 ∨ op = 19 ∨ op = 20 ∨ op = 21 := by omega
    all_goals
      repeat' (first | refine gg ?_ | exact trivial | with_reducible refine wA ?_ ?_ | refine Y2.mk ?_ ?_ | refine gh ?_ | exact qq | fail)
      exact kretv rfl ⟨trivial, trivial⟩ rfl rfl
  · have e : kidsN op = -1 := by
      unfold kidsN
      rw [if_neg (by omega), if_neg (by omega), if_neg (by omega), if_neg (by omega)]
    repeat' (first | refine gg ?_ | exact trivial | with_reducible refine wA ?_ ?_ | refine Y2.mk ?_ ?_ | (refine pcond_n rfl (by simp; omega) ?_) | refine gh ?_ | exact qq | fail)
    exact kretv rfl ⟨trivial, trivial⟩ rfl (eqI e.symm)
theorem isMode18_c (m : Int) : PureC G.P 100 [vi m] (fun r => r = vb (modeB m)) := by
  refine pure_of (G := G.toPg) (fn := Tryz.f100) Tryz.func100 rfl rfl rfl ?_; intro Γ hk
  repeat' (first | refine gg ?_ | exact trivial | with_reducible refine wA ?_ ?_ | refine Y2.mk ?_ ?_ | refine gh ?_ | exact qq | fail)
  refine kretv rfl ⟨trivial, trivial⟩ rfl (eqB ?_)
  rw [Bool.eq_iff_iff]; simp [modeB]
theorem isExp_c (n : Int) : PureC G.P 134 [vi n] (fun r => r = vb (decide (-3 ≤ n ∧ n ≤ 3))) := by
  refine pure_of (G := G.toPg) (fn := Tryz.f134) Tryz.func134 rfl rfl rfl ?_; intro Γ hk
  repeat' (first | refine gg ?_ | exact trivial | with_reducible refine wA ?_ ?_ | refine Y2.mk ?_ ?_ | refine gh ?_ | exact qq | fail)
  refine kretv rfl ⟨trivial, trivial⟩ rfl (eqB ?_)
  rw [Bool.eq_iff_iff]; simp
theorem validUnit_c (m h d : Int) : PureC G.P 121 [.agg 3 (nthP [vi m, vi h, vi d])] (fun r => r = vb (unitS m h d)) := by
  have c1 := isExp_c m
  have c2 := isExp_c h
  have c3 := isExp_c d
  refine pure_of (G := G.toPg) (fn := Tryz.f121) Tryz.func121 rfl rfl rfl ?_; intro Γ hk
  repeat' (first | refine gg ?_ | exact trivial | with_reducible refine wA ?_ ?_ | refine Y2.mk ?_ ?_ | refine zz c1 ?_ | refine zz c2 ?_ | refine zz c3 ?_ | refine gh ?_ | exact qq | fail)
  refine kretv rfl ⟨trivial, trivial⟩ rfl (eqB ?_)
  unfold unitS
  cases decide (-3 ≤ m ∧ m ≤ 3) <;> cases decide (-3 ≤ h ∧ h ≤ 3) <;> cases decide (-3 ≤ d ∧ d ≤ 3) <;> rfl
theorem isNumber_c (n d : Int) (h1 : -9223372036854775808 ≤ n) (h2 : n ≤ 9223372036854775807) : PureC G.P 122 [vr n d] (fun r => r = vb (decS n d)) := by
  have c1 := ratioValid_c n d h1 h2
  have hne : ((bif okR n d then decide (0 ≤ n) else false) == true) = true → d ≠ 0 := fun h => by
    cases ho : okR n d
    · rw [ho] at h; cases h
    · have := okR_bd ho; omega
  refine pure_of (G := G.toPg) (fn := Tryz.f122) Tryz.func122 rfl rfl rfl ?_; intro Γ hk
  repeat' (first | refine gg ?_ | exact trivial | with_reducible refine wA ?_ ?_ | refine Y2.mk ?_ ?_ | exact fun h => ⟨h, hne h⟩ | refine zz c1 ?_ | refine gh ?_ | exact qq | fail)
  refine kretv rfl ⟨trivial, trivial⟩ rfl (eqB ?_)
  unfold decS
  have e : (Int.tmod 1000000 d == 0) = decide (Int.tmod 1000000 d = 0) := by rw [Bool.eq_iff_iff]; simp
  rw [e]
  cases okR n d <;> cases decide (0 ≤ n) <;> cases decide (Int.tmod 1000000 d = 0) <;> rfl
theorem isStep_c (n d : Int) (h1 : -9223372036854775808 ≤ n) (h2 : n ≤ 9223372036854775807) : PureC G.P 101 [vr n d] (fun r => r = vb (decS n d && decide (0 < n))) := by
  have c1 := isNumber_c n d h1 h2
  refine pure_of (G := G.toPg) (fn := Tryz.f101) Tryz.func101 rfl rfl rfl ?_; intro Γ hk
  repeat' (first | refine gg ?_ | exact trivial | with_reducible refine wA ?_ ?_ | refine Y2.mk ?_ ?_ | refine zz c1 ?_ | refine gh ?_ | exact qq | fail)
  refine kretv rfl ⟨trivial, trivial⟩ rfl (eqB ?_)
  cases decS n d <;> cases decide (0 < n) <;> rfl
set_option maxHeartbeats 4000000 in
theorem validFields_c (e : Ex) (hv : -9223372036854775808 ≤ e.vn ∧ e.vn ≤ 9223372036854775807) (hs : e.nm.size ≤ 9223372036854775807) : PureC G.P 137 [vX e] (fun r => r = vb (fieldS e)) := by
  have c1 := isNumber_c e.vn e.vd hv.1 hv.2
  have c2 := isStep_c e.vn e.vd hv.1 hv.2
  have c3 := validUnit_c e.um e.uh e.ud
  have c4 := isName_c e.nm hs
  have c5 := isMode18_c e.mode
  refine pure_of (G := G.toPg) (fn := Tryz.f137) Tryz.func137 rfl rfl rfl ?_; intro Γ hk
  by_cases hr : e.op = 1 ∨ e.op = 2 ∨ e.op = 3 ∨ e.op = 4 ∨ e.op = 19 ∨ e.op = 20 ∨ e.op = 21
  · rcases hr with h | h | h | h | h | h | h
    all_goals
      repeat' (first | refine gg ?_ | exact trivial | with_reducible refine wA ?_ ?_ | refine Y2.mk ?_ ?_ | refine xs_start (id := 3) true [.take 0, .take 1, .take 2, .take 3, .take 4, .take 5, .take 6, .take 7, .take 8, .take 9, .take 10, .take 11] 0 rfl rfl (by kernel_rfl) ?_ | refine xs_start (id := 6) true [.take 0, .take 1, .take 3, .take 4, .one 2, .one 5, .take 6, .take 7] 0 rfl rfl (by kernel_rfl) ?_ | refine xs_start (id := 13) true [.take 0, .take 1, .take 3, .take 4, .take 6, .take 7, .one 2, .one 5, .one 8, .take 9, .take 10, .take 11] 0 rfl rfl (by kernel_rfl) ?_ | (refine pcond_y rfl (by rw [h]; rfl) ?_) | (refine pcond_n rfl (by rw [h]; rfl) ?_) | refine zz c1 ?_ | refine zz c2 ?_ | refine zz c3 ?_ | refine zz c4 ?_ | refine zz c5 ?_ | refine gh ?_ | exact qq | fail)
      refine kretv rfl ⟨trivial, trivial⟩ rfl (eqB ?_)
      simp [fieldS, h, bqd, Bool.and_assoc]
  · repeat' (first | refine gg ?_ | exact trivial | with_reducible refine wA ?_ ?_ | refine Y2.mk ?_ ?_ | refine xs_start (id := 3) true [.take 0, .take 1, .take 2, .take 3, .take 4, .take 5, .take 6, .take 7, .take 8, .take 9, .take 10, .take 11] 0 rfl rfl (by kernel_rfl) ?_ | refine xs_start (id := 6) true [.take 0, .take 1, .take 3, .take 4, .one 2, .one 5, .take 6, .take 7] 0 rfl rfl (by kernel_rfl) ?_ | refine xs_start (id := 13) true [.take 0, .take 1, .take 3, .take 4, .take 6, .take 7, .one 2, .one 5, .one 8, .take 9, .take 10, .take 11] 0 rfl rfl (by kernel_rfl) ?_ | (refine pcond_n rfl (by simp; omega) ?_) | refine gh ?_ | exact qq | fail)
    refine kretv rfl ⟨trivial, trivial⟩ rfl (eqB ?_)
    have e1 : ¬ e.op = 1 := by omega
    have e2 : ¬ e.op = 2 := by omega
    have e3 : ¬ e.op = 3 := by omega
    have e4 : ¬ e.op = 4 := by omega
    have e5 : ¬ e.op = 19 := by omega
    have e6 : ¬ e.op = 20 := by omega
    have e7 : ¬ e.op = 21 := by omega
    simp [fieldS, e1, e2, e3, e4, e5, e6, e7, bqd, Bool.and_assoc]
theorem peqK (e : Ex) : PEq (.vsl e.nk 10 e.kc) (.vsl e.nk 10 (tF cX e.kf)) := peq_vsl rfl fun i hi j hj => by rw [kc_eq (by omega)]
theorem validExpr_c : ∀ (n : Nat) (e : Ex), n ≤ 1000 → Bd e → PureC G.P 123 [vX e, vi n] (fun r => r = vb (validS n e))
  | 0, e, _, hb => by
    have c1 := kids_c e.op
    have c2 := validFields_c e hb.v hb.s
    refine pure_of (G := G.toPg) (fn := Tryz.f123) Tryz.func123 rfl rfl rfl ?_; intro Γ hk
    repeat' (first | refine gg ?_ | exact trivial | with_reducible refine wA ?_ ?_ | refine Y2.mk ?_ ?_ | refine xs_start (id := 1) true [.take 0, .take 1, .take 2, .take 3, .take 4, .take 5, .take 6, .take 7, .one 8, .take 9, .take 10, .take 11, .take 12, .one 13, .take 14, .take 15] 0 rfl rfl (by kernel_rfl) ?_ | refine zz c1 ?_ | refine zz c2 ?_ | refine gh ?_ | exact qq | fail)
    exact kretv rfl ⟨trivial, trivial⟩ rfl rfl
  | n + 1, e, hn, hb => by
    have c1 := kids_c e.op
    have c2 := validFields_c e hb.v hb.s
    have hw : IntKind.i64.wrap (((n + 1 : Nat) : Int) - 1) = n := by rw [w64 (by omega) (by omega)]; omega
    have c3 : ∀ i, i < e.nk → PureC G.P 123 [vX (e.kf i), vi (IntKind.i64.wrap (((n + 1 : Nat) : Int) - 1))] (fun r => r = vb (validS n (e.kf i))) := fun i hi => by
      rw [hw]; exact validExpr_c n (e.kf i) (by omega) (hb.k hi)
    have hk3 := kidsN_le e.op
    refine pure_of (G := G.toPg) (fn := Tryz.f123) Tryz.func123 rfl rfl rfl ?_; intro Γ hk
    repeat' (first | refine gg ?_ | exact trivial | with_reducible refine wA ?_ ?_ | refine Y2.mk ?_ ?_ | refine xs_start (id := 1) true [.take 0, .take 1, .take 2, .take 3, .take 4, .take 5, .take 6, .take 7, .one 8, .take 9, .take 10, .take 11, .take 12, .one 13, .take 14, .take 15] 0 rfl rfl (by kernel_rfl) ?_ | refine zz c1 ?_ | refine zz c2 ?_ | refine gh ?_ | exact qq | fail)
    refine pcond (b := !(decide ((e.nk : Int) = kidsN e.op) && fieldS e)) ?_ ?_ ?_
    · refine eqB ?_
      rw [decide_eq_false (show ¬ (((n + 1 : Nat) : Int) < 1) by omega), show ((e.nk : Int) != kidsN e.op) = !decide ((e.nk : Int) = kidsN e.op) from by rw [← bqd]; rfl]
      cases decide ((e.nk : Int) = kidsN e.op) <;> cases fieldS e <;> rfl
    · intro h
      repeat' (first | refine gg ?_ | exact trivial | with_reducible refine wA ?_ ?_ | refine Y2.mk ?_ ?_ | refine gh ?_ | exact qq | fail)
      refine kretv rfl ⟨trivial, trivial⟩ rfl (eqB ?_)
      rw [validS]
      revert h
      cases decide ((e.nk : Int) = kidsN e.op) <;> cases fieldS e <;> simp
    · intro h
      have h1 : (e.nk : Int) = kidsN e.op ∧ fieldS e = true := by
        revert h
        by_cases hn : (e.nk : Int) = kidsN e.op <;> cases fieldS e <;> simp [hn]
      obtain ⟨h1, h2⟩ := h1
      repeat' (first | refine gg ?_ | exact trivial | with_reducible refine wA ?_ ?_ | refine Y2.mk ?_ ?_ | refine gh ?_ | exact qq | fail)
      refine pcan (st' := ⟨[(1, vi ((n + 1 : Nat) : Int)), (24, .vsl e.nk 10 (tF cX e.kf)), (25, vi e.nk), (26, vi ((0 : Nat) : Int))], []⟩) (can_rowsv [] (k0_sel hk rfl) rfl .nil (by exact ⟨PEq.refl _, peqK e, PEq.refl _, PEq.refl _, trivial⟩)) ?_
      refine ploop (fun q st => ∃ i : Nat, i ≤ e.nk ∧ (∀ j, j < i → validS n (e.kf j) = true) ∧ q = e.nk - i ∧ st = ⟨[(1, vi ((n + 1 : Nat) : Int)), (24, .vsl e.nk 10 (tF cX e.kf)), (25, vi e.nk), (26, vi i)], []⟩) e.nk ⟨0, by omega, fun j hj => by omega, by omega, rfl⟩ ?_
      rintro _ _ ⟨i, hi, hv, rfl, rfl⟩
      repeat' (first | refine gg ?_ | exact trivial | with_reducible refine wA ?_ ?_ | refine Y2.mk ?_ ?_ | refine gh ?_ | exact qq | fail)
      refine pcond rfl ?_ ?_ <;> intro hc <;> simp at hc
      · have c4 := c3 i hc
        repeat' (first | refine gg ?_ | exact trivial | with_reducible refine wA ?_ ?_ | refine Y2.mk ?_ ?_ | refine zz c4 ?_ | refine gh ?_ | exact qq | fail)
        refine pcond rfl ?_ ?_ <;> intro hc2
        · have hf : validS n (e.kf i) = false := by simpa using hc2
          repeat' (first | refine gg ?_ | exact trivial | with_reducible refine wA ?_ ?_ | refine Y2.mk ?_ ?_ | refine gh ?_ | exact qq | fail)
          refine kretv rfl ⟨trivial, trivial⟩ rfl (eqB ?_)
          rw [validS, allK_no hc hf]; simp
        · have hf : validS n (e.kf i) = true := by simpa using hc2
          repeat' (first | refine gg ?_ | exact trivial | with_reducible refine wA ?_ ?_ | refine Y2.mk ?_ ?_ | refine gh ?_ | exact qq | fail)
          rw [show IntKind.i64.wrap ((i : Int) + 1) = ((i + 1 : Nat) : Int) from w64 (by omega) (by omega)]
          exact kloop_next (st' := ⟨[(1, vi ((n + 1 : Nat) : Int)), (24, .vsl e.nk 10 (tF cX e.kf)), (25, vi e.nk), (26, vi ((i + 1 : Nat) : Int))], []⟩) (e.nk - (i + 1)) (can_rowsv [] (k0_sel hk rfl) rfl .nil tmq) (by omega) ⟨i + 1, by omega, fun j hj => by
            by_cases e : j = i
            · subst e; exact hf
            · exact hv j (by omega), rfl, rfl⟩
      · repeat' (first | refine gg ?_ | exact trivial | with_reducible refine wA ?_ ?_ | refine Y2.mk ?_ ?_ | refine gh ?_ | exact qq | fail)
        refine kretv rfl ⟨trivial, trivial⟩ rfl (eqB ?_)
        rw [validS, decide_eq_true h1, h2, allK_iff.2 fun j hj => hv j (by omega)]; rfl
end Go.Proofs.YtcefhgomkehokaaGreat
namespace Go.Proofs.YtcefhgomkehokaaGreat
theorem nb_t {b : Bool} (h : (!b) = true) : b = false := by cases b; rfl; cases h
theorem nb_f {b : Bool} (h : (!b) = false) : b = true := by cases b; cases h; rfl
theorem isDay_c (n : Int) : PureC G.P 97 [vi n] (fun r => r = vb (dayS n)) := by
  refine pure_of (G := G.toPg) (fn := Tryz.f97) Tryz.func97 rfl rfl rfl ?_; intro Γ hk
  repeat' (first | refine gg ?_ | exact trivial | with_reducible refine wA ?_ ?_ | refine Y2.mk ?_ ?_ | refine gh ?_ | exact qq | fail)
  refine kretv rfl ⟨trivial, trivial⟩ rfl (eqB ?_)
  unfold dayS
  rw [Bool.eq_iff_iff]; simp
theorem validType_c (t : Ty) : PureC G.P 96 [vT t] (fun r => r = vb (typS t)) := by
  have c1 := validUnit_c t.m t.h t.d
  refine pure_of (G := G.toPg) (fn := Tryz.f96) Tryz.func96 rfl rfl rfl ?_; intro Γ hk
  repeat' (first | refine gg ?_ | exact trivial | with_reducible refine wA ?_ ?_ | refine Y2.mk ?_ ?_ | refine gh ?_ | exact qq | fail)
  refine pcond rfl ?_ ?_ <;> intro hc
  · repeat' (first | refine gg ?_ | exact trivial | with_reducible refine wA ?_ ?_ | refine Y2.mk ?_ ?_ | refine gh ?_ | exact qq | fail)
    refine kretv rfl ⟨trivial, trivial⟩ rfl (eqB ?_)
    simp [typS, hc, bqd, Bool.and_assoc]
  · repeat' (first | refine gg ?_ | exact trivial | with_reducible refine wA ?_ ?_ | refine Y2.mk ?_ ?_ | refine zz c1 ?_ | refine gh ?_ | exact qq | fail)
    refine kretv rfl ⟨trivial, trivial⟩ rfl (eqB ?_)
    simp [typS, hc]
theorem isCents_c (n d : Int) : PureC G.P 102 [vr n d] (fun r => r = vb (decide (0 < d) && decide (Int.tmod 100 d = 0))) := by
  refine pure_of (G := G.toPg) (fn := Tryz.f102) Tryz.func102 rfl rfl rfl ?_; intro Γ hk
  repeat' (first | refine gg ?_ | exact trivial | with_reducible refine wA ?_ ?_ | refine Y2.mk ?_ ?_ | exact fun h => ⟨h, by simp at h; omega⟩ | refine gh ?_ | exact qq | fail)
  refine kretv rfl ⟨trivial, trivial⟩ rfl (eqB ?_)
  rw [bqd]
  cases decide (0 < d) <;> rfl
theorem isZero_c (e : Ex) : PureC G.P 95 [vX e] (fun r => r = vb (zeroX e)) := by
  refine pure_of (G := G.toPg) (fn := Tryz.f95) Tryz.func95 rfl rfl rfl ?_; intro Γ hk
  repeat' (first | refine gg ?_ | exact trivial | with_reducible refine wA ?_ ?_ | refine Y2.mk ?_ ?_ | refine gh ?_ | exact qq | fail)
  all_goals first
    | (refine kretv rfl ⟨trivial, trivial⟩ rfl (eqB ?_); simp [zeroX, bqd, Bool.and_assoc])
    | trace_state
theorem validExpr0_c (e : Ex) (hb : Bd e) : PureC G.P 99 [vX e] (fun r => r = vb (validS 32 e)) := by
  have c1 := validExpr_c 32 e (by omega) hb
  refine pure_of (G := G.toPg) (fn := Tryz.f99) Tryz.func99 rfl rfl rfl ?_; intro Γ hk
  repeat' (first | refine gg ?_ | exact trivial | with_reducible refine wA ?_ ?_ | refine Y2.mk ?_ ?_ | refine zz c1 ?_ | refine gh ?_ | exact qq | fail)
  exact kretv rfl ⟨trivial, trivial⟩ rfl rfl
theorem validEntries_c (n : Nat) (f : Nat → En) (hn : n ≤ 1000000) (hb : ∀ i, i < n → -9223372036854775808 ≤ (f i).2.1 ∧ (f i).2.1 ≤ 9223372036854775807) : PureC G.P 98 [.vsl n 3 (tF cN3 f)] (fun r => r = vb (entsS n f)) := by
  refine pure_of (G := G.toPg) (fn := Tryz.f98) Tryz.func98 rfl rfl rfl ?_; intro Γ hk
  repeat' (first | refine gg ?_ | exact trivial | with_reducible refine wA ?_ ?_ | refine Y2.mk ?_ ?_ | refine gh ?_ | exact qq | fail)
  refine pcond (b := !decide (1 ≤ n ∧ n ≤ 64)) ?_ ?_ ?_
  · refine eqB ?_
    rw [Bool.eq_iff_iff]; simp; omega
  · intro h
    repeat' (first | refine gg ?_ | exact trivial | with_reducible refine wA ?_ ?_ | refine Y2.mk ?_ ?_ | refine gh ?_ | exact qq | fail)
    refine kretv rfl ⟨trivial, trivial⟩ rfl (eqB ?_)
    unfold entsS
    have : decide (1 ≤ n ∧ n ≤ 64) = false := nb_t h
    rw [this]; rfl
  · intro h
    have h1 : decide (1 ≤ n ∧ n ≤ 64) = true := nb_f h
    repeat' (first | refine gg ?_ | exact trivial | with_reducible refine wA ?_ ?_ | refine Y2.mk ?_ ?_ | refine gh ?_ | exact qq | fail)
    refine pcan (st' := ⟨[(3, vi (if (0 : Nat) = 0 then -1 else (f (0 - 1)).1)), (14, .vsl n 3 (tF cN3 f)), (15, vi n), (16, vi ((0 : Nat) : Int))], []⟩) (can_rowsv [] (k0_sel hk rfl) rfl .nil tmq) ?_
    refine ploop (fun q st => ∃ i : Nat, i ≤ n ∧ (∀ j, j < i → (decide ((if j = 0 then -1 else (f (j - 1)).1) < (f j).1 ∧ (f j).1 ≤ 1000000) && decS (f j).2.1 (f j).2.2) = true) ∧ q = n - i ∧ st = ⟨[(3, vi (if i = 0 then -1 else (f (i - 1)).1)), (14, .vsl n 3 (tF cN3 f)), (15, vi n), (16, vi i)], []⟩) n ⟨0, by omega, fun j hj => by omega, by omega, rfl⟩ ?_
    rintro _ _ ⟨i, hi, hv, rfl, rfl⟩
    generalize hbe : (if i = 0 then -1 else (f (i - 1)).1) = be
    repeat' (first | refine gg ?_ | exact trivial | with_reducible refine wA ?_ ?_ | refine Y2.mk ?_ ?_ | refine gh ?_ | exact qq | fail)
    refine pcond rfl ?_ ?_ <;> intro hc <;> simp at hc
    · have c1 := isNumber_c (f i).2.1 (f i).2.2 (hb i hc).1 (hb i hc).2
      repeat' (first | refine gg ?_ | exact trivial | with_reducible refine wA ?_ ?_ | refine Y2.mk ?_ ?_ | refine zz c1 ?_ | refine gh ?_ | exact qq | fail)
      refine pcond (b := !(decide (be < (f i).1 ∧ (f i).1 ≤ 1000000) && decS (f i).2.1 (f i).2.2)) ?_ ?_ ?_
      · refine eqB ?_
        show (bif (bif decide ((f i).1 ≤ be) then true else decide (1000000 < (f i).1)) then true else !decS (f i).2.1 (f i).2.2) = _
        by_cases h1 : be < (f i).1 <;> by_cases h2 : (f i).1 ≤ 1000000 <;> cases decS (f i).2.1 (f i).2.2 <;> simp [h1, h2] <;> omega
      · intro h2
        repeat' (first | refine gg ?_ | exact trivial | with_reducible refine wA ?_ ?_ | refine Y2.mk ?_ ?_ | refine gh ?_ | exact qq | fail)
        refine kretv rfl ⟨trivial, trivial⟩ rfl (eqB ?_)
        have : (decide ((if i = 0 then -1 else (f (i - 1)).1) < (f i).1 ∧ (f i).1 ≤ 1000000) && decS (f i).2.1 (f i).2.2) = false := by rw [hbe]; exact nb_t h2
        unfold entsS
        rw [allK_no hc this]; simp
      · intro h2
        have hg : (decide (be < (f i).1 ∧ (f i).1 ≤ 1000000) && decS (f i).2.1 (f i).2.2) = true := nb_f h2
        repeat' (first | refine gg ?_ | exact trivial | with_reducible refine wA ?_ ?_ | refine Y2.mk ?_ ?_ | refine gh ?_ | exact qq | fail)
        rw [show IntKind.i64.wrap ((i : Int) + 1) = ((i + 1 : Nat) : Int) from w64 (by omega) (by omega)]
        exact kloop_next (st' := ⟨[(3, vi (if i + 1 = 0 then -1 else (f (i + 1 - 1)).1)), (14, .vsl n 3 (tF cN3 f)), (15, vi n), (16, vi ((i + 1 : Nat) : Int))], []⟩) (n - (i + 1)) (can_rowsv [] (k0_sel hk rfl) rfl .nil tmq) (by omega) ⟨i + 1, by omega, fun j hj => by
          by_cases e : j = i
          · subst e; rw [hbe]; exact hg
          · exact hv j (by omega), rfl, rfl⟩
    · repeat' (first | refine gg ?_ | exact trivial | with_reducible refine wA ?_ ?_ | refine Y2.mk ?_ ?_ | refine gh ?_ | exact qq | fail)
      refine kretv rfl ⟨trivial, trivial⟩ rfl (eqB ?_)
      unfold entsS
      rw [h1, allK_iff.2 fun j hj => hv j (by omega)]; rfl
theorem tz_eq (t : Ty) : tz t = (!t.b && (decide (t.m = 0) && (decide (t.h = 0) && decide (t.d = 0)))) := by
  obtain ⟨b, m, h, d⟩ := t
  unfold tz
  rw [Bool.eq_iff_iff]; simp
theorem stepS_eq (n d : Int) : stepS n d = (decS n d && (decide (0 < n) && (decide (0 < d) && decide (Int.tmod 100 d = 0)))) := by
  unfold stepS
  cases h : decS n d
  · rfl
  · have : okR n d = true := by unfold decS at h; cases ho : okR n d; rw [ho] at h; cases h; rfl
    have := okR_bd this
    rw [decide_eq_true (show 0 < d by omega)]; rfl
set_option maxHeartbeats 4000000 in
theorem validDef_c (d : Df) (hb : BdD d) : PureC G.P 80 [.agg 21 (nthP (cD d))] (fun r => r = vb (defS d)) := by
  have c1 := validType_c d.ty
  have c2 := isDay_c d.day
  have c3 := isCents_c d.sn d.sd
  have c4 := isZero_c d.body
  have c5 := validExpr0_c d.body hb.body
  have c6 := validEntries_c d.ne d.ef hb.ne hb.ef
  have c7 := isMode18_c d.mode
  have c8 := isStep_c d.sn d.sd hb.st.1 hb.st.2
  refine pure_of (G := G.toPg) (fn := Tryz.f80) Tryz.func80 rfl rfl rfl ?_; intro Γ hk
  by_cases hr : d.kind = 1 ∨ d.kind = 5 ∨ d.kind = 2 ∨ d.kind = 3 ∨ d.kind = 4
  · rcases hr with h | h | h | h | h
    all_goals
      repeat' (first | refine gg ?_ | exact trivial | with_reducible refine wA ?_ ?_ | refine Y2.mk ?_ ?_ | refine xs_start (id := 2) true [.take 0, .take 1, .take 2, .take 3, .take 4, .take 5, .take 6, .take 7, .take 8, .take 10, .take 11, .take 12, .one 9, .take 13, .take 14, .take 15, .take 16] 0 rfl rfl (by kernel_rfl) ?_ | refine xs_start (id := 12) true [.take 0, .take 1, .take 3, .take 4, .one 2, .one 5, .take 6, .take 7] 0 rfl rfl (by kernel_rfl) ?_ | refine xs_start (id := 15) true [.take 0, .take 1, .take 3, .take 4, .one 2, .one 5, .take 6, .take 7] 0 rfl rfl (by kernel_rfl) ?_ | refine xs_start (id := 17) true [.take 0, .take 1, .take 3, .take 4, .one 2, .one 5, .take 6, .take 7] 0 rfl rfl (by kernel_rfl) ?_ | refine xs_start (id := 18) true [.take 0, .take 1, .take 3, .take 4, .one 2, .one 5, .take 6, .take 7, .take 8, .one 9, .take 10, .take 11, .take 12] 0 rfl rfl (by kernel_rfl) ?_ | (refine pcond_y rfl (by rw [h]; rfl) ?_) | (refine pcond_n rfl (by rw [h]; rfl) ?_) | refine zz c1 ?_ | refine zz c2 ?_ | refine zz c3 ?_ | refine zz c4 ?_ | refine zz c5 ?_ | refine zz c6 ?_ | refine zz c7 ?_ | refine zz c8 ?_ | refine gh ?_ | exact qq | fail)
      refine kretv rfl ⟨trivial, trivial⟩ rfl (eqB ?_)
      first
        | (simp [defS, h, bqd, Bool.and_assoc]; done)
        | (rw [show defS d = (tz d.ty && (dayS d.day && (decide (d.ne = 0) && (validS 32 d.body && (modeB d.mode && stepS d.sn d.sd))))) from by simp [defS, h], tz_eq d.ty, stepS_eq]; simp [bqd, Bool.and_assoc])
  · repeat' (first | refine gg ?_ | exact trivial | with_reducible refine wA ?_ ?_ | refine Y2.mk ?_ ?_ | refine xs_start (id := 2) true [.take 0, .take 1, .take 2, .take 3, .take 4, .take 5, .take 6, .take 7, .take 8, .take 10, .take 11, .take 12, .one 9, .take 13, .take 14, .take 15, .take 16] 0 rfl rfl (by kernel_rfl) ?_ | refine xs_start (id := 12) true [.take 0, .take 1, .take 3, .take 4, .one 2, .one 5, .take 6, .take 7] 0 rfl rfl (by kernel_rfl) ?_ | refine xs_start (id := 15) true [.take 0, .take 1, .take 3, .take 4, .one 2, .one 5, .take 6, .take 7] 0 rfl rfl (by kernel_rfl) ?_ | refine xs_start (id := 17) true [.take 0, .take 1, .take 3, .take 4, .one 2, .one 5, .take 6, .take 7] 0 rfl rfl (by kernel_rfl) ?_ | refine xs_start (id := 18) true [.take 0, .take 1, .take 3, .take 4, .one 2, .one 5, .take 6, .take 7, .take 8, .one 9, .take 10, .take 11, .take 12] 0 rfl rfl (by kernel_rfl) ?_ | (refine pcond_n rfl (by simp; omega) ?_) | refine zz c4 ?_ | refine gh ?_ | exact qq | fail)
    refine kretv rfl ⟨trivial, trivial⟩ rfl (eqB ?_)
    have e1 : ¬ d.kind = 1 := by omega
    have e2 : ¬ d.kind = 2 := by omega
    have e3 : ¬ d.kind = 3 := by omega
    have e4 : ¬ d.kind = 4 := by omega
    have e5 : ¬ d.kind = 5 := by omega
    simp [defS, e1, e2, e3, e4, e5]
theorem validAgr_c (nm : ByteArray) (l : List Df) (hs : nm.size ≤ 9223372036854775807) (hb : ∀ d, d ∈ l → BdD d) : PureC G.P 65 [vA nm l] (fun r => r = vb (agrS nm l)) := by
  have c1 := isName_c nm hs
  have at_ : ∀ i, i < l.length → lF dD l i ∈ l := fun i hi => by
    unfold lF; rw [List.getD_eq_getElem?_getD, List.getElem?_eq_getElem hi]; exact List.getElem_mem _
  refine pure_of (G := G.toPg) (fn := Tryz.f65) Tryz.func65 rfl rfl rfl ?_; intro Γ hk
  repeat' (first | refine gg ?_ | exact trivial | with_reducible refine wA ?_ ?_ | refine Y2.mk ?_ ?_ | refine zz c1 ?_ | refine gh ?_ | exact qq | fail)
  refine pcond (b := !(nameS nm && decide (l.length ≤ 128))) ?_ ?_ ?_
  · refine eqB ?_
    show (bif !nameS nm then true else decide ((128 : Int) < (l.length : Int))) = _
    cases nameS nm
    · rfl
    · rw [Bool.eq_iff_iff]; simp; omega
  · intro h
    repeat' (first | refine gg ?_ | exact trivial | with_reducible refine wA ?_ ?_ | refine Y2.mk ?_ ?_ | refine gh ?_ | exact qq | fail)
    refine kretv rfl ⟨trivial, trivial⟩ rfl (eqB ?_)
    have := nb_t h
    unfold agrS
    revert this
    cases nameS nm <;> cases decide (l.length ≤ 128) <;> simp
  · intro h
    have h2 := nb_f h
    have h3 : nameS nm = true ∧ l.length ≤ 128 := by simpa using h2
    repeat' (first | refine gg ?_ | exact trivial | with_reducible refine wA ?_ ?_ | refine Y2.mk ?_ ?_ | refine gh ?_ | exact qq | fail)
    refine pcan (st' := ⟨[(16, vDs l), (17, vi l.length), (18, vi ((0 : Nat) : Int))], []⟩) (can_rowsv [] (k0_sel hk rfl) rfl .nil tmq) ?_
    refine ploop (fun q st => ∃ i : Nat, i ≤ l.length ∧ (∀ j, j < i → (nameS (lF dD l j).nm && defS (lF dD l j)) = true) ∧ q = l.length - i ∧ st = ⟨[(16, vDs l), (17, vi l.length), (18, vi i)], []⟩) l.length ⟨0, by omega, fun j hj => by omega, by omega, rfl⟩ ?_
    rintro _ _ ⟨i, hi, hv, rfl, rfl⟩
    repeat' (first | refine gg ?_ | exact trivial | with_reducible refine wA ?_ ?_ | refine Y2.mk ?_ ?_ | refine gh ?_ | exact qq | fail)
    refine pcond rfl ?_ ?_ <;> intro hc <;> simp at hc
    · have hbd := hb _ (at_ i hc)
      have c2 := isName_c (lF dD l i).nm hbd.nm
      have c3 := validDef_c (lF dD l i) hbd
      repeat' (first | refine gg ?_ | exact trivial | with_reducible refine wA ?_ ?_ | refine Y2.mk ?_ ?_ | refine zz c2 ?_ | refine zz c3 ?_ | refine gh ?_ | exact qq | fail)
      refine pcond (b := !(nameS (lF dD l i).nm && defS (lF dD l i))) ?_ ?_ ?_
      · refine eqB ?_
        show (bif !nameS (lF dD l i).nm then true else !defS (lF dD l i)) = _
        cases nameS (lF dD l i).nm <;> rfl
      · intro h4
        have h5 := nb_t h4
        repeat' (first | refine gg ?_ | exact trivial | with_reducible refine wA ?_ ?_ | refine Y2.mk ?_ ?_ | refine gh ?_ | exact qq | fail)
        refine kretv rfl ⟨trivial, trivial⟩ rfl (eqB ?_)
        unfold agrS
        have : l.all (fun d => nameS d.nm && defS d) = false := by
          rw [List.all_eq_false]
          exact ⟨_, at_ i hc, by rw [h5]; simp⟩
        rw [this]; simp
      · intro h4
        have h5 := nb_f h4
        repeat' (first | refine gg ?_ | exact trivial | with_reducible refine wA ?_ ?_ | refine Y2.mk ?_ ?_ | refine gh ?_ | exact qq | fail)
        rw [show IntKind.i64.wrap ((i : Int) + 1) = ((i + 1 : Nat) : Int) from w64 (by omega) (by omega)]
        exact kloop_next (st' := ⟨[(16, vDs l), (17, vi l.length), (18, vi ((i + 1 : Nat) : Int))], []⟩) (l.length - (i + 1)) (can_rowsv [] (k0_sel hk rfl) rfl .nil tmq) (by omega) ⟨i + 1, by omega, fun j hj => by
          by_cases e : j = i
          · subst e; exact h5
          · exact hv j (by omega), rfl, rfl⟩
    · repeat' (first | refine gg ?_ | exact trivial | with_reducible refine wA ?_ ?_ | refine Y2.mk ?_ ?_ | refine gh ?_ | exact qq | fail)
      refine kretv rfl ⟨trivial, trivial⟩ rfl (eqB ?_)
      unfold agrS
      have : l.all (fun d => nameS d.nm && defS d) = true := by
        rw [List.all_eq_true]
        intro d hd
        obtain ⟨j, hj, e⟩ := List.getElem_of_mem hd
        have := hv j (by omega)
        unfold lF at this
        rw [List.getD_eq_getElem?_getD, List.getElem?_eq_getElem hj, e] at this
        exact this
      rw [h3.1, decide_eq_true h3.2, this]; rfl
end Go.Proofs.YtcefhgomkehokaaGreat
namespace Go.Proofs.YtcefhgomkehokaaGreat
open Go.MapKept
def mget {K : Type} [DecidableEq K] : List (K × Int) → K → Option Int
  | [], _ => none
  | e :: l, k => if e.1 = k then some e.2 else mget l k
def mset {K : Type} [DecidableEq K] : List (K × Int) → K → Int → List (K × Int)
  | [], k, v => [(k, v)]
  | e :: l, k, v => if e.1 = k then (k, v) :: l else e :: mset l k v
section
variable {K : Type} [DecidableEq K]
theorem mget_none {k : K} : ∀ {l : List (K × Int)}, (∀ e ∈ l, e.1 ≠ k) → mget l k = none
  | [], _ => rfl
  | e :: l, h => by rw [mget, if_neg (h e (by simp))]; exact mget_none fun x hx => h x (by simp [hx])
theorem mset_none {k : K} {v : Int} : ∀ {l : List (K × Int)}, (∀ e ∈ l, e.1 ≠ k) → mset l k v = l ++ [(k, v)]
  | [], _ => rfl
  | e :: l, h => by rw [mset, if_neg (h e (by simp)), mset_none fun x hx => h x (by simp [hx])]; rfl
theorem mget_at {k : K} {v : Int} : ∀ {l : List (K × Int)} {j : Nat}, (l.map (·.1)).Nodup → l[j]? = some (k, v) → mget l k = some v
  | [], _, _, h => by simp at h
  | e :: l, 0, _, h => by simp at h; subst h; simp [mget]
  | e :: l, j + 1, hn, h => by
    have h' : l[j]? = some (k, v) := by simpa using h
    simp only [List.map_cons, List.nodup_cons] at hn
    have : e.1 ≠ k := fun he => hn.1 (by rw [he]; exact List.mem_map.2 ⟨(k, v), List.mem_of_getElem? h', rfl⟩)
    rw [mget, if_neg this, mget_at hn.2 h']
theorem mset_at {k : K} {v v0 : Int} : ∀ {l : List (K × Int)} {j : Nat}, (l.map (·.1)).Nodup → l[j]? = some (k, v0) → mset l k v = l.set j (k, v)
  | [], _, _, h => by simp at h
  | e :: l, 0, _, h => by simp at h; subst h; simp [mset]
  | e :: l, j + 1, hn, h => by
    have h' : l[j]? = some (k, v0) := by simpa using h
    simp only [List.map_cons, List.nodup_cons] at hn
    have : e.1 ≠ k := fun he => hn.1 (by rw [he]; exact List.mem_map.2 ⟨(k, v0), List.mem_of_getElem? h', rfl⟩)
    rw [mset, if_neg this, mset_at hn.2 h']; rfl
end
def kI (x : Int) : Value := .int .i64 x
theorem kI_inj (a b : Int) (h : kI a = kI b) : a = b := by unfold kI at h; injection h
section
variable {N : Nat} {Γ : Fr} {st : PSt} {ρ : Nat → Loc} {I : Nat → Prop} {a : Act} {w : World}
theorem Rel.newMap (h : Rel N Γ st ρ I a w) (row : Row) (hs : row.s = .mp) (o : Obj) (ho : ∀ cs T fz, o ≠ Obj.cells cs T fz)
    (hc : ∀ (k' : Nat) (ρ' : Nat → Loc) (w' : World), (∀ b, b < w.heap.size → w'.heap[b]? = w.heap[b]?) → w'.heap[w.heap.size]? = some o → st.mem.length < k' → (∀ l, l < st.mem.length → ρ' l = ρ l) → ρ' st.mem.length = ⟨w.heap.size, 0, 0⟩ → SideAt k' ρ' I w' w.heap.size row) :
    Rel N Γ ⟨st.tm, st.mem ++ [row]⟩ (addLoc ρ st.mem.length ⟨w.heap.size, 0, 0⟩) I a (w.alloc o) := by
  have hx : Ext w (w.alloc o) := Go.RowKit.Below.alloc (Go.RowKit.Below.refl _ _) (Nat.le_refl _) _
  have ht : Tr I w (w.alloc o) := hx.tr h.fr.m.lt
  have hρ : ∀ l, l < st.mem.length → addLoc ρ st.mem.length ⟨w.heap.size, 0, 0⟩ l = ρ l := fun l hl => if_neg (by omega)
  have hρn : addLoc ρ st.mem.length ⟨w.heap.size, 0, 0⟩ st.mem.length = ⟨w.heap.size, 0, 0⟩ := if_pos rfl
  have hsz : (w.alloc o).heap.size = w.heap.size + 1 := by simp
  have hnl : ¬ row.s.live := by rw [hs]; exact fun h => h
  have hno : ¬ row.s.isOwn := by rw [hs]; exact fun h => h
  have up : ∀ {p : PV} {v : Value}, VRel st.mem.length ρ I w p v → VRel (st.mem ++ [row]).length (addLoc ρ st.mem.length ⟨w.heap.size, 0, 0⟩) I (w.alloc o) p v := fun hv =>
    hv.up (by simp) hρ (fun _ h => h) ht
  have get : ∀ (l : Nat) (r : Row), (st.mem ++ [row])[l]? = some r → (l < st.mem.length ∧ st.mem[l]? = some r) ∨ (l = st.mem.length ∧ r = row) := fun l r hl => by
    by_cases hlt : l < st.mem.length
    · rw [List.getElem?_append_left hlt] at hl; exact .inl ⟨hlt, hl⟩
    · rw [List.getElem?_append_right (by omega)] at hl
      by_cases he : l = st.mem.length
      · subst he; simp at hl; exact .inr ⟨rfl, hl.symm⟩
      · rw [List.getElem?_eq_none (by simp; omega)] at hl; cases hl
  have getL : ∀ (l : Nat) (r : Row), (st.mem ++ [row])[l]? = some r → r.s.live → l < st.mem.length ∧ st.mem[l]? = some r := fun l r hl hlv => by
    rcases get l r hl with h | ⟨_, rfl⟩
    · exact h
    · exact absurd hlv hnl
  refine ⟨⟨⟨fun l r hl hlive => ?_, fun l l' r r' hne hl hl' hs1 hs2 => ?_, fun l r hl ho hb => ?_, fun l r hl hi => ?_, fun b hb => ?_, fun l r hl hm => ?_, fun l l' r r' hne hl hl' hs1 hs2 => ?_⟩, h.fr.os, h.fr.tape, h.fr.output, by rw [hsz]; exact Nat.le_succ_of_le h.fr.size, fun b hb he => ?_, fun b c2 T2 fz hb => ?_, h.fr.old, h.fr.new, fun l r hl ho hlt => ?_, fun l r hl ho hk => ?_, by simp; exact Nat.le_succ_of_le h.fr.k0, fun l hl => ?_, fun l r hl hm hk => ?_, h.fr.gl.mono (fun _ h => h) ht⟩, h.defers, h.size, fun t => up (h.slot t)⟩
  · obtain ⟨hlt, hl⟩ := getL l r hl hlive
    rw [hρ l hlt]
    obtain ⟨h1, cs', T', h2, h3⟩ := h.fr.m.row l r hl hlive
    refine ⟨h1, cs', T', by rw [hx.block _ (h.lt hl hlive)]; exact h2, fun i hi j hj => ?_⟩
    obtain ⟨u, g1, g2, g3⟩ := h3 i hi j hj
    exact ⟨u, g1, g2, up g3⟩
  · obtain ⟨hlt, hA⟩ := getL l r hl hs1
    obtain ⟨hlt', hB⟩ := getL l' r' hl' hs2
    rw [hρ l hlt, hρ l' hlt']; exact h.fr.m.apart l l' r r' hne hA hB hs1 hs2
  · obtain ⟨hlt, hA⟩ := getL l r hl (RS.live_of_own ho)
    rw [hρ l hlt] at hb; exact h.fr.m.mine l r hA ho hb
  · obtain ⟨hlt, hA⟩ := getL l r hl (by rw [hi]; trivial)
    rw [hρ l hlt]; exact h.fr.m.imm l r hA hi
  · rw [hsz]; exact Nat.lt_succ_of_lt (h.fr.m.lt b hb)
  · rcases get l r hl with ⟨hlt, hl⟩ | ⟨rfl, rfl⟩
    · rw [hρ l hlt]
      obtain ⟨g1, g2⟩ := h.fr.m.side l r hl hm
      exact ⟨g1, g2.up (Nat.le_refl _) rfl (.of fun b hb _ => hx.block b hb) fun i hi j hj v hv => up hv⟩
    · rw [hρn]
      refine ⟨fun hb => absurd (h.fr.m.lt _ hb) (by simp), hc _ _ _ (fun b hb => hx.block b hb) ?_ (by simp) hρ hρn⟩
      show (w.heap.push _)[w.heap.size]? = _
      simp
  · rcases get l r hl with ⟨hlt, hA⟩ | ⟨e1, e2⟩ <;> rcases get l' r' hl' with ⟨hlt', hB⟩ | ⟨e3, e4⟩
    · rw [hρ l hlt, hρ l' hlt']; exact h.fr.m.sap l l' r r' hne hA hB hs1 hs2
    · rw [hρ l hlt, e3, hρn]; have := (h.fr.m.side l r hA hs1).2.lt; simp; omega
    · rw [hρ l' hlt', e1, hρn]; have := (h.fr.m.side l' r' hB hs2).2.lt; simp; omega
    · exact absurd (e1.trans e3.symm) hne
  · rw [hx.block b (Nat.lt_of_lt_of_le hb h.fr.size)]; exact h.fr.block b hb he
  · obtain ⟨cs', h1, h2⟩ := h.fr.shape b c2 T2 fz hb
    obtain ⟨cs2, h3, h4⟩ := ht.shape b cs' T2 fz h1
    exact ⟨cs2, h3, h4.trans h2⟩
  · obtain ⟨hlt', hA⟩ := getL l r hl (RS.live_of_own ho)
    rw [hρ l hlt'] at hlt ⊢; exact h.fr.own l r hA ho hlt
  · obtain ⟨hlt', hA⟩ := getL l r hl (RS.live_of_own ho)
    rw [hρ l hlt']; exact h.fr.fresh l r hA ho hk
  · rw [hρ l (Nat.lt_of_lt_of_le hl h.fr.k0)]; exact h.fr.ρ0 l hl
  · rcases get l r hl with ⟨hlt, hl⟩ | ⟨rfl, rfl⟩
    · rw [hρ l hlt]; exact h.fr.sfresh l r hl hm hk
    · rw [hρn]; exact h.fr.size
def noIt : List Row → Bool
  | [] => true
  | r :: m => (match r.s with | .mp => Nat.beq r.sz 1 | _ => true) && noIt m
theorem noIt_get : ∀ (m : List Row), noIt m = true → ∀ (l : Nat) (r : Row), m[l]? = some r → r.s = .mp → r.sz = 1
  | [], _, _, _, h, _ => by simp at h
  | r0 :: m, hn, 0, r, h, hm => by
    simp only [List.getElem?_cons_zero, Option.some.injEq] at h
    subst h
    rw [noIt, Bool.and_eq_true, hm] at hn
    exact Nat.eq_of_beq_eq_true hn.1
  | r0 :: m, hn, l + 1, r, h, hm => by
    rw [noIt, Bool.and_eq_true] at hn
    exact noIt_get m hn.2 l r (by simpa using h) hm
theorem Rel.setMapV (h : Rel N Γ st ρ I a w) {l : Nat} {r : Row} (hl : st.mem[l]? = some r) (ho : r.s = .mp) (hk0 : Γ.k0 ≤ l) (hni : noIt st.mem = true) {es' : Array MapEntry} {clock' : Nat} (row : Row) (hs : row.s = .mp) (hsz : row.sz = 1) (hst : Stamped es' clock') (hv : ∀ w', Tr I w w' → VRel (st.mem.set l row).length ρ I w' (row.f 0 0) (mapV es')) :
    Rel N Γ ⟨st.tm, st.mem.set l row⟩ ρ I a { w with heap := w.heap.setIfInBounds (ρ l).b (.map es' clock') } := by
  obtain ⟨hnI, hside⟩ := h.fr.m.side l r hl ho
  have hlt := hside.lt
  obtain ⟨o, ho1, ho2⟩ := hside.nc
  have hlen : l < st.mem.length := lt_get hl
  have hself : ({ w with heap := w.heap.setIfInBounds (ρ l).b (.map es' clock') } : World).heap[(ρ l).b]? = some (.map es' clock') := by simp [hlt]
  have hother : ∀ b, b ≠ (ρ l).b → ({ w with heap := w.heap.setIfInBounds (ρ l).b (.map es' clock') } : World).heap[b]? = w.heap[b]? := fun b hb => by simp [Array.getElem?_setIfInBounds, Ne.symm hb]
  have hne : ∀ (b : Nat) cs T fz, w.heap[b]? = some (Obj.cells cs T fz) → b ≠ (ρ l).b := fun b cs T fz hb e => by subst e; rw [ho1] at hb; exact ho2 _ _ _ (Option.some.inj hb)
  generalize hw' : ({ w with heap := w.heap.setIfInBounds (ρ l).b (.map es' clock') } : World) = w' at hself hother ⊢
  have hos : w'.os = w.os := by rw [← hw']
  have htape : w'.tape = w.tape := by rw [← hw']
  have hout : w'.output = w.output := by rw [← hw']
  have hhs : w'.heap.size = w.heap.size := by rw [← hw']; simp
  have ht : Tr I w w' := ⟨fun b hb => hother b (fun e => hnI (e ▸ hb)), fun b cs T fz hb => ⟨cs, by rw [hother b (hne b cs T fz hb)]; exact hb, rfl⟩⟩
  have up : ∀ {p : PV} {v : Value}, VRel st.mem.length ρ I w p v → VRel (st.mem.set l row).length ρ I w' p v := fun hv => hv.up (by simp) (fun _ _ => rfl) (fun _ h => h) ht
  have get : ∀ (l' : Nat) (r' : Row), (st.mem.set l row)[l']? = some r' → (l' ≠ l ∧ st.mem[l']? = some r') ∨ (l' = l ∧ r' = row) := fun l' r' hl' => by
    by_cases he : l' = l
    · subst he; rw [List.getElem?_set_self hlen] at hl'; exact .inr ⟨rfl, by simpa using hl'.symm⟩
    · rw [List.getElem?_set_ne (Ne.symm he)] at hl'; exact .inl ⟨he, hl'⟩
  have getL : ∀ (l' : Nat) (r' : Row), (st.mem.set l row)[l']? = some r' → r'.s.live → st.mem[l']? = some r' := fun l' r' hl' hlv => by
    rcases get l' r' hl' with ⟨_, h⟩ | ⟨_, rfl⟩
    · exact h
    · rw [hs] at hlv; exact hlv.elim
  refine ⟨⟨⟨fun l' r' hl' hlive => ?_, fun l1 l2 r1 r2 hne h1 h2 hs1 hs2 => ?_, fun l' r' hl' ho' hb2 => ?_, fun l' r' hl' hi => ?_, fun b hb2 => ?_, fun l' r' hl' hm => ?_, fun l1 l2 r1 r2 hne h1 h2 hs1 hs2 => ?_⟩, hos.trans h.fr.os, htape.trans h.fr.tape, hout.trans h.fr.output, by rw [hhs]; exact h.fr.size, fun b hb2 he => ?_, fun b c2 T2 fz hb2 => ?_, h.fr.old, h.fr.new, fun l' r' hl' ho' hlt => ?_, fun l' r' hl' ho' hk => ?_, by simpa using h.fr.k0, h.fr.ρ0, fun l' r' hl' hm hk => ?_, h.fr.gl.mono (fun _ h => h) ht⟩, h.defers, h.size, fun t => up (h.slot t)⟩
  · obtain ⟨h1, c2, T2, h2, h3⟩ := h.fr.m.row l' r' (getL l' r' hl' hlive) hlive
    refine ⟨h1, c2, T2, by rw [hother _ (hne _ _ _ _ h2)]; exact h2, fun i hi j hj => ?_⟩
    obtain ⟨u, g1, g2, g3⟩ := h3 i hi j hj
    exact ⟨u, g1, g2, up g3⟩
  · exact h.fr.m.apart l1 l2 r1 r2 hne (getL _ _ h1 hs1) (getL _ _ h2 hs2) hs1 hs2
  · exact h.fr.m.mine l' r' (getL _ _ hl' (RS.live_of_own ho')) ho' hb2
  · exact h.fr.m.imm l' r' (getL _ _ hl' (by rw [hi]; trivial)) hi
  · rw [hhs]; exact h.fr.m.lt b hb2
  · rcases get l' r' hl' with ⟨n1, h1⟩ | ⟨rfl, rfl⟩
    · obtain ⟨g1, g2, g3⟩ := h.fr.m.side l' r' h1 hm
      have hap := h.fr.m.sap l' l r' r n1 h1 hl hm ho
      have hz := noIt_get _ hni l' r' h1 hm
      refine ⟨g1, by rw [hother _ hap]; exact g2, fun h0 => ⟨fun hz1 => ?_, fun hz2 => by omega⟩⟩
      obtain ⟨es, clock, q1, q2, q3⟩ := (g3 h0).1 hz
      exact ⟨es, clock, by rw [hother _ hap]; exact q1, q2, up q3⟩
    · exact ⟨hnI, ⟨_, hself, fun _ _ _ e => by cases e⟩, fun h0 => ⟨fun _ => ⟨es', clock', hself, hst, hv _ ht⟩, fun hz2 => by omega⟩⟩
  · rcases get l1 r1 h1 with ⟨n1, hA⟩ | ⟨e1, e2⟩ <;> rcases get l2 r2 h2 with ⟨n2, hB⟩ | ⟨e3, e4⟩
    · exact h.fr.m.sap l1 l2 r1 r2 hne hA hB hs1 hs2
    · rw [e3]; exact h.fr.m.sap l1 l r1 r n1 hA hl hs1 ho
    · rw [e1]; exact h.fr.m.sap l l2 r r2 (Ne.symm n2) hl hB ho hs2
    · exact absurd (e1.trans e3.symm) hne
  · by_cases e : b = (ρ l).b
    · exact absurd hb2 (by rw [e]; exact Nat.not_lt.2 (h.fr.sfresh l r hl ho hk0))
    · rw [hother b e]; exact h.fr.block b hb2 he
  · obtain ⟨cs1, h1, h2⟩ := h.fr.shape b c2 T2 fz hb2
    obtain ⟨cs2, h3, h4⟩ := ht.shape b cs1 T2 fz h1
    exact ⟨cs2, h3, h4.trans h2⟩
  · exact h.fr.own l' r' (getL _ _ hl' (RS.live_of_own ho')) ho' hlt
  · exact h.fr.fresh l' r' (getL _ _ hl' (RS.live_of_own ho')) ho' hk
  · rcases get l' r' hl' with ⟨n1, h1⟩ | ⟨rfl, rfl⟩
    · exact h.fr.sfresh l' r' h1 hm hk
    · exact h.fr.sfresh l' r hl ho hk
theorem Rel.setMap (h : Rel N Γ st ρ I a w) {l : Nat} {r : Row} (hl : st.mem[l]? = some r) (ho : r.s = .mp) (hk0 : Γ.k0 ≤ l) (hni : noIt st.mem = true) {es' : Array MapEntry} {clock' : Nat} (row : Row) (hs : row.s = .mp) (hsz : row.sz = 1) (hst : Stamped es' clock') (hv : ∀ (k' : Nat) (ρ' : Nat → Loc) (w' : World), VRel k' ρ' I w' (row.f 0 0) (mapV es')) :
    Rel N Γ ⟨st.tm, st.mem.set l row⟩ ρ I a { w with heap := w.heap.setIfInBounds (ρ l).b (.map es' clock') } := h.setMapV hl ho hk0 hni row hs hsz hst fun w' _ => hv _ _ _
end
end Go.Proofs.YtcefhgomkehokaaGreat
namespace Go.Proofs.YtcefhgomkehokaaGreat
open Go.MapKept
structure MapT (P : Program) (t : TypeId) {K : Type} (kv : K → Value) where
  kt : TypeId
  et : TypeId
  d : TypeDesc
  ht : P.underlying t = some (.map kt et)
  hk : P.underlying kt = some d
  key : ∀ a, IsKey d (kv a)
  inj : ∀ a b, kv a = kv b → a = b
  zero : ∀ w, (zeroValue et).run P w = .ok (.int .i64 0) w
def mV {K : Type} (kv : K → Value) (l : List (K × Int)) : Value := .tuple ((l.map fun e => Value.tuple #[kv e.1, .int .i64 e.2]).toArray)
def mRow {K : Type} (kv : K → Value) (l : List (K × Int)) : Row := ⟨.mp, false, 1, 1, fun _ _ => .val (mV kv l)⟩
theorem m_eq {K : Type} {kv : K → Value} {l : List (K × Int)} {τ : Nat → Option Nat} : RowEq ((mRow kv l).ren τ) (mRow kv l) := RowEq.refl _
theorem m_cl {K : Type} (kv : K → Value) (l : List (K × Int)) : rowCl (mRow kv l) := fun _ _ _ _ => trivial
theorem mapV_eq {K : Type} {kv : K → Value} {es : Array MapEntry} {l : List (K × Int)} (h : mapV es = mV kv l) : es.toList.map (fun e => (e.key, e.val)) = l.map (fun e => (kv e.1, Value.int .i64 e.2)) := by
  unfold mapV mV at h
  injection h with h
  have h2 := congrArg Array.toList h
  simp only [Array.toList_map] at h2
  have : ∀ (a : List MapEntry) (b : List (K × Int)), a.map (fun e => Value.tuple #[e.key, e.val]) = b.map (fun e => Value.tuple #[kv e.1, .int .i64 e.2]) → a.map (fun e => (e.key, e.val)) = b.map (fun e => (kv e.1, Value.int .i64 e.2)) := by
    intro a
    induction a with
    | nil => intro b hb; cases b <;> simp_all
    | cons x a ih =>
      intro b hb
      cases b with
      | nil => simp at hb
      | cons y b =>
        simp only [List.map_cons, List.cons.injEq, Value.tuple.injEq, Array.mk.injEq] at hb ⊢
        obtain ⟨h1, h2⟩ := hb
        simp at h1
        exact ⟨by rw [h1.1, h1.2], ih b h2⟩
  exact this _ _ h2
section
variable {P : Program} {t : TypeId} {K : Type} [DecidableEq K] {kv : K → Value} (M : MapT P t kv) {es : Array MapEntry} {clock : Nat} {l : List (K × Int)} {w : World} {b : Nat}
omit [DecidableEq K] in
theorem ent_get (h : es.toList.map (fun e => (e.key, e.val)) = l.map (fun e => (kv e.1, Value.int .i64 e.2))) (j : Nat) : (es.toList[j]?).map (fun e => (e.key, e.val)) = (l[j]?).map (fun e => (kv e.1, Value.int .i64 e.2)) := by
  rw [← List.getElem?_map, h, List.getElem?_map]
omit [DecidableEq K] in
theorem ent_nodup (h : es.toList.map (fun e => (e.key, e.val)) = l.map (fun e => (kv e.1, Value.int .i64 e.2))) (hs : Stamped es clock) : (l.map (·.1)).Nodup := by
  have h1 := hs.2.2
  have h2 : es.toList.map (·.key) = (l.map (·.1)).map kv := by
    have := congrArg (List.map Prod.fst) h
    rw [List.map_map, List.map_map] at this
    rw [List.map_map]
    exact this
  rw [h2] at h1
  exact List.Pairwise.of_map kv (fun a b hne he => hne (by rw [he])) h1
include M
omit [DecidableEq K] in
theorem ent_keys (h : es.toList.map (fun e => (e.key, e.val)) = l.map (fun e => (kv e.1, Value.int .i64 e.2))) : ∀ x ∈ es.toList, IsKey M.d x.key := fun x hx => by
  have : (x.key, x.val) ∈ l.map (fun e => (kv e.1, Value.int .i64 e.2)) := by rw [← h]; exact List.mem_map.2 ⟨x, hx, rfl⟩
  obtain ⟨e, _, he⟩ := List.mem_map.1 this
  have : kv e.1 = x.key := congrArg Prod.fst he
  rw [← this]; exact M.key _
omit [DecidableEq K] in
theorem ent_find (h : es.toList.map (fun e => (e.key, e.val)) = l.map (fun e => (kv e.1, Value.int .i64 e.2))) (hs : Stamped es clock) (k : K) :
    (Instr.findNow M.d (kv k) es.toList 0 = some none ∧ (∀ e ∈ l, e.1 ≠ k) ∧ ∀ x ∈ es.toList, x.key ≠ kv k) ∨ ∃ j e v, Instr.findNow M.d (kv k) es.toList 0 = some (some (j, .int .i64 v)) ∧ es.toList[j]? = some e ∧ e.key = kv k ∧ l[j]? = some (k, v) := by
  rcases findNow_spec (M.key k) es.toList 0 (ent_keys M h) with ⟨h1, h2⟩ | ⟨j, e, h1, h2, h3⟩
  · refine .inl ⟨h1, fun e he hk => ?_, h2⟩
    have : (kv e.1, Value.int .i64 e.2) ∈ es.toList.map (fun e => (e.key, e.val)) := by rw [h]; exact List.mem_map.2 ⟨e, he, rfl⟩
    obtain ⟨x, hx, hxe⟩ := List.mem_map.1 this
    exact h2 x hx ((congrArg Prod.fst hxe).trans (by rw [hk]))
  · have h4 := ent_get h j
    rw [h2] at h4
    cases h5 : l[j]? with
    | none => rw [h5] at h4; cases h4
    | some y =>
      rw [h5] at h4
      simp only [Option.map_some, Option.some.injEq, Prod.mk.injEq] at h4
      refine .inr ⟨j, e, y.2, by rw [h1, h4.2, Nat.zero_add], h2, h3, ?_⟩
      have : y.1 = k := M.inj _ _ (by rw [← h4.1, h3])
      rw [h5, ← this]
theorem run_look (hb : w.heap[b]? = some (.map es clock)) (h : es.toList.map (fun e => (e.key, e.val)) = l.map (fun e => (kv e.1, Value.int .i64 e.2))) (hs : Stamped es clock) (k : K) (ok : Bool) :
    (Instr.lookup t (.map (some b)) (kv k) ok).run P w = .ok (if ok then .tuple #[.int .i64 ((mget l k).getD 0), .bool (mget l k).isSome] else .int .i64 ((mget l k).getD 0)) w := by
  have hc := fun em => run_checkKey (P := P) (w := w) M.hk (M.key k) em 9999
  rcases ent_find M h hs k with ⟨h1, h2, _⟩ | ⟨j, e, v, h1, h2, h3, h4⟩
  · rw [mget_none h2]
    cases ok <;> simp [Instr.lookup, run_underlying M.ht, MapKept.run_getObj_map hb, hc, run_findKey M.hk h1, M.zero, Result.andThen]
  · rw [mget_at (ent_nodup h hs) h4]
    cases ok <;> simp [Instr.lookup, run_underlying M.ht, MapKept.run_getObj_map hb, hc, run_findKey M.hk h1, M.zero, Result.andThen]
theorem run_mset (hb : w.heap[b]? = some (.map es clock)) (h : es.toList.map (fun e => (e.key, e.val)) = l.map (fun e => (kv e.1, Value.int .i64 e.2))) (hs : Stamped es clock) (k : K) (v : Int) :
    ∃ es' clock', (Instr.mapUpdate t (.map (some b)) (kv k) (.int .i64 v)).run P w = .ok () { w with heap := w.heap.setIfInBounds b (.map es' clock') } ∧ Stamped es' clock' ∧ es'.toList.map (fun e => (e.key, e.val)) = (mset l k v).map (fun e => (kv e.1, Value.int .i64 e.2)) := by
  have hc := fun em => run_checkKey (P := P) (w := w) M.hk (M.key k) em 9999
  rcases ent_find M h hs k with ⟨h1, h2, h3⟩ | ⟨j, e, v0, h1, h2, h3, h4⟩
  · refine ⟨es.push ⟨kv k, .int .i64 v, clock⟩, clock + 1, ?_, stamped_push hs h3, ?_⟩
    · simp [Instr.mapUpdate, run_underlying M.ht, MapKept.run_getObj_map hb, hc, run_findKey M.hk h1, MapKept.run_setObj_map _ hb, Result.andThen]
    · rw [mset_none h2]; simp [h]
  · have hj : es[j]? = some e := by simpa using h2
    refine ⟨es.modify j (fun e' => { e' with key := kv k, val := .int .i64 v }), clock, ?_, stamped_modify hs _ _ (fun _ _ => rfl) (fun e' _ he' => by rw [hj] at he'; cases he'; exact h3.symm), ?_⟩
    · simp [Instr.mapUpdate, run_underlying M.ht, MapKept.run_getObj_map hb, hc, run_findKey M.hk h1, hj, h3, run_keyThatStays (M.key k), MapKept.run_setObj_map _ hb, Result.andThen]
    · rw [mset_at (ent_nodup h hs) h4, List.map_set, ← h]
      apply List.ext_getElem?
      intro i
      simp only [Array.toList_modify, List.getElem?_map, List.getElem?_modify, List.getElem?_set, List.length_map]
      by_cases e1 : j = i
      · subst e1
        have hjl := (List.getElem?_eq_some_iff.1 h2).1
        simp at hjl
        simp [hj, hjl]
      · simp [e1]
end
section
variable {G : Pg} {N : Nat} {Γ : Fr} {st : PSt} {K : Exit → PSt → Prop} {ops : Array Oper} {o : Oper} {rest : List Oper} {d l : Nat} {x y z : Operand} {t : TypeId} {KT : Type} [DecidableEq KT] {kv : KT → Value} {m : List (KT × Int)}
omit [DecidableEq KT] in
theorem pop_mkmap (kv : KT → Value) (hg : o.guard = none) (hd : o.dst = some d) (hN : Nat.blt d N = true) (ho : o.op = .makeMap t none) {k : Nat} {m' : List Row} (hm : snocM st.mem (mRow kv ([] : List (KT × Int))) 0 (fun k m => some (k, m)) = some (k, m')) (h : POps G N Γ ops rest (PSt.put ⟨st.tm, m'⟩ d (.mref k)) K) : POps G N Γ ops (o :: rest) st K := .mk fun ρ I a w hrel => by
  have hw : Region.wanted o (yielded ops a.tmps) = true := by simp [Region.wanted, hg]
  simp only [wpList, hw, if_true]
  refine .inl ?_
  have hv : (execOp a.eval o).run G.P w = .ok (.value (.map (some w.heap.size))) (w.alloc (.map #[] 0)) := by
    unfold execOp
    rw [ho]
    rfl
  rw [snocM_eq] at hm
  simp only [Option.some.injEq, Prod.mk.injEq, Nat.zero_add] at hm
  obtain ⟨rfl, rfl⟩ := hm
  simp only [Oper.wp, hv, Oper.upon_value, hd]
  have hr := hrel.newMap (mRow kv ([] : List (KT × Int))) rfl (.map #[] 0) (fun _ _ _ e => by cases e) (fun k' ρ' w' _ hb _ _ _ => ⟨⟨_, hb, fun _ _ _ e => by cases e⟩, fun _ => ⟨fun _ => ⟨#[], 0, hb, stamped_empty 0, (show mapV #[] = mV kv [] by unfold mapV mV; simp)⟩, fun hz => by cases hz⟩⟩)
  refine h.go _ I _ _ (hr.put (by rwa [Nat.blt_eq] at hN) ⟨by simp, ?_⟩)
  simp [addLoc]
theorem pop_look (M : MapT G.P t kv) (ok : Bool) (kk : KT) (hg : o.guard = none) (hd : o.dst = some d) (hN : Nat.blt d N = true) (ho : o.op = .lookup t x y ok) (hx : st.ev x = .mref l) (hy : st.ev y = .val (kv kk)) (hr : rowAt st.mem l = some (mRow kv m))
    (h : POps G N Γ ops rest (st.put d (bif ok then .tup 2 (nthP [vi ((mget m kk).getD 0), vb (mget m kk).isSome]) else vi ((mget m kk).getD 0))) K) : POps G N Γ ops (o :: rest) st K := .mk fun ρ I a w hrel => by
  have hw : Region.wanted o (yielded ops a.tmps) = true := by simp [Region.wanted, hg]
  simp only [wpList, hw, if_true]
  refine .inl ?_
  rw [rowAt_get] at hr
  have hxv := ev_rel hrel x
  rw [hx] at hxv
  obtain ⟨_, hxv⟩ := hxv
  have hyv := ev_rel hrel y
  rw [hy] at hyv
  have hyv : a.eval y = kv kk := hyv
  obtain ⟨_, _, hs⟩ := hrel.fr.m.side l _ hr rfl
  obtain ⟨es, clock, q1, q2, q3⟩ := (hs Nat.zero_lt_one).1 rfl
  have hv : (execOp a.eval o).run G.P w = .ok (.value (if ok then .tuple #[.int .i64 ((mget m kk).getD 0), .bool (mget m kk).isSome] else .int .i64 ((mget m kk).getD 0))) w := by
    unfold execOp
    rw [ho]
    simp only [hxv, hyv, Sem.run_bind, run_look M q1 (mapV_eq q3) q2 kk ok, Result.andThen, Sem.run_pure]
  simp only [Oper.wp, hv, Oper.upon_value, hd]
  refine h.go ρ I _ w (hrel.put (by rwa [Nat.blt_eq] at hN) ?_)
  cases ok
  · exact rfl
  · refine ⟨_, rfl, rfl, fun i hi => ?_⟩
    rcases i with _ | _ | i
    · exact rfl
    · exact rfl
    · omega
theorem pop_mset (M : MapT G.P t kv) (kk : KT) (v : Int) (hg : o.guard = none) (hd : o.dst = none) (ho : o.op = .mapUpdate t x y z) (hx : st.ev x = .mref l) (hy : st.ev y = .val (kv kk)) (hz : st.ev z = vi v) (hr : rowAt st.mem l = some (mRow kv m)) (hk : Γ.k0 ≤ l) (hni : noIt st.mem = true) {m' : List Row}
    (hm : setM st.mem l (mRow kv (mset m kk v)) some = some m') (h : POps G N Γ ops rest ⟨st.tm, m'⟩ K) : POps G N Γ ops (o :: rest) st K := .mk fun ρ I a w hrel => by
  have hw : Region.wanted o (yielded ops a.tmps) = true := by simp [Region.wanted, hg]
  simp only [wpList, hw, if_true]
  refine .inl ?_
  rw [rowAt_get] at hr
  rw [setM_eq] at hm
  simp only [Option.some.injEq] at hm
  subst hm
  have hxv := ev_rel hrel x
  rw [hx] at hxv
  obtain ⟨_, hxv⟩ := hxv
  have hyv := ev_rel hrel y
  rw [hy] at hyv
  have hyv : a.eval y = kv kk := hyv
  have hzv := ev_rel hrel z
  rw [hz] at hzv
  have hzv : a.eval z = .int .i64 v := hzv
  obtain ⟨_, _, hs⟩ := hrel.fr.m.side l _ hr rfl
  obtain ⟨es, clock, q1, q2, q3⟩ := (hs Nat.zero_lt_one).1 rfl
  obtain ⟨es', clock', g1, g2, g3⟩ := run_mset M q1 (mapV_eq q3) q2 kk v
  have hv : (execOp a.eval o).run G.P w = .ok .skip { w with heap := w.heap.setIfInBounds (ρ l).b (.map es' clock') } := by
    unfold execOp
    rw [ho]
    simp only [hxv, hyv, hzv, Sem.run_bind, g1, Result.andThen, Sem.run_pure]
  simp only [Oper.wp, hv, Oper.upon_skip, hd, Act.put]
  refine h.go ρ I _ _ (hrel.setMap hr rfl hk hni (mRow kv (mset m kk v)) rfl rfl g2 fun k' ρ' w' => ?_)
  show mapV es' = mV kv (mset m kk v)
  have := congrArg (List.map fun e : Value × Value => Value.tuple #[e.1, e.2]) g3
  rw [List.map_map, List.map_map] at this
  unfold mapV mV
  congr 1
  apply Array.ext'
  rw [Array.toList_map]
  exact this
end
end Go.Proofs.YtcefhgomkehokaaGreat
namespace Go.Proofs.YtcefhgomkehokaaGreat
open Go.MapKept
def bV (n : Int) : Value := .bool (n != 0)
structure MapTB (P : Program) (t : TypeId) {K : Type} (kv : K → Value) where
  kt : TypeId
  et : TypeId
  d : TypeDesc
  ht : P.underlying t = some (.map kt et)
  hk : P.underlying kt = some d
  key : ∀ a, IsKey d (kv a)
  inj : ∀ a b, kv a = kv b → a = b
  zero : ∀ w, (zeroValue et).run P w = .ok (bV 0) w
def mVB {K : Type} (kv : K → Value) (l : List (K × Int)) : Value := .tuple ((l.map fun e => Value.tuple #[kv e.1, bV e.2]).toArray)
def mRowB {K : Type} (kv : K → Value) (l : List (K × Int)) : Row := ⟨.mp, false, 1, 1, fun _ _ => .val (mVB kv l)⟩
theorem m_eqB {K : Type} {kv : K → Value} {l : List (K × Int)} {τ : Nat → Option Nat} : RowEq ((mRowB kv l).ren τ) (mRowB kv l) := RowEq.refl _
theorem mapV_eqB {K : Type} {kv : K → Value} {es : Array MapEntry} {l : List (K × Int)} (h : mapV es = mVB kv l) : es.toList.map (fun e => (e.key, e.val)) = l.map (fun e => (kv e.1, bV e.2)) := by
  unfold mapV mVB at h
  injection h with h
  have h2 := congrArg Array.toList h
  simp only [Array.toList_map] at h2
  have : ∀ (a : List MapEntry) (b : List (K × Int)), a.map (fun e => Value.tuple #[e.key, e.val]) = b.map (fun e => Value.tuple #[kv e.1, bV e.2]) → a.map (fun e => (e.key, e.val)) = b.map (fun e => (kv e.1, bV e.2)) := by
    intro a
    induction a with
    | nil => intro b hb; cases b <;> simp_all
    | cons x a ih =>
      intro b hb
      cases b with
      | nil => simp at hb
      | cons y b =>
        simp only [List.map_cons, List.cons.injEq, Value.tuple.injEq, Array.mk.injEq] at hb ⊢
        obtain ⟨h1, h2⟩ := hb
        simp at h1
        exact ⟨by rw [h1.1, h1.2], ih b h2⟩
  exact this _ _ h2
section
variable {P : Program} {t : TypeId} {K : Type} [DecidableEq K] {kv : K → Value} (M : MapTB P t kv) {es : Array MapEntry} {clock : Nat} {l : List (K × Int)} {w : World} {b : Nat}
omit [DecidableEq K] in
theorem ent_getB (h : es.toList.map (fun e => (e.key, e.val)) = l.map (fun e => (kv e.1, bV e.2))) (j : Nat) : (es.toList[j]?).map (fun e => (e.key, e.val)) = (l[j]?).map (fun e => (kv e.1, bV e.2)) := by
  rw [← List.getElem?_map, h, List.getElem?_map]
omit [DecidableEq K] in
theorem ent_nodupB (h : es.toList.map (fun e => (e.key, e.val)) = l.map (fun e => (kv e.1, bV e.2))) (hs : Stamped es clock) : (l.map (·.1)).Nodup := by
  have h1 := hs.2.2
  have h2 : es.toList.map (·.key) = (l.map (·.1)).map kv := by
    have := congrArg (List.map Prod.fst) h
    rw [List.map_map, List.map_map] at this
    rw [List.map_map]
    exact this
  rw [h2] at h1
  exact List.Pairwise.of_map kv (fun a b hne he => hne (by rw [he])) h1
include M
omit [DecidableEq K] in
theorem ent_keysB (h : es.toList.map (fun e => (e.key, e.val)) = l.map (fun e => (kv e.1, bV e.2))) : ∀ x ∈ es.toList, IsKey M.d x.key := fun x hx => by
  have : (x.key, x.val) ∈ l.map (fun e => (kv e.1, bV e.2)) := by rw [← h]; exact List.mem_map.2 ⟨x, hx, rfl⟩
  obtain ⟨e, _, he⟩ := List.mem_map.1 this
  have : kv e.1 = x.key := congrArg Prod.fst he
  rw [← this]; exact M.key _
omit [DecidableEq K] in
theorem ent_findB (h : es.toList.map (fun e => (e.key, e.val)) = l.map (fun e => (kv e.1, bV e.2))) (hs : Stamped es clock) (k : K) :
    (Instr.findNow M.d (kv k) es.toList 0 = some none ∧ (∀ e ∈ l, e.1 ≠ k) ∧ ∀ x ∈ es.toList, x.key ≠ kv k) ∨ ∃ j e v, Instr.findNow M.d (kv k) es.toList 0 = some (some (j, bV v)) ∧ es.toList[j]? = some e ∧ e.key = kv k ∧ l[j]? = some (k, v) := by
  rcases findNow_spec (M.key k) es.toList 0 (ent_keysB M h) with ⟨h1, h2⟩ | ⟨j, e, h1, h2, h3⟩
  · refine .inl ⟨h1, fun e he hk => ?_, h2⟩
    have : (kv e.1, bV e.2) ∈ es.toList.map (fun e => (e.key, e.val)) := by rw [h]; exact List.mem_map.2 ⟨e, he, rfl⟩
    obtain ⟨x, hx, hxe⟩ := List.mem_map.1 this
    exact h2 x hx ((congrArg Prod.fst hxe).trans (by rw [hk]))
  · have h4 := ent_getB h j
    rw [h2] at h4
    cases h5 : l[j]? with
    | none => rw [h5] at h4; cases h4
    | some y =>
      rw [h5] at h4
      simp only [Option.map_some, Option.some.injEq, Prod.mk.injEq] at h4
      refine .inr ⟨j, e, y.2, by rw [h1, h4.2, Nat.zero_add], h2, h3, ?_⟩
      have : y.1 = k := M.inj _ _ (by rw [← h4.1, h3])
      rw [h5, ← this]
theorem run_lookB (hb : w.heap[b]? = some (.map es clock)) (h : es.toList.map (fun e => (e.key, e.val)) = l.map (fun e => (kv e.1, bV e.2))) (hs : Stamped es clock) (k : K) (ok : Bool) :
    (Instr.lookup t (.map (some b)) (kv k) ok).run P w = .ok (if ok then .tuple #[bV ((mget l k).getD 0), .bool (mget l k).isSome] else bV ((mget l k).getD 0)) w := by
  have hc := fun em => run_checkKey (P := P) (w := w) M.hk (M.key k) em 9999
  rcases ent_findB M h hs k with ⟨h1, h2, _⟩ | ⟨j, e, v, h1, h2, h3, h4⟩
  · rw [mget_none h2]
    cases ok <;> simp [Instr.lookup, run_underlying M.ht, MapKept.run_getObj_map hb, hc, run_findKey M.hk h1, M.zero, Result.andThen]
  · rw [mget_at (ent_nodupB h hs) h4]
    cases ok <;> simp [Instr.lookup, run_underlying M.ht, MapKept.run_getObj_map hb, hc, run_findKey M.hk h1, M.zero, Result.andThen]
theorem run_msetB (hb : w.heap[b]? = some (.map es clock)) (h : es.toList.map (fun e => (e.key, e.val)) = l.map (fun e => (kv e.1, bV e.2))) (hs : Stamped es clock) (k : K) (v : Int) :
    ∃ es' clock', (Instr.mapUpdate t (.map (some b)) (kv k) (bV v)).run P w = .ok () { w with heap := w.heap.setIfInBounds b (.map es' clock') } ∧ Stamped es' clock' ∧ es'.toList.map (fun e => (e.key, e.val)) = (mset l k v).map (fun e => (kv e.1, bV e.2)) := by
  have hc := fun em => run_checkKey (P := P) (w := w) M.hk (M.key k) em 9999
  rcases ent_findB M h hs k with ⟨h1, h2, h3⟩ | ⟨j, e, v0, h1, h2, h3, h4⟩
  · refine ⟨es.push ⟨kv k, bV v, clock⟩, clock + 1, ?_, stamped_push hs h3, ?_⟩
    · simp [Instr.mapUpdate, run_underlying M.ht, MapKept.run_getObj_map hb, hc, run_findKey M.hk h1, MapKept.run_setObj_map _ hb, Result.andThen]
    · rw [mset_none h2]; simp [h]
  · have hj : es[j]? = some e := by simpa using h2
    refine ⟨es.modify j (fun e' => { e' with key := kv k, val := bV v }), clock, ?_, stamped_modify hs _ _ (fun _ _ => rfl) (fun e' _ he' => by rw [hj] at he'; cases he'; exact h3.symm), ?_⟩
    · simp [Instr.mapUpdate, run_underlying M.ht, MapKept.run_getObj_map hb, hc, run_findKey M.hk h1, hj, h3, run_keyThatStays (M.key k), MapKept.run_setObj_map _ hb, Result.andThen]
    · rw [mset_at (ent_nodupB h hs) h4, List.map_set, ← h]
      apply List.ext_getElem?
      intro i
      simp only [Array.toList_modify, List.getElem?_map, List.getElem?_modify, List.getElem?_set, List.length_map]
      by_cases e1 : j = i
      · subst e1
        have hjl := (List.getElem?_eq_some_iff.1 h2).1
        simp at hjl
        simp [hj, hjl]
      · simp [e1]
end
section
variable {G : Pg} {N : Nat} {Γ : Fr} {st : PSt} {K : Exit → PSt → Prop} {ops : Array Oper} {o : Oper} {rest : List Oper} {d l : Nat} {x y z : Operand} {t : TypeId} {KT : Type} [DecidableEq KT] {kv : KT → Value} {m : List (KT × Int)}
omit [DecidableEq KT] in
theorem pop_mkmapB (kv : KT → Value) (hg : o.guard = none) (hd : o.dst = some d) (hN : Nat.blt d N = true) (ho : o.op = .makeMap t none) {k : Nat} {m' : List Row} (hm : snocM st.mem (mRowB kv ([] : List (KT × Int))) 0 (fun k m => some (k, m)) = some (k, m')) (h : POps G N Γ ops rest (PSt.put ⟨st.tm, m'⟩ d (.mref k)) K) : POps G N Γ ops (o :: rest) st K := .mk fun ρ I a w hrel => by
  have hw : Region.wanted o (yielded ops a.tmps) = true := by simp [Region.wanted, hg]
  simp only [wpList, hw, if_true]
  refine .inl ?_
  have hv : (execOp a.eval o).run G.P w = .ok (.value (.map (some w.heap.size))) (w.alloc (.map #[] 0)) := by
    unfold execOp
    rw [ho]
    rfl
  rw [snocM_eq] at hm
  simp only [Option.some.injEq, Prod.mk.injEq, Nat.zero_add] at hm
  obtain ⟨rfl, rfl⟩ := hm
  simp only [Oper.wp, hv, Oper.upon_value, hd]
  have hr := hrel.newMap (mRowB kv ([] : List (KT × Int))) rfl (.map #[] 0) (fun _ _ _ e => by cases e) (fun k' ρ' w' _ hb _ _ _ => ⟨⟨_, hb, fun _ _ _ e => by cases e⟩, fun _ => ⟨fun _ => ⟨#[], 0, hb, stamped_empty 0, (show mapV #[] = mVB kv [] by unfold mapV mVB; simp)⟩, fun hz => by cases hz⟩⟩)
  refine h.go _ I _ _ (hr.put (by rwa [Nat.blt_eq] at hN) ⟨by simp, ?_⟩)
  simp [addLoc]
theorem pop_lookB (M : MapTB G.P t kv) (ok : Bool) (kk : KT) (hg : o.guard = none) (hd : o.dst = some d) (hN : Nat.blt d N = true) (ho : o.op = .lookup t x y ok) (hx : st.ev x = .mref l) (hy : st.ev y = .val (kv kk)) (hr : rowAt st.mem l = some (mRowB kv m))
    (h : POps G N Γ ops rest (st.put d (bif ok then .tup 2 (nthP [.val (bV ((mget m kk).getD 0)), vb (mget m kk).isSome]) else .val (bV ((mget m kk).getD 0)))) K) : POps G N Γ ops (o :: rest) st K := .mk fun ρ I a w hrel => by
  have hw : Region.wanted o (yielded ops a.tmps) = true := by simp [Region.wanted, hg]
  simp only [wpList, hw, if_true]
  refine .inl ?_
  rw [rowAt_get] at hr
  have hxv := ev_rel hrel x
  rw [hx] at hxv
  obtain ⟨_, hxv⟩ := hxv
  have hyv := ev_rel hrel y
  rw [hy] at hyv
  have hyv : a.eval y = kv kk := hyv
  obtain ⟨_, _, hs⟩ := hrel.fr.m.side l _ hr rfl
  obtain ⟨es, clock, q1, q2, q3⟩ := (hs Nat.zero_lt_one).1 rfl
  have hv : (execOp a.eval o).run G.P w = .ok (.value (if ok then .tuple #[bV ((mget m kk).getD 0), .bool (mget m kk).isSome] else bV ((mget m kk).getD 0))) w := by
    unfold execOp
    rw [ho]
    simp only [hxv, hyv, Sem.run_bind, run_lookB M q1 (mapV_eqB q3) q2 kk ok, Result.andThen, Sem.run_pure]
  simp only [Oper.wp, hv, Oper.upon_value, hd]
  refine h.go ρ I _ w (hrel.put (by rwa [Nat.blt_eq] at hN) ?_)
  cases ok
  · exact rfl
  · refine ⟨_, rfl, rfl, fun i hi => ?_⟩
    rcases i with _ | _ | i
    · exact rfl
    · exact rfl
    · omega
theorem pop_msetB (M : MapTB G.P t kv) (kk : KT) (v : Int) (hg : o.guard = none) (hd : o.dst = none) (ho : o.op = .mapUpdate t x y z) (hx : st.ev x = .mref l) (hy : st.ev y = .val (kv kk)) (hz : st.ev z = .val (bV v)) (hr : rowAt st.mem l = some (mRowB kv m)) (hk : Γ.k0 ≤ l) (hni : noIt st.mem = true) {m' : List Row}
    (hm : setM st.mem l (mRowB kv (mset m kk v)) some = some m') (h : POps G N Γ ops rest ⟨st.tm, m'⟩ K) : POps G N Γ ops (o :: rest) st K := .mk fun ρ I a w hrel => by
  have hw : Region.wanted o (yielded ops a.tmps) = true := by simp [Region.wanted, hg]
  simp only [wpList, hw, if_true]
  refine .inl ?_
  rw [rowAt_get] at hr
  rw [setM_eq] at hm
  simp only [Option.some.injEq] at hm
  subst hm
  have hxv := ev_rel hrel x
  rw [hx] at hxv
  obtain ⟨_, hxv⟩ := hxv
  have hyv := ev_rel hrel y
  rw [hy] at hyv
  have hyv : a.eval y = kv kk := hyv
  have hzv := ev_rel hrel z
  rw [hz] at hzv
  have hzv : a.eval z = bV v := hzv
  obtain ⟨_, _, hs⟩ := hrel.fr.m.side l _ hr rfl
  obtain ⟨es, clock, q1, q2, q3⟩ := (hs Nat.zero_lt_one).1 rfl
  obtain ⟨es', clock', g1, g2, g3⟩ := run_msetB M q1 (mapV_eqB q3) q2 kk v
  have hv : (execOp a.eval o).run G.P w = .ok .skip { w with heap := w.heap.setIfInBounds (ρ l).b (.map es' clock') } := by
    unfold execOp
    rw [ho]
    simp only [hxv, hyv, hzv, Sem.run_bind, g1, Result.andThen, Sem.run_pure]
  simp only [Oper.wp, hv, Oper.upon_skip, hd, Act.put]
  refine h.go ρ I _ _ (hrel.setMap hr rfl hk hni (mRowB kv (mset m kk v)) rfl rfl g2 fun k' ρ' w' => ?_)
  show mapV es' = mVB kv (mset m kk v)
  have := congrArg (List.map fun e : Value × Value => Value.tuple #[e.1, e.2]) g3
  rw [List.map_map, List.map_map] at this
  unfold mapV mVB
  congr 1
  apply Array.ext'
  rw [Array.toList_map]
  exact this
end
end Go.Proofs.YtcefhgomkehokaaGreat
