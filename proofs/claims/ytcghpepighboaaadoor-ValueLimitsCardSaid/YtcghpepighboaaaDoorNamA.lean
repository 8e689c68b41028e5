/- Names: package token. -/
import Derived.Test.YtcghpepighboaaaDoorPvClo
set_option linter.unusedSimpArgs false
set_option linter.unusedVariables false
set_option maxRecDepth 100000
namespace Go.Proofs.YtcghpepighboaaaDoor
def byteI (s : ByteArray) (i : Nat) : Int := ((s.data.getD i 0).toNat : Int)
def lowB (c : Int) : Bool := decide (97 ≤ c ∧ c ≤ 122)
def digB (c : Int) : Bool := decide (48 ≤ c ∧ c ≤ 57)
def wrdB (c : Int) : Bool := lowB c || digB c || c == 95
abbrev vy (c : Int) : PV := .val (.int .u8 c)
theorem isLower_c (c : Int) : PureC G.P 122 [vy c] (fun r => r = vb (lowB c)) := by
  refine pure_of (G := G.toPg) (fn := Tryd.f122) Tryd.func122 rfl rfl rfl ?_; intro Γ hk
  repeat' (first | ((with_reducible (show POps _ _ _ _ (_ :: _) _ _)); (first | refine pop_read rfl rfl rfl rfl trivial ?_ | refine pop_guard rfl rfl rfl rfl rfl qgd ?_ | refine pop_new rfl rfl rfl rfl trivial ?_ | refine pop_store rfl rfl rfl Nat.zero_lt_one ?_ | refine pop_read rfl rfl rfl rfl qrd ?_ | refine pop_read2 rfl rfl rfl rfl trivial ?_ | refine pop_store rfl rfl rfl qst ?_ | fail)) | refine pnil ?_ | refine kround_exit ?_ | refine kround_ret ?_ | refine kround_next ?_ | refine kseq_normal ?_ | refine pseq ?_ | refine pregion ?_ | refine pret ?_ | refine kseq_ret ?_ | refine pskip ?_ | refine pblock ?_ | refine pexit ?_ | refine kseq_exit ?_ | refine kblock_hit rfl ?_ | refine kblock_miss rfl ?_ | refine kblock_ret ?_ | refine kblock_normal ?_ | refine kloop_ret ?_ | refine kloop_exit ?_ | refine kcut_ret ?_ | refine kcut_exit ?_ | refine pcond_t rfl ?_ | refine pcond_f rfl ?_ | (with_reducible (show POps _ _ _ _ _ _ _); simp only [List.append_eq, List.cons_append, List.nil_append]))
  refine kretv rfl ⟨trivial, trivial⟩ rfl (eqB ?_)
  rw [Bool.eq_iff_iff]; simp [lowB]
theorem isDigit_c (c : Int) : PureC G.P 123 [vy c] (fun r => r = vb (digB c)) := by
  refine pure_of (G := G.toPg) (fn := Tryd.f123) Tryd.func123 rfl rfl rfl ?_; intro Γ hk
  repeat' (first | ((with_reducible (show POps _ _ _ _ (_ :: _) _ _)); (first | refine pop_read rfl rfl rfl rfl trivial ?_ | refine pop_guard rfl rfl rfl rfl rfl qgd ?_ | refine pop_new rfl rfl rfl rfl trivial ?_ | refine pop_store rfl rfl rfl Nat.zero_lt_one ?_ | refine pop_read rfl rfl rfl rfl qrd ?_ | refine pop_read2 rfl rfl rfl rfl trivial ?_ | refine pop_store rfl rfl rfl qst ?_ | fail)) | refine pnil ?_ | refine kround_exit ?_ | refine kround_ret ?_ | refine kround_next ?_ | refine kseq_normal ?_ | refine pseq ?_ | refine pregion ?_ | refine pret ?_ | refine kseq_ret ?_ | refine pskip ?_ | refine pblock ?_ | refine pexit ?_ | refine kseq_exit ?_ | refine kblock_hit rfl ?_ | refine kblock_miss rfl ?_ | refine kblock_ret ?_ | refine kblock_normal ?_ | refine kloop_ret ?_ | refine kloop_exit ?_ | refine kcut_ret ?_ | refine kcut_exit ?_ | refine pcond_t rfl ?_ | refine pcond_f rfl ?_ | (with_reducible (show POps _ _ _ _ _ _ _); simp only [List.append_eq, List.cons_append, List.nil_append]))
  refine kretv rfl ⟨trivial, trivial⟩ rfl (eqB ?_)
  rw [Bool.eq_iff_iff]; simp [digB]
/-- the end of the word from n on -/
def scanW (s : ByteArray) : Nat → Nat → Nat
  | 0, n => n
  | f + 1, n => if wrdB (byteI s n) then scanW s f (n + 1) else n
def wlenS (s : ByteArray) : Nat := if lowB (byteI s 0) = true then scanW s (s.size - 1) 1 else 0
theorem empty_eq (s : ByteArray) (h : 0 < s.size) : (s.toList == ({ data := #[] } : ByteArray).toList) = false := by
  rw [ByteArray.toList_eq, ByteArray.toList_eq]
  have e1 : s.data.toList.length = s.size := by rw [Array.length_toList]; rfl
  cases hl : s.data.toList with
  | nil => rw [hl] at e1; simp at e1; omega
  | cons a l => rfl
theorem wordLength_c (s : ByteArray) (h0 : 0 < s.size) (hs : s.size ≤ 1000) : PureC G.P 118 [vs s] (fun r => r = vi (wlenS s)) := by
  have he := empty_eq s h0
  refine pure_of (G := G.toPg) (fn := Tryd.f118) Tryd.func118 rfl rfl rfl ?_; intro Γ hk
  repeat' (first | ((with_reducible (show POps _ _ _ _ (_ :: _) _ _)); (first | refine pop_read rfl rfl rfl rfl trivial ?_ | refine pop_guard rfl rfl rfl rfl rfl qgd ?_ | refine pop_new rfl rfl rfl rfl trivial ?_ | refine pop_store rfl rfl rfl Nat.zero_lt_one ?_ | refine pop_read rfl rfl rfl rfl qrd ?_ | refine pop_read2 rfl rfl rfl rfl trivial ?_ | refine pop_store rfl rfl rfl qst ?_ | (refine pop_guard2 rfl rfl rfl rfl rfl ?_ ?_; (exact fun h => ⟨h, by omega, by omega⟩)) | (refine pop_callgv rfl rfl rfl rfl rfl rfl (fun _ => isLower_c (byteI s 0)) ?_ rfl rfl rfl ?_; (exact fun h => ⟨h, trivial⟩)) | fail)) | refine pnil ?_ | refine kround_exit ?_ | refine kround_ret ?_ | refine kround_next ?_ | refine kseq_normal ?_ | refine pseq ?_ | refine pregion ?_ | refine pret ?_ | refine kseq_ret ?_ | refine pskip ?_ | refine pblock ?_ | refine pexit ?_ | refine kseq_exit ?_ | refine kblock_hit rfl ?_ | refine kblock_miss rfl ?_ | refine kblock_ret ?_ | refine kblock_normal ?_ | refine kloop_ret ?_ | refine kloop_exit ?_ | refine kcut_ret ?_ | refine kcut_exit ?_ | refine pcond_t rfl ?_ | refine pcond_f rfl ?_ | (with_reducible (show POps _ _ _ _ _ _ _); simp only [List.append_eq, List.cons_append, List.nil_append]))
  rw [he]
  refine pcond rfl ?_ ?_ <;> intro hc
  · have hl : lowB (byteI s 0) = false := by simpa using hc
    repeat' (first | ((with_reducible (show POps _ _ _ _ (_ :: _) _ _)); (first | refine pop_read rfl rfl rfl rfl trivial ?_ | refine pop_guard rfl rfl rfl rfl rfl qgd ?_ | refine pop_new rfl rfl rfl rfl trivial ?_ | refine pop_store rfl rfl rfl Nat.zero_lt_one ?_ | refine pop_read rfl rfl rfl rfl qrd ?_ | refine pop_read2 rfl rfl rfl rfl trivial ?_ | refine pop_store rfl rfl rfl qst ?_ | fail)) | refine pnil ?_ | refine kround_exit ?_ | refine kround_ret ?_ | refine kround_next ?_ | refine kseq_normal ?_ | refine pseq ?_ | refine pregion ?_ | refine pret ?_ | refine kseq_ret ?_ | refine pskip ?_ | refine pblock ?_ | refine pexit ?_ | refine kseq_exit ?_ | refine kblock_hit rfl ?_ | refine kblock_miss rfl ?_ | refine kblock_ret ?_ | refine kblock_normal ?_ | refine kloop_ret ?_ | refine kloop_exit ?_ | refine kcut_ret ?_ | refine kcut_exit ?_ | refine pcond_t rfl ?_ | refine pcond_f rfl ?_ | (with_reducible (show POps _ _ _ _ _ _ _); simp only [List.append_eq, List.cons_append, List.nil_append]))
    refine kretv rfl ⟨trivial, trivial⟩ rfl (eqI ?_)
    rw [wlenS, hl]; rfl
  · have hl : lowB (byteI s 0) = true := by simpa using hc
    rw [wlenS, if_pos hl]
    repeat' (first | ((with_reducible (show POps _ _ _ _ (_ :: _) _ _)); (first | refine pop_read rfl rfl rfl rfl trivial ?_ | refine pop_guard rfl rfl rfl rfl rfl qgd ?_ | refine pop_new rfl rfl rfl rfl trivial ?_ | refine pop_store rfl rfl rfl Nat.zero_lt_one ?_ | refine pop_read rfl rfl rfl rfl qrd ?_ | refine pop_read2 rfl rfl rfl rfl trivial ?_ | refine pop_store rfl rfl rfl qst ?_ | fail)) | refine pnil ?_ | refine kround_exit ?_ | refine kround_ret ?_ | refine kround_next ?_ | refine kseq_normal ?_ | refine pseq ?_ | refine pregion ?_ | refine pret ?_ | refine kseq_ret ?_ | refine pskip ?_ | refine pblock ?_ | refine pexit ?_ | refine kseq_exit ?_ | refine kblock_hit rfl ?_ | refine kblock_miss rfl ?_ | refine kblock_ret ?_ | refine kblock_normal ?_ | refine kloop_ret ?_ | refine kloop_exit ?_ | refine kcut_ret ?_ | refine kcut_exit ?_ | refine pcond_t rfl ?_ | refine pcond_f rfl ?_ | (with_reducible (show POps _ _ _ _ _ _ _); simp only [List.append_eq, List.cons_append, List.nil_append]))
    refine pcan (can_sel [0, 3]) ?_
    refine ploop (fun q st => ∃ n : Nat, 1 ≤ n ∧ n ≤ s.size ∧ scanW s (s.size - n) n = scanW s (s.size - 1) 1 ∧ q = s.size - n ∧ st = ⟨[(0, vs s), (3, vi n)], []⟩) (s.size - 1) ⟨1, by omega, by omega, rfl, rfl, rfl⟩ ?_
    rintro _ _ ⟨n, n1, n2, hsc, rfl, rfl⟩
    repeat' (first | ((with_reducible (show POps _ _ _ _ (_ :: _) _ _)); (first | refine pop_read rfl rfl rfl rfl trivial ?_ | refine pop_guard rfl rfl rfl rfl rfl qgd ?_ | refine pop_new rfl rfl rfl rfl trivial ?_ | refine pop_store rfl rfl rfl Nat.zero_lt_one ?_ | refine pop_read rfl rfl rfl rfl qrd ?_ | refine pop_read2 rfl rfl rfl rfl trivial ?_ | refine pop_store rfl rfl rfl qst ?_ | (refine pop_guard2 rfl rfl rfl rfl rfl ?_ ?_; (exact fun h => ⟨h, h, by omega, by simp at h; omega⟩)) | (refine pop_callgv rfl rfl rfl rfl rfl rfl (fun _ => isLower_c (byteI s (n : Int).toNat)) ?_ rfl rfl rfl ?_; (exact fun h => ⟨h, trivial⟩)) | (refine pop_callgv rfl rfl rfl rfl rfl rfl (fun _ => isDigit_c (byteI s (n : Int).toNat)) ?_ rfl rfl rfl ?_; (exact fun h => ⟨h, trivial⟩)) | fail)) | refine pnil ?_ | refine kround_exit ?_ | refine kround_ret ?_ | refine kround_next ?_ | refine kseq_normal ?_ | refine pseq ?_ | refine pregion ?_ | refine pret ?_ | refine kseq_ret ?_ | refine pskip ?_ | refine pblock ?_ | refine pexit ?_ | refine kseq_exit ?_ | refine kblock_hit rfl ?_ | refine kblock_miss rfl ?_ | refine kblock_ret ?_ | refine kblock_normal ?_ | refine kloop_ret ?_ | refine kloop_exit ?_ | refine kcut_ret ?_ | refine kcut_exit ?_ | refine pcond_t rfl ?_ | refine pcond_f rfl ?_ | (with_reducible (show POps _ _ _ _ _ _ _); simp only [List.append_eq, List.cons_append, List.nil_append]))
    refine pcond rfl ?_ ?_ <;> intro hc2
    · have hlt : n < s.size ∧ wrdB (byteI s n) = true := by
        have hc2 : (bif decide ((n : Int) < (s.size : Int)) then (bif (bif lowB (byteI s n) then true else digB (byteI s n)) then true else byteI s n == 95) else false) = true := hc2
        by_cases hn : n < s.size
        · refine ⟨hn, ?_⟩
          unfold wrdB
          cases h1 : lowB (byteI s n) <;> cases h2 : digB (byteI s n) <;> simp_all
        · simp [hn] at hc2
      repeat' (first | ((with_reducible (show POps _ _ _ _ (_ :: _) _ _)); (first | refine pop_read rfl rfl rfl rfl trivial ?_ | refine pop_guard rfl rfl rfl rfl rfl qgd ?_ | refine pop_new rfl rfl rfl rfl trivial ?_ | refine pop_store rfl rfl rfl Nat.zero_lt_one ?_ | refine pop_read rfl rfl rfl rfl qrd ?_ | refine pop_read2 rfl rfl rfl rfl trivial ?_ | refine pop_store rfl rfl rfl qst ?_ | fail)) | refine pnil ?_ | refine kround_exit ?_ | refine kround_ret ?_ | refine kround_next ?_ | refine kseq_normal ?_ | refine pseq ?_ | refine pregion ?_ | refine pret ?_ | refine kseq_ret ?_ | refine pskip ?_ | refine pblock ?_ | refine pexit ?_ | refine kseq_exit ?_ | refine kblock_hit rfl ?_ | refine kblock_miss rfl ?_ | refine kblock_ret ?_ | refine kblock_normal ?_ | refine kloop_ret ?_ | refine kloop_exit ?_ | refine kcut_ret ?_ | refine kcut_exit ?_ | refine pcond_t rfl ?_ | refine pcond_f rfl ?_ | (with_reducible (show POps _ _ _ _ _ _ _); simp only [List.append_eq, List.cons_append, List.nil_append]))
      rw [show IntKind.i64.wrap ((n : Int) + 1) = ((n + 1 : Nat) : Int) from w64 (by omega) (by omega)]
      refine kloop_next (s.size - (n + 1)) (can_sel [0, 3]) (by omega) ⟨n + 1, by omega, by omega, ?_, rfl, rfl⟩
      rw [← hsc, show s.size - n = (s.size - (n + 1)) + 1 by omega, scanW, if_pos hlt.2]
    · have hlt : ¬ n < s.size ∨ wrdB (byteI s n) = false := by
        have hc2 : (bif decide ((n : Int) < (s.size : Int)) then (bif (bif lowB (byteI s n) then true else digB (byteI s n)) then true else byteI s n == 95) else false) = false := hc2
        by_cases hn : n < s.size
        · refine .inr ?_
          unfold wrdB
          cases h1 : lowB (byteI s n) <;> cases h2 : digB (byteI s n) <;> simp_all
        · exact .inl hn
      repeat' (first | ((with_reducible (show POps _ _ _ _ (_ :: _) _ _)); (first | refine pop_read rfl rfl rfl rfl trivial ?_ | refine pop_guard rfl rfl rfl rfl rfl qgd ?_ | refine pop_new rfl rfl rfl rfl trivial ?_ | refine pop_store rfl rfl rfl Nat.zero_lt_one ?_ | refine pop_read rfl rfl rfl rfl qrd ?_ | refine pop_read2 rfl rfl rfl rfl trivial ?_ | refine pop_store rfl rfl rfl qst ?_ | fail)) | refine pnil ?_ | refine kround_exit ?_ | refine kround_ret ?_ | refine kround_next ?_ | refine kseq_normal ?_ | refine pseq ?_ | refine pregion ?_ | refine pret ?_ | refine kseq_ret ?_ | refine pskip ?_ | refine pblock ?_ | refine pexit ?_ | refine kseq_exit ?_ | refine kblock_hit rfl ?_ | refine kblock_miss rfl ?_ | refine kblock_ret ?_ | refine kblock_normal ?_ | refine kloop_ret ?_ | refine kloop_exit ?_ | refine kcut_ret ?_ | refine kcut_exit ?_ | refine pcond_t rfl ?_ | refine pcond_f rfl ?_ | (with_reducible (show POps _ _ _ _ _ _ _); simp only [List.append_eq, List.cons_append, List.nil_append]))
      refine kretv rfl ⟨trivial, trivial⟩ rfl (eqI ?_)
      rw [← hsc]
      rcases hlt with h | h
      · rw [show s.size - n = 0 by omega, scanW]
      · by_cases hn : n < s.size
        · rw [show s.size - n = (s.size - (n + 1)) + 1 by omega, scanW, if_neg (by rw [h]; simp)]
        · rw [show s.size - n = 0 by omega, scanW]
def kwL : List ByteArray := [⟨#[97, 103, 114, 101, 101, 109, 101, 110, 116]⟩, ⟨#[105, 110, 112, 117, 116]⟩, ⟨#[112, 97, 115, 116]⟩, ⟨#[115, 99, 97, 108, 101]⟩, ⟨#[114, 117, 108, 101]⟩, ⟨#[112, 97, 121]⟩, ⟨#[102, 114, 111, 109]⟩, ⟨#[114, 111, 117, 110, 100, 101, 100]⟩, ⟨#[116, 111]⟩, ⟨#[105, 102]⟩, ⟨#[116, 104, 101, 110]⟩, ⟨#[101, 108, 115, 101]⟩, ⟨#[97, 110, 100]⟩, ⟨#[111, 114]⟩, ⟨#[110, 111, 116]⟩, ⟨#[116, 114, 117, 101]⟩, ⟨#[102, 97, 108, 115, 101]⟩, ⟨#[109, 105, 110]⟩, ⟨#[109, 97, 120]⟩, ⟨#[114, 111, 117, 110, 100]⟩, ⟨#[97, 118, 101, 114, 97, 103, 101]⟩, ⟨#[108, 97, 115, 116]⟩, ⟨#[109, 111, 110, 101, 121]⟩, ⟨#[104, 111, 117, 114, 115]⟩, ⟨#[100, 97, 121, 115]⟩, ⟨#[110, 117, 109, 98, 101, 114]⟩, ⟨#[98, 111, 111, 108]⟩, ⟨#[100, 111, 119, 110]⟩, ⟨#[117, 112]⟩, ⟨#[102, 108, 111, 111, 114]⟩, ⟨#[99, 101, 105, 108, 105, 110, 103]⟩, ⟨#[104, 97, 108, 102, 95, 117, 112]⟩, ⟨#[104, 97, 108, 102, 95, 100, 111, 119, 110]⟩, ⟨#[104, 97, 108, 102, 95, 101, 118, 101, 110]⟩]
def kwS (s : ByteArray) : Bool := kwL.any (fun k => s.toList == k.toList)
theorem isKeyword_c (s : ByteArray) : PureC G.P 119 [vs s] (fun r => r = vb (kwS s)) := by
  refine pure_of (G := G.toPg) (fn := Tryd.f119) Tryd.func119 rfl rfl rfl ?_; intro Γ hk
  repeat' (first | ((with_reducible (show POps _ _ _ _ (_ :: _) _ _)); (first | refine pop_read rfl rfl rfl rfl trivial ?_ | refine pop_guard rfl rfl rfl rfl rfl qgd ?_ | refine pop_new rfl rfl rfl rfl trivial ?_ | refine pop_store rfl rfl rfl Nat.zero_lt_one ?_ | refine pop_read rfl rfl rfl rfl qrd ?_ | refine pop_read2 rfl rfl rfl rfl trivial ?_ | refine pop_store rfl rfl rfl qst ?_ | fail)) | refine pnil ?_ | refine kround_exit ?_ | refine kround_ret ?_ | refine kround_next ?_ | refine kseq_normal ?_ | refine pseq ?_ | refine pregion ?_ | refine pret ?_ | refine kseq_ret ?_ | refine pskip ?_ | refine pblock ?_ | refine pexit ?_ | refine kseq_exit ?_ | refine kblock_hit rfl ?_ | refine kblock_miss rfl ?_ | refine kblock_ret ?_ | refine kblock_normal ?_ | refine kloop_ret ?_ | refine kloop_exit ?_ | refine kcut_ret ?_ | refine kcut_exit ?_ | refine pcond_t rfl ?_ | refine pcond_f rfl ?_ | (with_reducible (show POps _ _ _ _ _ _ _); simp only [List.append_eq, List.cons_append, List.nil_append]) | (refine pcond rfl ?_ ?_ <;> intro hc))
  all_goals refine kretv rfl ⟨trivial, trivial⟩ rfl (eqB ?_)
  all_goals first
    | (simp only [kwS, kwL, List.any_cons, List.any_nil, *, Bool.or_true, Bool.true_or, Bool.or_false, Bool.false_or]; done)
    | (exfalso; rename_i a; exact absurd (a.symm.trans hc) (by decide))
def nameS (s : ByteArray) : Bool := decide (0 < s.size ∧ s.size ≤ 24) && (decide (wlenS s = s.size) && !kwS s)
theorem isName_c (s : ByteArray) (hs : s.size ≤ 9223372036854775807) : PureC G.P 106 [vs s] (fun r => r = vb (nameS s)) := by
  have hg : ((bif decide ((0 : Int) < (s.size : Int)) then decide ((s.size : Int) ≤ 24) else false) == true) = true → 0 < s.size ∧ s.size ≤ 24 := fun h => by
    by_cases h1 : (0 : Int) < (s.size : Int)
    · by_cases h2 : (s.size : Int) ≤ 24
      · omega
      · rw [decide_eq_true h1, decide_eq_false h2] at h; cases h
    · rw [decide_eq_false h1] at h; cases h
  refine pure_of (G := G.toPg) (fn := Tryd.f106) Tryd.func106 rfl rfl rfl ?_; intro Γ hk
  repeat' (first | ((with_reducible (show POps _ _ _ _ (_ :: _) _ _)); (first | refine pop_read rfl rfl rfl rfl trivial ?_ | refine pop_guard rfl rfl rfl rfl rfl qgd ?_ | refine pop_new rfl rfl rfl rfl trivial ?_ | refine pop_store rfl rfl rfl Nat.zero_lt_one ?_ | refine pop_read rfl rfl rfl rfl qrd ?_ | refine pop_read2 rfl rfl rfl rfl trivial ?_ | refine pop_store rfl rfl rfl qst ?_ | (refine pop_callgv rfl rfl rfl rfl rfl rfl (fun h => wordLength_c s (hg h).1 (by have := hg h; omega)) ?_ rfl rfl rfl ?_; (exact fun h => ⟨h, trivial⟩)) | (refine pop_callgv rfl rfl rfl rfl rfl rfl (fun _ => isKeyword_c s) ?_ rfl rfl rfl ?_; (exact fun h => ⟨h, trivial⟩)) | fail)) | refine pnil ?_ | refine kround_exit ?_ | refine kround_ret ?_ | refine kround_next ?_ | refine kseq_normal ?_ | refine pseq ?_ | refine pregion ?_ | refine pret ?_ | refine kseq_ret ?_ | refine pskip ?_ | refine pblock ?_ | refine pexit ?_ | refine kseq_exit ?_ | refine kblock_hit rfl ?_ | refine kblock_miss rfl ?_ | refine kblock_ret ?_ | refine kblock_normal ?_ | refine kloop_ret ?_ | refine kloop_exit ?_ | refine kcut_ret ?_ | refine kcut_exit ?_ | refine pcond_t rfl ?_ | refine pcond_f rfl ?_ | (with_reducible (show POps _ _ _ _ _ _ _); simp only [List.append_eq, List.cons_append, List.nil_append]))
  refine kretv rfl ⟨trivial, trivial⟩ rfl (eqB ?_)
  unfold nameS
  have e1 : decide ((0 : Int) < (s.size : Int)) = decide (0 < s.size) := by rw [Bool.eq_iff_iff]; simp only [decide_eq_true_eq]; omega
  have e2 : decide ((s.size : Int) ≤ 24) = decide (s.size ≤ 24) := by rw [Bool.eq_iff_iff]; simp only [decide_eq_true_eq]; omega
  have e3 : ((wlenS s : Int) == (s.size : Int)) = decide (wlenS s = s.size) := by rw [Bool.eq_iff_iff]; simp only [decide_eq_true_eq, beq_iff_eq]; omega
  rw [e1, e2, e3, Bool.decide_and]
  cases decide (0 < s.size) <;> cases decide (s.size ≤ 24) <;> cases decide (wlenS s = s.size) <;> cases kwS s <;> rfl
theorem empty_iff (s : ByteArray) : (s.toList == ({ data := #[] } : ByteArray).toList) = !decide (0 < s.size) := by
  by_cases h0 : 0 < s.size
  · rw [empty_eq s h0, decide_eq_true h0]; rfl
  · rw [decide_eq_false h0, ByteArray.toList_eq, ByteArray.toList_eq]
    have : s.data.toList = [] := by
      apply List.length_eq_zero_iff.1
      rw [Array.length_toList]
      have : ¬ 0 < s.data.size := h0
      omega
    rw [this]; rfl
end Go.Proofs.YtcghpepighboaaaDoor
