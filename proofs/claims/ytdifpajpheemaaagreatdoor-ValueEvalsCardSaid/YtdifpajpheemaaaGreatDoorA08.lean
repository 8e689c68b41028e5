/- The tape of payrollgen. -/
import Derived.Test.YtdifpajpheemaaaGreatDoorA04
import Derived.Test.YtdifpajpheemaaaGreatDoorA05
import Derived.Test.YtdifpajpheemaaaGreatDoorA07
set_option linter.unusedSimpArgs false
set_option linter.unusedVariables false
set_option maxRecDepth 100000
namespace Go.Proofs.YtdifpajpheemaaaGreatDoor
theorem new_c (n : Nat) (g : Nat → Int) : RowsC G.P 4 [] [.vsl n 1 (tI g)] (fun r rows => r = .ptr 0 0 0 ∧ rows = [tapeRow n g 0]) := by
  refine rows_of (G := G.toPg) (fn := Tryz.f4) Tryz.func4 rfl rfl rfl ?_; intro Γ hk
  repeat' (first | ((with_reducible (show POps _ _ _ _ (_ :: _) _ _)); (first | refine pop_read rfl rfl rfl rfl trivial ?_ | refine pop_guard rfl rfl rfl rfl rfl qgd ?_ | refine pop_new rfl rfl rfl rfl trivial ?_ | refine pop_store rfl rfl rfl Nat.zero_lt_one ?_ | refine pop_read rfl rfl rfl rfl qrd ?_ | refine pop_read2 rfl rfl rfl rfl trivial ?_ | refine pop_store rfl rfl rfl qst ?_ | fail)) | refine pnil ?_ | refine kround_exit ?_ | refine kround_ret ?_ | refine kround_next ?_ | refine kseq_normal ?_ | refine pseq ?_ | refine pregion ?_ | refine pret ?_ | refine kseq_ret ?_ | refine pskip ?_ | refine pblock ?_ | refine pexit ?_ | refine kseq_exit ?_ | refine kblock_hit rfl ?_ | refine kblock_miss rfl ?_ | refine kblock_ret ?_ | refine kblock_normal ?_ | refine kloop_ret ?_ | refine kloop_exit ?_ | refine kcut_ret ?_ | refine kcut_exit ?_ | refine pcond_t rfl ?_ | refine pcond_f rfl ?_ | (with_reducible (show POps _ _ _ _ _ _ _); simp only [List.append_eq, List.cons_append, List.nil_append]))
  exact kretr Can.refl rfl ⟨trivial, trivial⟩ rfl ⟨rfl, rfl⟩
theorem mod_c (a k : Int) (h1 : 1 ≤ k) (h2 : k ≤ 9223372036854775807) : PureC G.P 39 [vi a, vi k] (fun r => r = vi (a % k)) := by
  obtain ⟨t1, t2, t3, t4⟩ := tmod_cases a k h1
  refine pure_of (G := G.toPg) (fn := Tryz.f39) Tryz.func39 rfl rfl rfl ?_; intro Γ hk
  repeat' (first | ((with_reducible (show POps _ _ _ _ (_ :: _) _ _)); (first | refine pop_read rfl rfl rfl rfl trivial ?_ | refine pop_guard rfl rfl rfl rfl rfl qgd ?_ | refine pop_new rfl rfl rfl rfl trivial ?_ | refine pop_store rfl rfl rfl Nat.zero_lt_one ?_ | refine pop_read rfl rfl rfl rfl qrd ?_ | refine pop_read2 rfl rfl rfl rfl trivial ?_ | refine pop_store rfl rfl rfl qst ?_ | fail)) | refine pnil ?_ | refine kround_exit ?_ | refine kround_ret ?_ | refine kround_next ?_ | refine kseq_normal ?_ | refine pseq ?_ | refine pregion ?_ | refine pret ?_ | refine kseq_ret ?_ | refine pskip ?_ | refine pblock ?_ | refine pexit ?_ | refine kseq_exit ?_ | refine kblock_hit rfl ?_ | refine kblock_miss rfl ?_ | refine kblock_ret ?_ | refine kblock_normal ?_ | refine kloop_ret ?_ | refine kloop_exit ?_ | refine kcut_ret ?_ | refine kcut_exit ?_ | refine pcond_t rfl ?_ | refine pcond_f rfl ?_ | (with_reducible (show POps _ _ _ _ _ _ _); simp only [List.append_eq, List.cons_append, List.nil_append]))
  refine pcond rfl ?_ ?_ <;> intro hc
  · simp at hc
    repeat' (first | ((with_reducible (show POps _ _ _ _ (_ :: _) _ _)); (first | refine pop_read rfl rfl rfl rfl trivial ?_ | refine pop_guard rfl rfl rfl rfl rfl qgd ?_ | refine pop_new rfl rfl rfl rfl trivial ?_ | refine pop_store rfl rfl rfl Nat.zero_lt_one ?_ | refine pop_read rfl rfl rfl rfl qrd ?_ | refine pop_read2 rfl rfl rfl rfl trivial ?_ | refine pop_store rfl rfl rfl qst ?_ | fail)) | refine pnil ?_ | refine kround_exit ?_ | refine kround_ret ?_ | refine kround_next ?_ | refine kseq_normal ?_ | refine pseq ?_ | refine pregion ?_ | refine pret ?_ | refine kseq_ret ?_ | refine pskip ?_ | refine pblock ?_ | refine pexit ?_ | refine kseq_exit ?_ | refine kblock_hit rfl ?_ | refine kblock_miss rfl ?_ | refine kblock_ret ?_ | refine kblock_normal ?_ | refine kloop_ret ?_ | refine kloop_exit ?_ | refine kcut_ret ?_ | refine kcut_exit ?_ | refine pcond_t rfl ?_ | refine pcond_f rfl ?_ | (with_reducible (show POps _ _ _ _ _ _ _); simp only [List.append_eq, List.cons_append, List.nil_append]))
    exact kretv rfl ⟨trivial, trivial⟩ rfl (eqI (by rw [w64 (by omega) (by omega)]; exact t1 hc))
  · simp at hc
    repeat' (first | ((with_reducible (show POps _ _ _ _ (_ :: _) _ _)); (first | refine pop_read rfl rfl rfl rfl trivial ?_ | refine pop_guard rfl rfl rfl rfl rfl qgd ?_ | refine pop_new rfl rfl rfl rfl trivial ?_ | refine pop_store rfl rfl rfl Nat.zero_lt_one ?_ | refine pop_read rfl rfl rfl rfl qrd ?_ | refine pop_read2 rfl rfl rfl rfl trivial ?_ | refine pop_store rfl rfl rfl qst ?_ | fail)) | refine pnil ?_ | refine kround_exit ?_ | refine kround_ret ?_ | refine kround_next ?_ | refine kseq_normal ?_ | refine pseq ?_ | refine pregion ?_ | refine pret ?_ | refine kseq_ret ?_ | refine pskip ?_ | refine pblock ?_ | refine pexit ?_ | refine kseq_exit ?_ | refine kblock_hit rfl ?_ | refine kblock_miss rfl ?_ | refine kblock_ret ?_ | refine kblock_normal ?_ | refine kloop_ret ?_ | refine kloop_exit ?_ | refine kcut_ret ?_ | refine kcut_exit ?_ | refine pcond_t rfl ?_ | refine pcond_f rfl ?_ | (with_reducible (show POps _ _ _ _ _ _ _); simp only [List.append_eq, List.cons_append, List.nil_append]))
    exact kretv rfl ⟨trivial, trivial⟩ rfl (eqI (t2 (by omega)))
end Go.Proofs.YtdifpajpheemaaaGreatDoor
namespace Go.Proofs.YtdifpajpheemaaaGreatDoor
def TapC (P : Program) (f : FuncId) (args : List PV) (post : PV → Prop) : Prop := ∀ (n : Nat) (g : Nat → Int) (at_ : Int), n ≤ 9223372036854775807 → 0 ≤ at_ → at_ ≤ n →
  PtrC P f (tapeRow n g at_) args (fun r row' => post r ∧ ∃ at' : Int, 0 ≤ at' ∧ at' ≤ n ∧ row' = tapeRow n g at')
theorem TapC.mono {P : Program} {f : FuncId} {args : List PV} {post post' : PV → Prop} (h : TapC P f args post) (hp : ∀ r, post r → post' r) : TapC P f args post' :=
  fun n g at_ h1 h2 h3 => (h n g at_ h1 h2 h3).mono fun r row' ⟨a, b⟩ => ⟨hp r a, b⟩
section
variable {G : Pg2} {N : Nat} {Γ : Fr} {st : PSt} {K : Exit → PSt → Prop} {K' : PSt → Prop} {ops : Array Oper} {o : Oper} {rest : List Oper} {d : Nat} {f : FuncId} {x x0 x1 : Operand} {xs : List Operand} {args : Array Operand} {tys : Array TypeId} {c : Nat → PV} {l : Nat} {n : Nat} {g : Nat → Int} {at_ : Int} {qs : List PV} {post : PV → Prop} {m : Row → List Row}
theorem pop_tap (hg : o.guard = none) (hd : o.dst = some d) (hN : Nat.blt d N = true) (ho : o.op = .call ⟨.value x, args, tys⟩) (hx : st.ev x = .clo f 0 c) (ha0 : args.toList = x0 :: xs) (hp : st.ev x0 = .ptr l 0 0) (hrow : rowAt st.mem l = some (tapeRow n g at_)) (hm : ∀ row', frzK [] st.mem 0 (fun m0 => setM m0 l row' some) = some (m row'))
    (hc : TapC G.P f qs post) (hn : n ≤ 9223372036854775807) (b1 : 0 ≤ at_) (b2 : at_ ≤ n) (hq : xs.map st.ev = qs) (hcl : clBL qs = true)
    (h : ∀ (at' : Int) r, 0 ≤ at' → at' ≤ n → post r → POps G.toPg N Γ ops rest (PSt.put ⟨st.tm, m (tapeRow n g at')⟩ d r) K) : POps G.toPg N Γ ops (o :: rest) st K :=
  pop_ptr [] hg hd hN ho hx ha0 hp hrow rfl hm rfl (tape_cl _ _ _) (by simp) (hc n g at_ hn b1 b2) (by subst hq; exact args_cl _ hcl) (by rintro r row' ⟨h1, at', h2, h3, rfl⟩; exact h at' r h2 h3 h1)
theorem pst_tap (hg : o.guard = none) (hd : o.dst = some d) (hN : Nat.blt d N = true) (ho : o.op = .call ⟨.value x, args, tys⟩) (hx : st.ev x = .clo f 0 c) (ha0 : args.toList = x0 :: xs) (hp : st.ev x0 = .ptr l 0 0) (hrow : rowAt st.mem l = some (tapeRow n g at_)) (hm : ∀ row', frzK [] st.mem 0 (fun m0 => setM m0 l row' some) = some (m row'))
    (hc : TapC G.P f qs post) (hn : n ≤ 9223372036854775807) (b1 : 0 ≤ at_) (b2 : at_ ≤ n) (hq : xs.map st.ev = qs) (hcl : clBL qs = true)
    (h : ∀ (at' : Int) r, 0 ≤ at' → at' ≤ n → post r → K' (PSt.put ⟨st.tm, m (tapeRow n g at')⟩ d r)) : PStep G N Γ ops o st [l] false K' :=
  pst_ptr [] hg hd hN ho hx ha0 hp hrow rfl hm rfl (tape_cl _ _ _) (by simp) (hc n g at_ hn b1 b2) (by subst hq; exact args_cl _ hcl) (by rintro r row' ⟨h1, at', h2, h3, rfl⟩; exact h at' r h2 h3 h1)
theorem pop_tapl {R M : Nat} {ps : List PV} (hg : o.guard = none) (hd : o.dst = some d) (hN : Nat.blt d N = true) (ho : o.op = .call ⟨.value x, args, tys⟩) (hx : st.ev x = .clo f 0 c) (ha0 : args.toList = [x0, x1]) (hp : st.ev x0 = .ptr l 0 0) (hp1 : st.ev x1 = .lsl R 0 M) (hR : rowAt st.mem R = some ⟨.own, false, M, 1, fun a b => nthP ps (a * 1 + b)⟩) (hps : viL (unL ps) = ps) (hM : (unL ps).length = M) (hRk : Γ.k0 ≤ R)
    (hrow : rowAt st.mem l = some (tapeRow n g at_)) (hm : ∀ row', frzK [R] st.mem 0 (fun m0 => setM m0 l row' some) = some (m row')) (hlR : ([R].any (Nat.beq l)) = false)
    (hc : TapC G.P f [.vsl M 1 (vlist (unL ps))] post) (hn : n ≤ 9223372036854775807) (b1 : 0 ≤ at_) (b2 : at_ ≤ n)
    (h : ∀ (at' : Int) r, 0 ≤ at' → at' ≤ n → post r → POps G.toPg N Γ ops rest (PSt.put ⟨st.tm, m (tapeRow n g at')⟩ d r) K) : POps G.toPg N Γ ops (o :: rest) st K :=
  pop_ptr [R] hg hd hN ho hx ha0 hp hrow rfl hm hlR (tape_cl _ _ _) (by intro l' hl'; simp at hl'; omega) (hc n g at_ hn b1 b2) (by simp only [List.map_cons, List.map_nil, hp1]; exact ⟨argPick hR (by simp) hps hM, trivial⟩) (by rintro r row' ⟨h1, at', h2, h3, rfl⟩; exact h at' r h2 h3 h1)
theorem pst_tapl {R M : Nat} {ps : List PV} (hg : o.guard = none) (hd : o.dst = some d) (hN : Nat.blt d N = true) (ho : o.op = .call ⟨.value x, args, tys⟩) (hx : st.ev x = .clo f 0 c) (ha0 : args.toList = [x0, x1]) (hp : st.ev x0 = .ptr l 0 0) (hp1 : st.ev x1 = .lsl R 0 M) (hR : rowAt st.mem R = some ⟨.own, false, M, 1, fun a b => nthP ps (a * 1 + b)⟩) (hps : viL (unL ps) = ps) (hM : (unL ps).length = M) (hRk : Γ.k0 ≤ R)
    (hrow : rowAt st.mem l = some (tapeRow n g at_)) (hm : ∀ row', frzK [R] st.mem 0 (fun m0 => setM m0 l row' some) = some (m row')) (hlR : ([R].any (Nat.beq l)) = false)
    (hc : TapC G.P f [.vsl M 1 (vlist (unL ps))] post) (hn : n ≤ 9223372036854775807) (b1 : 0 ≤ at_) (b2 : at_ ≤ n)
    (h : ∀ (at' : Int) r, 0 ≤ at' → at' ≤ n → post r → K' (PSt.put ⟨st.tm, m (tapeRow n g at')⟩ d r)) : PStep G N Γ ops o st [l] false K' :=
  pst_ptr [R] hg hd hN ho hx ha0 hp hrow rfl hm hlR (tape_cl _ _ _) (by intro l' hl'; simp at hl'; omega) (hc n g at_ hn b1 b2) (by simp only [List.map_cons, List.map_nil, hp1]; exact ⟨argPick hR (by simp) hps hM, trivial⟩) (by rintro r row' ⟨h1, at', h2, h3, rfl⟩; exact h at' r h2 h3 h1)
end
section
variable {G : Pg2} {N : Nat} {Γ : Fr} {st : PSt} {K : Exit → PSt → Prop} {ops : Array Oper} {o : Oper} {rest : List Oper} {d : Nat} {f : FuncId} {x x0 : Operand} {xs : List Operand} {args : Array Operand} {tys : Array TypeId} {c : Nat → PV} {l : Nat} {n : Nat} {g : Nat → Int} {at_ : Int} {qs : List PV} {post : PV → Prop} {m : Row → List Row} {H : List Nat} {ni fin : Bool} {M : Nat} {ls : Array Bool} {i : Nat} {s : Sched} {K' : PSt → Prop}
theorem t1 (hc : TapC G.P f qs post) (hn : n ≤ 9223372036854775807) (h : ∀ (at' : Int) r, 0 ≤ at' → at' ≤ n → post r → POps G.toPg N Γ ops rest (PSt.put ⟨st.tm, m (tapeRow n g at')⟩ d r) K) (hg : o.guard = none := by exact rfl) (hd : o.dst = some d := by exact rfl) (hN : Nat.blt d N = true := by exact rfl) (ho : o.op = .call ⟨.value x, args, tys⟩ := by exact rfl) (hx : st.ev x = .clo f 0 c := by exact rfl) (ha0 : args.toList = x0 :: xs := by exact rfl) (hp : st.ev x0 = .ptr l 0 0 := by exact rfl) (hrow : rowAt st.mem l = some (tapeRow n g at_) := by exact rfl) (hm : ∀ row', frzK [] st.mem 0 (fun m0 => setM m0 l row' some) = some (m row') := by exact fun _ => rfl) (b1 : 0 ≤ at_ := by assumption) (b2 : at_ ≤ n := by assumption) (hq : xs.map st.ev = qs := by exact rfl) (hcl : clBL qs = true := by exact rfl) : POps G.toPg N Γ ops (o :: rest) st K := pop_tap hg hd hN ho hx ha0 hp hrow hm hc hn b1 b2 hq hcl h
theorem t2 (hc : TapC G.P f qs post) (hn : n ≤ 9223372036854775807) (h : ∀ (at' : Int) r, 0 ≤ at' → at' ≤ n → post r → PS G N Γ ops H (ni && false) fin s M (ls.setIfInBounds i true) (PSt.put ⟨st.tm, m (tapeRow n g at')⟩ d r) K) (hi : opAt ops.toList i = some o := by exact rfl) (hg : o.guard = none := by exact rfl) (hd : o.dst = some d := by exact rfl) (hN : Nat.blt d N = true := by exact rfl) (ho : o.op = .call ⟨.value x, args, tys⟩ := by exact rfl) (hx : st.ev x = .clo f 0 c := by exact rfl) (ha0 : args.toList = x0 :: xs := by exact rfl) (hp : st.ev x0 = .ptr l 0 0 := by exact rfl) (hch : chB H [l] = true := by exact rfl) (hH : inB st.mem.length H = true := by exact rfl) (hrow : rowAt st.mem l = some (tapeRow n g at_) := by exact rfl) (hm : ∀ row', frzK [] st.mem 0 (fun m0 => setM m0 l row' some) = some (m row') := by exact fun _ => rfl) (b1 : 0 ≤ at_ := by assumption) (b2 : at_ ≤ n := by assumption) (hq : xs.map st.ev = qs := by exact rfl) (hcl : clBL qs = true := by exact rfl) : PS G N Γ ops H ni fin (.one i :: s) M ls st K := xs_one (ch := [l]) hi hch hH (pst_tap hg hd hN ho hx ha0 hp hrow hm hc hn b1 b2 hq hcl h)
theorem t3 (hc : TapC G.P f qs post) (hn : n ≤ 9223372036854775807) {k : Bool → PSt → Prop} (h : ∀ (at' : Int) r, 0 ≤ at' → at' ≤ n → post r → k false (PSt.put ⟨st.tm, m (tapeRow n g at')⟩ d r)) (hi : opAt ops.toList i = some o := by exact rfl) (hg : o.guard = none := by exact rfl) (hd : o.dst = some d := by exact rfl) (hN : Nat.blt d N = true := by exact rfl) (ho : o.op = .call ⟨.value x, args, tys⟩ := by exact rfl) (hx : st.ev x = .clo f 0 c := by exact rfl) (ha0 : args.toList = x0 :: xs := by exact rfl) (hp : st.ev x0 = .ptr l 0 0 := by exact rfl) (hch : chB H [l] = true := by exact rfl) (hrow : rowAt st.mem l = some (tapeRow n g at_) := by exact rfl) (hm : ∀ row', frzK [] st.mem 0 (fun m0 => setM m0 l row' some) = some (m row') := by exact fun _ => rfl) (b1 : 0 ≤ at_ := by assumption) (b2 : at_ ≤ n := by assumption) (hq : xs.map st.ev = qs := by exact rfl) (hcl : clBL qs = true := by exact rfl) : ∃ o ch nk, opAt ops.toList i = some o ∧ chB H ch = true ∧ PStep G N Γ ops o st ch nk (k nk) := ⟨o, [l], false, hi, hch, pst_tap hg hd hN ho hx ha0 hp hrow hm hc hn b1 b2 hq hcl h⟩
end
theorem ktap {tab : List TI} {res : List ResultVar} {post : PV → Prop} {n : Nat} {g : Nat → Int} {at' : Int} {st : PSt} {ps : List PV} {pre : Prop} (h4 : rowAt st.mem 0 = some (tapeRow n g at')) (b1 : 0 ≤ at') (b2 : at' ≤ n) (h1 : presl tab st res = some (ps, pre)) (h2 : pre) (h3 : clBL ps = true) (h7 : post (pack ps)) : KretP tab res (fun r row' => post r ∧ ∃ at' : Int, 0 ≤ at' ∧ at' ≤ n ∧ row' = tapeRow n g at') .ret st :=
  kretp h1 h2 h3 h4 rfl (tape_cl _ _ _) ⟨h7, at', b1, b2, rfl⟩
theorem ktapL {tab : List TI} {res : List ResultVar} {post : PV → Prop} {n : Nat} {g : Nat → Int} {at' : Int} {st : PSt} {ps qs : List PV} {pre : Prop} (L : List Nat) (h4 : rowAt st.mem 0 = some (tapeRow n g at')) (b1 : 0 ≤ at') (b2 : at' ≤ n) (hL : ∀ l, l ∈ L → 1 ≤ l) (h1 : presl tab st res = some (ps, pre)) (h2 : pre) (h3 : ArgsOk st.mem L ps qs) (h7 : post (pack qs)) : KretP tab res (fun r row' => post r ∧ ∃ at' : Int, 0 ≤ at' ∧ at' ≤ n ∧ row' = tapeRow n g at') .ret st :=
  ⟨.inr rfl, ps, pre, L, qs, _, h1, h2, hL, h3, h4, rfl, tape_cl _ _ _, h7, at', b1, b2, rfl⟩
theorem next_t (k : Int) (hk1 : k ≤ 9223372036854775807) : TapC G.P 15 [vi k] (fun r => ∃ x : Int, r = vi x ∧ 0 ≤ x ∧ (x < k ∨ x = 0)) := by
  intro n g at_ hn h1 h2
  refine ptr_of (G := G.toPg) (fn := Tryz.f15) Tryz.func15 rfl rfl rfl ?_; intro Γ hk
  repeat' (first | ((with_reducible (show POps _ _ _ _ (_ :: _) _ _)); (first | refine pop_read rfl rfl rfl rfl trivial ?_ | refine pop_guard rfl rfl rfl rfl rfl qgd ?_ | refine pop_new rfl rfl rfl rfl trivial ?_ | refine pop_store rfl rfl rfl Nat.zero_lt_one ?_ | refine pop_read rfl rfl rfl rfl qrd ?_ | refine pop_read2 rfl rfl rfl rfl trivial ?_ | refine pop_store rfl rfl rfl qst ?_ | fail)) | refine pnil ?_ | refine kround_exit ?_ | refine kround_ret ?_ | refine kround_next ?_ | refine kseq_normal ?_ | refine pseq ?_ | refine pregion ?_ | refine pret ?_ | refine kseq_ret ?_ | refine pskip ?_ | refine pblock ?_ | refine pexit ?_ | refine kseq_exit ?_ | refine kblock_hit rfl ?_ | refine kblock_miss rfl ?_ | refine kblock_ret ?_ | refine kblock_normal ?_ | refine kloop_ret ?_ | refine kloop_exit ?_ | refine kcut_ret ?_ | refine kcut_exit ?_ | refine pcond_t rfl ?_ | refine pcond_f rfl ?_ | (with_reducible (show POps _ _ _ _ _ _ _); simp only [List.append_eq, List.cons_append, List.nil_append]))
  (refine any_start [0] 14 rfl ?_); (first | refine aT 0 ?_ | refine aT2 0 ?_ | (refine aC 0 ?_ ?_; rotate_left)); (first | refine aT 1 ?_ | refine aT2 1 ?_ | (refine aC 1 ?_ ?_; rotate_left)); (first | refine aT 2 ?_ | refine aT2 2 ?_ | (refine aC 2 ?_ ?_; rotate_left)); (first | refine any_takeg 3 rfl (by kernel_rfl) (by kernel_rfl) (by kernel_rfl) rfl rfl rfl rfl rfl rfl qtg ?_ | (refine any_takeg 3 rfl (by kernel_rfl) (by kernel_rfl) (by kernel_rfl) rfl rfl rfl rfl rfl rfl (fun h => ?_) ?_; rotate_left)); (first | refine any_takeg 4 rfl (by kernel_rfl) (by kernel_rfl) (by kernel_rfl) rfl rfl rfl rfl rfl rfl qtg ?_ | (refine any_takeg 4 rfl (by kernel_rfl) (by kernel_rfl) (by kernel_rfl) rfl rfl rfl rfl rfl rfl (fun h => ?_) ?_; rotate_left)); (first | refine any_takeg 5 rfl (by kernel_rfl) (by kernel_rfl) (by kernel_rfl) rfl rfl rfl rfl rfl rfl qtg ?_ | (refine any_takeg 5 rfl (by kernel_rfl) (by kernel_rfl) (by kernel_rfl) rfl rfl rfl rfl rfl rfl (fun h => ?_) ?_; rotate_left)); (first | refine any_takeg 6 rfl (by kernel_rfl) (by kernel_rfl) (by kernel_rfl) rfl rfl rfl rfl rfl rfl qtg ?_ | (refine any_takeg 6 rfl (by kernel_rfl) (by kernel_rfl) (by kernel_rfl) rfl rfl rfl rfl rfl rfl (fun h => ?_) ?_; rotate_left)); (first | refine any_takeg 7 rfl (by kernel_rfl) (by kernel_rfl) (by kernel_rfl) rfl rfl rfl rfl rfl rfl qtg ?_ | (refine any_takeg 7 rfl (by kernel_rfl) (by kernel_rfl) (by kernel_rfl) rfl rfl rfl rfl rfl rfl (fun h => ?_) ?_; rotate_left)); (first | refine any_takeg 8 rfl (by kernel_rfl) (by kernel_rfl) (by kernel_rfl) rfl rfl rfl rfl rfl rfl qtg ?_ | (refine any_takeg 8 rfl (by kernel_rfl) (by kernel_rfl) (by kernel_rfl) rfl rfl rfl rfl rfl rfl (fun h => ?_) ?_; rotate_left)); (first | refine any_takeg 9 rfl (by kernel_rfl) (by kernel_rfl) (by kernel_rfl) rfl rfl rfl rfl rfl rfl qtg ?_ | (refine any_takeg 9 rfl (by kernel_rfl) (by kernel_rfl) (by kernel_rfl) rfl rfl rfl rfl rfl rfl (fun h => ?_) ?_; rotate_left)); (first | refine any_takeg 10 rfl (by kernel_rfl) (by kernel_rfl) (by kernel_rfl) rfl rfl rfl rfl rfl rfl qtg ?_ | (refine any_takeg 10 rfl (by kernel_rfl) (by kernel_rfl) (by kernel_rfl) rfl rfl rfl rfl rfl rfl (fun h => ?_) ?_; rotate_left)); (first | refine any_takeg 11 rfl (by kernel_rfl) (by kernel_rfl) (by kernel_rfl) rfl rfl rfl rfl rfl rfl qtg ?_ | (refine any_takeg 11 rfl (by kernel_rfl) (by kernel_rfl) (by kernel_rfl) rfl rfl rfl rfl rfl rfl (fun h => ?_) ?_; rotate_left)); (first | refine any_takeg 12 rfl (by kernel_rfl) (by kernel_rfl) (by kernel_rfl) rfl rfl rfl rfl rfl rfl qtg ?_ | (refine any_takeg 12 rfl (by kernel_rfl) (by kernel_rfl) (by kernel_rfl) rfl rfl rfl rfl rfl rfl (fun h => ?_) ?_; rotate_left)); (first | refine aT 13 ?_ | refine aT2 13 ?_ | (refine aC 13 ?_ ?_; rotate_left)); (refine any_done (by kernel_rfl) ?_)
  repeat' (first | ((with_reducible (show POps _ _ _ _ (_ :: _) _ _)); (first | refine pop_read rfl rfl rfl rfl trivial ?_ | refine pop_guard rfl rfl rfl rfl rfl qgd ?_ | refine pop_new rfl rfl rfl rfl trivial ?_ | refine pop_store rfl rfl rfl Nat.zero_lt_one ?_ | refine pop_read rfl rfl rfl rfl qrd ?_ | refine pop_read2 rfl rfl rfl rfl trivial ?_ | refine pop_store rfl rfl rfl qst ?_ | fail)) | refine pnil ?_ | refine kround_exit ?_ | refine kround_ret ?_ | refine kround_next ?_ | refine kseq_normal ?_ | refine pseq ?_ | refine pregion ?_ | refine pret ?_ | refine kseq_ret ?_ | refine pskip ?_ | refine pblock ?_ | refine pexit ?_ | refine kseq_exit ?_ | refine kblock_hit rfl ?_ | refine kblock_miss rfl ?_ | refine kblock_ret ?_ | refine kblock_normal ?_ | refine kloop_ret ?_ | refine kloop_exit ?_ | refine kcut_ret ?_ | refine kcut_exit ?_ | refine pcond_t rfl ?_ | refine pcond_f rfl ?_ | (with_reducible (show POps _ _ _ _ _ _ _); simp only [List.append_eq, List.cons_append, List.nil_append]))
  refine pcond rfl ?_ ?_ <;> intro hc
  · repeat' (first | ((with_reducible (show POps _ _ _ _ (_ :: _) _ _)); (first | refine pop_read rfl rfl rfl rfl trivial ?_ | refine pop_guard rfl rfl rfl rfl rfl qgd ?_ | refine pop_new rfl rfl rfl rfl trivial ?_ | refine pop_store rfl rfl rfl Nat.zero_lt_one ?_ | refine pop_read rfl rfl rfl rfl qrd ?_ | refine pop_read2 rfl rfl rfl rfl trivial ?_ | refine pop_store rfl rfl rfl qst ?_ | fail)) | refine pnil ?_ | refine kround_exit ?_ | refine kround_ret ?_ | refine kround_next ?_ | refine kseq_normal ?_ | refine pseq ?_ | refine pregion ?_ | refine pret ?_ | refine kseq_ret ?_ | refine pskip ?_ | refine pblock ?_ | refine pexit ?_ | refine kseq_exit ?_ | refine kblock_hit rfl ?_ | refine kblock_miss rfl ?_ | refine kblock_ret ?_ | refine kblock_normal ?_ | refine kloop_ret ?_ | refine kloop_exit ?_ | refine kcut_ret ?_ | refine kcut_exit ?_ | refine pcond_t rfl ?_ | refine pcond_f rfl ?_ | (with_reducible (show POps _ _ _ _ _ _ _); simp only [List.append_eq, List.cons_append, List.nil_append]))
    exact ktap rfl h1 h2 rfl ⟨trivial, trivial⟩ rfl ⟨0, rfl, by omega, .inr rfl⟩
  · have hb : 1 ≤ k ∧ at_ < n := by
      by_cases hk2 : k < 1
      · simp [hk2] at hc
      · simp [hk2] at hc; omega
    repeat' (first | ((with_reducible (show POps _ _ _ _ (_ :: _) _ _)); (first | refine pop_read rfl rfl rfl rfl trivial ?_ | refine pop_guard rfl rfl rfl rfl rfl qgd ?_ | refine pop_new rfl rfl rfl rfl trivial ?_ | refine pop_store rfl rfl rfl Nat.zero_lt_one ?_ | refine pop_read rfl rfl rfl rfl qrd ?_ | refine pop_read2 rfl rfl rfl rfl trivial ?_ | refine pop_store rfl rfl rfl qst ?_ | fail)) | refine pnil ?_ | refine kround_exit ?_ | refine kround_ret ?_ | refine kround_next ?_ | refine kseq_normal ?_ | refine pseq ?_ | refine pregion ?_ | refine pret ?_ | refine kseq_ret ?_ | refine pskip ?_ | refine pblock ?_ | refine pexit ?_ | refine kseq_exit ?_ | refine kblock_hit rfl ?_ | refine kblock_miss rfl ?_ | refine kblock_ret ?_ | refine kblock_normal ?_ | refine kloop_ret ?_ | refine kloop_exit ?_ | refine kcut_ret ?_ | refine kcut_exit ?_ | refine pcond_t rfl ?_ | refine pcond_f rfl ?_ | (with_reducible (show POps _ _ _ _ _ _ _); simp only [List.append_eq, List.cons_append, List.nil_append]))
    rw [w64 (n := at_ + 1) (by omega) (by omega)]
    (refine any_start [0] 14 rfl ?_); (first | refine aT 0 ?_ | refine aT2 0 ?_ | (refine aC 0 ?_ ?_; rotate_left)); (first | refine aT 1 ?_ | refine aT2 1 ?_ | (refine aC 1 ?_ ?_; rotate_left)); (first | refine aT 2 ?_ | refine aT2 2 ?_ | (refine aC 2 ?_ ?_; rotate_left)); (first | refine aT 3 ?_ | refine aT2 3 ?_ | (refine aC 3 ?_ ?_; rotate_left)); (first | refine aT 4 ?_ | refine aT2 4 ?_ | (refine aC 4 ?_ ?_; rotate_left)); (first | refine aT 5 ?_ | refine aT2 5 ?_ | (refine aC 5 ?_ ?_; rotate_left)); (first | refine aT 6 ?_ | refine aT2 6 ?_ | (refine aC 6 ?_ ?_; rotate_left)); (first | refine aT 7 ?_ | refine aT2 7 ?_ | (refine aC 7 ?_ ?_; rotate_left)); (first | refine aT 8 ?_ | refine aT2 8 ?_ | (refine aC 8 ?_ ?_; rotate_left)); (first | refine aT 9 ?_ | refine aT2 9 ?_ | (refine aC 9 ?_ ?_; rotate_left)); (first | refine aT 10 ?_ | refine aT2 10 ?_ | (refine aC 10 ?_ ?_; rotate_left)); (first | refine aT 11 ?_ | refine aT2 11 ?_ | (refine aC 11 ?_ ?_; rotate_left)); (refine aO 12 rfl (ch := [])  (pst_callv rfl rfl rfl rfl rfl (mod_c _ _ hb.1 hk1) rfl rfl rfl ?_)); (first | refine aT 13 ?_ | refine aT2 13 ?_ | (refine aC 13 ?_ ?_; rotate_left)); (refine any_done (by kernel_rfl) ?_)
    · repeat' (first | ((with_reducible (show POps _ _ _ _ (_ :: _) _ _)); (first | refine pop_read rfl rfl rfl rfl trivial ?_ | refine pop_guard rfl rfl rfl rfl rfl qgd ?_ | refine pop_new rfl rfl rfl rfl trivial ?_ | refine pop_store rfl rfl rfl Nat.zero_lt_one ?_ | refine pop_read rfl rfl rfl rfl qrd ?_ | refine pop_read2 rfl rfl rfl rfl trivial ?_ | refine pop_store rfl rfl rfl qst ?_ | fail)) | refine pnil ?_ | refine kround_exit ?_ | refine kround_ret ?_ | refine kround_next ?_ | refine kseq_normal ?_ | refine pseq ?_ | refine pregion ?_ | refine pret ?_ | refine kseq_ret ?_ | refine pskip ?_ | refine pblock ?_ | refine pexit ?_ | refine kseq_exit ?_ | refine kblock_hit rfl ?_ | refine kblock_miss rfl ?_ | refine kblock_ret ?_ | refine kblock_normal ?_ | refine kloop_ret ?_ | refine kloop_exit ?_ | refine kcut_ret ?_ | refine kcut_exit ?_ | refine pcond_t rfl ?_ | refine pcond_f rfl ?_ | (with_reducible (show POps _ _ _ _ _ _ _); simp only [List.append_eq, List.cons_append, List.nil_append]))
      have e0 := Int.emod_nonneg (g (IntKind.i64.wrap (at_ + 1 - 1)).toNat) (show k ≠ 0 by omega)
      have e1 := Int.emod_lt_of_pos (g (IntKind.i64.wrap (at_ + 1 - 1)).toNat) (show 0 < k by omega)
      exact ktap rfl (show 0 ≤ at_ + 1 by omega) (by omega) rfl ⟨trivial, trivial⟩ rfl ⟨_, rfl, e0, .inl e1⟩
    all_goals
      have e2 : IntKind.i64.wrap (at_ + 1 - 1) = at_ := by rw [w64 (by omega) (by omega)]; omega
      have e3 : 0 ≤ IntKind.i64.wrap (at_ + 1 - 1) ∧ IntKind.i64.wrap (at_ + 1 - 1) < n := by rw [e2]; omega
      have e4 : (IntKind.i64.wrap (at_ + 1 - 1)).toNat < n := by rw [e2]; omega
      first
        | exact e3
        | exact e4
section
variable {N : Nat} {Γ : Fr} {st : PSt} {K : Exit → PSt → Prop} {ops : Array Oper} {o : Oper} {rest : List Oper} {d : Nat} {x x0 : Operand} {xs : List Operand} {args : Array Operand} {tys : Array TypeId} {c : Nat → PV} {l : Nat} {n : Nat} {g : Nat → Int} {at_ : Int} {k : Int} {m : Row → List Row} {H : List Nat} {ni fin : Bool} {M : Nat} {ls : Array Bool} {i : Nat} {s : Sched} {K' : PSt → Prop}
theorem tn1 (hn : n ≤ 9223372036854775807) (h : ∀ (at' : Int), 0 ≤ at' → at' ≤ n → ∀ (x : Int), 0 ≤ x → (x < k ∨ x = 0) → POps G.toPg N Γ ops rest (PSt.put ⟨st.tm, m (tapeRow n g at')⟩ d (vi x)) K) (hg : o.guard = none := by exact rfl) (hd : o.dst = some d := by exact rfl) (hN : Nat.blt d N = true := by exact rfl) (ho : o.op = .call ⟨.value x, args, tys⟩ := by exact rfl) (hx : st.ev x = .clo 15 0 c := by exact rfl) (ha0 : args.toList = x0 :: xs := by exact rfl) (hp : st.ev x0 = .ptr l 0 0 := by exact rfl) (hrow : rowAt st.mem l = some (tapeRow n g at_) := by exact rfl) (hm : ∀ row', frzK [] st.mem 0 (fun m0 => setM m0 l row' some) = some (m row') := by exact fun _ => rfl) (b1 : 0 ≤ at_ := by assumption) (b2 : at_ ≤ n := by assumption) (hq : xs.map st.ev = [vi k] := by exact rfl) (hk : k ≤ 9223372036854775807 := by omega) : POps G.toPg N Γ ops (o :: rest) st K := t1 (next_t k hk) hn (by rintro at' _ b1 b2 ⟨x, rfl, h1, h2⟩; exact h at' b1 b2 x h1 h2) hg hd hN ho hx ha0 hp hrow hm b1 b2 hq rfl
theorem tn2 (hn : n ≤ 9223372036854775807) (h : ∀ (at' : Int), 0 ≤ at' → at' ≤ n → ∀ (x : Int), 0 ≤ x → (x < k ∨ x = 0) → PS G N Γ ops H (ni && false) fin s M (ls.setIfInBounds i true) (PSt.put ⟨st.tm, m (tapeRow n g at')⟩ d (vi x)) K) (hi : opAt ops.toList i = some o := by exact rfl) (hg : o.guard = none := by exact rfl) (hd : o.dst = some d := by exact rfl) (hN : Nat.blt d N = true := by exact rfl) (ho : o.op = .call ⟨.value x, args, tys⟩ := by exact rfl) (hx : st.ev x = .clo 15 0 c := by exact rfl) (ha0 : args.toList = x0 :: xs := by exact rfl) (hp : st.ev x0 = .ptr l 0 0 := by exact rfl) (hch : chB H [l] = true := by exact rfl) (hH : inB st.mem.length H = true := by exact rfl) (hrow : rowAt st.mem l = some (tapeRow n g at_) := by exact rfl) (hm : ∀ row', frzK [] st.mem 0 (fun m0 => setM m0 l row' some) = some (m row') := by exact fun _ => rfl) (b1 : 0 ≤ at_ := by assumption) (b2 : at_ ≤ n := by assumption) (hq : xs.map st.ev = [vi k] := by exact rfl) (hk : k ≤ 9223372036854775807 := by omega) : PS G N Γ ops H ni fin (.one i :: s) M ls st K := t2 (next_t k hk) hn (by rintro at' _ b1 b2 ⟨x, rfl, h1, h2⟩; exact h at' b1 b2 x h1 h2) hi hg hd hN ho hx ha0 hp hch hH hrow hm b1 b2 hq rfl
theorem tn3 (hn : n ≤ 9223372036854775807) {kk : Bool → PSt → Prop} (h : ∀ (at' : Int), 0 ≤ at' → at' ≤ n → ∀ (x : Int), 0 ≤ x → (x < k ∨ x = 0) → kk false (PSt.put ⟨st.tm, m (tapeRow n g at')⟩ d (vi x))) (hi : opAt ops.toList i = some o := by exact rfl) (hg : o.guard = none := by exact rfl) (hd : o.dst = some d := by exact rfl) (hN : Nat.blt d N = true := by exact rfl) (ho : o.op = .call ⟨.value x, args, tys⟩ := by exact rfl) (hx : st.ev x = .clo 15 0 c := by exact rfl) (ha0 : args.toList = x0 :: xs := by exact rfl) (hp : st.ev x0 = .ptr l 0 0 := by exact rfl) (hch : chB H [l] = true := by exact rfl) (hrow : rowAt st.mem l = some (tapeRow n g at_) := by exact rfl) (hm : ∀ row', frzK [] st.mem 0 (fun m0 => setM m0 l row' some) = some (m row') := by exact fun _ => rfl) (b1 : 0 ≤ at_ := by assumption) (b2 : at_ ≤ n := by assumption) (hq : xs.map st.ev = [vi k] := by exact rfl) (hk : k ≤ 9223372036854775807 := by omega) : ∃ o ch nk, opAt ops.toList i = some o ∧ chB H ch = true ∧ PStep G N Γ ops o st ch nk (kk nk) := t3 (next_t k hk) hn (by rintro at' _ b1 b2 ⟨x, rfl, h1, h2⟩; exact h at' b1 b2 x h1 h2) hi hg hd hN ho hx ha0 hp hch hrow hm b1 b2 hq rfl
theorem pz {f : FuncId} {qs : List PV} {post : PV → Prop} (hc : TapC G.P f qs post) (hn : n ≤ 9223372036854775807) (h : ∀ (at' : Int) r, 0 ≤ at' → at' ≤ n → post r → K' (PSt.put ⟨st.tm, m (tapeRow n g at')⟩ d r)) (hg : o.guard = none := by exact rfl) (hd : o.dst = some d := by exact rfl) (hN : Nat.blt d N = true := by exact rfl) (ho : o.op = .call ⟨.value x, args, tys⟩ := by exact rfl) (hx : st.ev x = .clo f 0 c := by exact rfl) (ha0 : args.toList = x0 :: xs := by exact rfl) (hp : st.ev x0 = .ptr l 0 0 := by exact rfl) (hrow : rowAt st.mem l = some (tapeRow n g at_) := by exact rfl) (hm : ∀ row', frzK [] st.mem 0 (fun m0 => setM m0 l row' some) = some (m row') := by exact fun _ => rfl) (b1 : 0 ≤ at_ := by assumption) (b2 : at_ ≤ n := by assumption) (hq : xs.map st.ev = qs := by exact rfl) (hcl : clBL qs = true := by exact rfl) : PStep G N Γ ops o st [l] false K' := pst_tap hg hd hN ho hx ha0 hp hrow hm hc hn b1 b2 hq hcl h
theorem pzn (hn : n ≤ 9223372036854775807) (h : ∀ (at' : Int) (r : PV), 0 ≤ at' → at' ≤ n → (∃ x : Int, r = vi x ∧ 0 ≤ x ∧ (x < k ∨ x = 0)) → K' (PSt.put ⟨st.tm, m (tapeRow n g at')⟩ d r)) (hg : o.guard = none := by exact rfl) (hd : o.dst = some d := by exact rfl) (hN : Nat.blt d N = true := by exact rfl) (ho : o.op = .call ⟨.value x, args, tys⟩ := by exact rfl) (hx : st.ev x = .clo 15 0 c := by exact rfl) (ha0 : args.toList = x0 :: xs := by exact rfl) (hp : st.ev x0 = .ptr l 0 0 := by exact rfl) (hrow : rowAt st.mem l = some (tapeRow n g at_) := by exact rfl) (hm : ∀ row', frzK [] st.mem 0 (fun m0 => setM m0 l row' some) = some (m row') := by exact fun _ => rfl) (b1 : 0 ≤ at_ := by assumption) (b2 : at_ ≤ n := by assumption) (hq : xs.map st.ev = [vi k] := by exact rfl) (hk : k ≤ 9223372036854775807 := by omega) : PStep G N Γ ops o st [l] false K' := pst_tap hg hd hN ho hx ha0 hp hrow hm (next_t k hk) hn b1 b2 hq rfl h
end
theorem pick_t (l : List Int) (m : Nat) (hm : l.length = m) (hl : 1 ≤ m) (hl2 : m ≤ 9223372036854775807) : TapC G.P 25 [.vsl m 1 (vlist l)] (fun r => ∃ x : Int, r = vi x ∧ x ∈ l) := by
  intro n g at_ hn h1 h2
  refine ptr_of (G := G.toPg) (fn := Tryz.f25) Tryz.func25 rfl rfl rfl ?_; intro Γ hk
  repeat' (first | ((with_reducible (show POps _ _ _ _ (_ :: _) _ _)); (first | refine pop_read rfl rfl rfl rfl trivial ?_ | refine pop_guard rfl rfl rfl rfl rfl qgd ?_ | refine pop_new rfl rfl rfl rfl trivial ?_ | refine pop_store rfl rfl rfl Nat.zero_lt_one ?_ | refine pop_read rfl rfl rfl rfl qrd ?_ | refine pop_read2 rfl rfl rfl rfl trivial ?_ | refine pop_store rfl rfl rfl qst ?_ | fail)) | refine pnil ?_ | refine kround_exit ?_ | refine kround_ret ?_ | refine kround_next ?_ | refine kseq_normal ?_ | refine pseq ?_ | refine pregion ?_ | refine pret ?_ | refine kseq_ret ?_ | refine pskip ?_ | refine pblock ?_ | refine pexit ?_ | refine kseq_exit ?_ | refine kblock_hit rfl ?_ | refine kblock_miss rfl ?_ | refine kblock_ret ?_ | refine kblock_normal ?_ | refine kloop_ret ?_ | refine kloop_exit ?_ | refine kcut_ret ?_ | refine kcut_exit ?_ | refine pcond_t rfl ?_ | refine pcond_f rfl ?_ | (with_reducible (show POps _ _ _ _ _ _ _); simp only [List.append_eq, List.cons_append, List.nil_append]))
  refine pop_tap (G := G) rfl rfl rfl rfl rfl rfl rfl rfl (fun _ => rfl) (next_t m (by omega)) hn h1 h2 rfl rfl ?_
  rintro at' _ a1 a2 ⟨x, rfl, x0, x1⟩
  have hx : x < m := by omega
  repeat' (first | ((with_reducible (show POps _ _ _ _ (_ :: _) _ _)); (first | refine pop_read rfl rfl rfl rfl trivial ?_ | refine pop_guard rfl rfl rfl rfl rfl qgd ?_ | refine pop_new rfl rfl rfl rfl trivial ?_ | refine pop_store rfl rfl rfl Nat.zero_lt_one ?_ | refine pop_read rfl rfl rfl rfl qrd ?_ | refine pop_read2 rfl rfl rfl rfl trivial ?_ | refine pop_store rfl rfl rfl qst ?_ | fail)) | refine pnil ?_ | refine kround_exit ?_ | refine kround_ret ?_ | refine kround_next ?_ | refine kseq_normal ?_ | refine pseq ?_ | refine pregion ?_ | refine pret ?_ | refine kseq_ret ?_ | refine pskip ?_ | refine pblock ?_ | refine pexit ?_ | refine kseq_exit ?_ | refine kblock_hit rfl ?_ | refine kblock_miss rfl ?_ | refine kblock_ret ?_ | refine kblock_normal ?_ | refine kloop_ret ?_ | refine kloop_exit ?_ | refine kcut_ret ?_ | refine kcut_exit ?_ | refine pcond_t rfl ?_ | refine pcond_f rfl ?_ | (with_reducible (show POps _ _ _ _ _ _ _); simp only [List.append_eq, List.cons_append, List.nil_append]))
  · refine ktap rfl a1 a2 rfl ⟨trivial, trivial⟩ rfl ⟨_, rfl, ?_⟩
    have hx2 : x.toNat < l.length := by omega
    rw [List.getD_eq_getElem?_getD, List.getElem?_eq_getElem hx2]
    exact List.getElem_mem hx2
end Go.Proofs.YtdifpajpheemaaaGreatDoor
namespace Go.Proofs.YtdifpajpheemaaaGreatDoor
theorem find_at {α : Type} {d : α} (p : α → Bool) : ∀ (l : List α) (i : Nat), i < l.length → (∀ j, j < i → p (lF d l j) = false) → p (lF d l i) = true → l.find? p = some (lF d l i)
  | [], i, h, _, _ => absurd h (Nat.not_lt_zero _)
  | a :: l, 0, _, _, h => by
    have h' : p a = true := h
    rw [List.find?_cons_of_pos h']; rfl
  | a :: l, i + 1, hi, hj, h => by
    have h0 : p a = false := hj 0 (Nat.succ_pos _)
    rw [List.find?_cons_of_neg (by rw [h0]; decide)]
    exact find_at p l i (Nat.lt_of_succ_lt_succ hi) (fun j hj' => hj (j + 1) (Nat.succ_lt_succ hj')) h
theorem find_no {α : Type} {d : α} (p : α → Bool) (l : List α) (h : ∀ j, j < l.length → p (lF d l j) = false) : l.find? p = none := by
  rw [List.find?_eq_none]
  intro x hx
  obtain ⟨i, hi, rfl⟩ := List.getElem_of_mem hx
  have := h i hi
  unfold lF at this
  rw [List.getD_eq_getElem?_getD, List.getElem?_eq_getElem hi] at this
  simpa using this
theorem nv_t {b : Bool} (h : (!b) = true) : b = false := by cases b; rfl; cases h
theorem nv_f {b : Bool} (h : (!b) = false) : b = true := by cases b; cases h; rfl
abbrev rR (n d : Int) : Row := ⟨.own, true, 1, 2, fun _ => nthP [vi n, vi d]⟩
theorem integer_c (n : Int) : PureC G.P 41 [vi n] (fun r => r = vr n 1) := by
  refine pure_of (G := G.toPg) (fn := Tryz.f41) Tryz.func41 rfl rfl rfl ?_; intro Γ hk
  repeat' (first | refine yo ?_ ?_ | refine yw ?_ ?_ | refine yk ?_ ?_ | exact trivial | with_reducible refine wA ?_ ?_ | refine ys ?_ ?_ | refine xs_done ?_ | refine yl ?_ ?_ | refine w8 ?_ | refine w9 ?_ | refine w1 ?_ | refine w2 ?_ | refine w3 ?_ | refine w4 ?_ | refine w5 ?_ | refine w6 ?_ | refine w7 ?_ | refine yo0 ?_ ?_ | refine yw0 ?_ ?_ | exact qq | fail)
  exact kretv rfl ⟨Nat.zero_lt_one, trivial⟩ rfl rfl
theorem sumR_bd (f : Nat → Int × Int) (n : Nat) (h : ∀ i, i ≤ n → okR (f i).1 (f i).2 = true) : -1000000000000 ≤ (sumR f n).1.1 ∧ (sumR f n).1.1 ≤ 1000000000000 := by
  induction n with
  | zero => exact (okR_bd (h 0 (by omega))).2.2
  | succ n ih => unfold sumR; split; exact addR_bd _ _ _ _; exact ih fun i hi => h i (by omega)
theorem sumR_stop (f : Nat → Int × Int) {n m : Nat} (h : (sumR f n).2 ≠ 0) (hm : n ≤ m) : sumR f m = sumR f n := by
  induction m with
  | zero => rw [show n = 0 by omega]
  | succ m ih =>
    by_cases e : n = m + 1
    · rw [e]
    · rw [sumR, ih (by omega), if_neg h]
set_option maxHeartbeats 4000000 in
theorem mean_c (k : Nat) (f : Nat → Int × Int) (hk0 : k ≤ 1000000000) (hb : ∀ i, i < k → -9223372036854775808 ≤ (f i).1 ∧ (f i).1 ≤ 9223372036854775807) : PureC G.P 34 [.vsl k 2 (tF cPr f)] (fun r => r = vRE (meanS k f)) := by
  refine pure_of (G := G.toPg) (fn := Tryz.f34) Tryz.func34 rfl rfl rfl ?_; intro Γ hk
  repeat' (first | refine yo ?_ ?_ | refine yw ?_ ?_ | refine yk ?_ ?_ | exact trivial | with_reducible refine wA ?_ ?_ | refine ys ?_ ?_ | refine xs_done ?_ | refine yl ?_ ?_ | refine w8 ?_ | refine w9 ?_ | refine w1 ?_ | refine w2 ?_ | refine w3 ?_ | refine w4 ?_ | refine w5 ?_ | refine w6 ?_ | refine w7 ?_ | refine yo0 ?_ ?_ | refine yw0 ?_ ?_ | exact qq | fail)
  refine pcond rfl ?_ ?_ <;> intro hc <;> simp at hc
  · repeat' (first | refine yo ?_ ?_ | refine yw ?_ ?_ | refine yk ?_ ?_ | exact trivial | with_reducible refine wA ?_ ?_ | refine ys ?_ ?_ | refine xs_done ?_ | refine yl ?_ ?_ | refine w8 ?_ | refine w9 ?_ | refine w1 ?_ | refine w2 ?_ | refine w3 ?_ | refine w4 ?_ | refine w5 ?_ | refine w6 ?_ | refine w7 ?_ | refine yo0 ?_ ?_ | refine yw0 ?_ ?_ | exact qq | fail)
    refine kretv rfl ⟨Nat.zero_lt_one, trivial, trivial⟩ rfl ?_
    rw [meanS, if_pos (by omega)]; rfl
  · repeat' (first | refine yo ?_ ?_ | refine yw ?_ ?_ | refine yk ?_ ?_ | exact trivial | with_reducible refine wA ?_ ?_ | refine ys ?_ ?_ | refine xs_done ?_ | refine yl ?_ ?_ | refine w8 ?_ | refine w9 ?_ | refine w1 ?_ | refine w2 ?_ | refine w3 ?_ | refine w4 ?_ | refine w5 ?_ | refine w6 ?_ | refine w7 ?_ | refine yo0 ?_ ?_ | refine yw0 ?_ ?_ | exact qq | fail)
    refine pcan (st' := ⟨[(0, .vsl k 2 (tF cPr f)), (2, .ptr 0 0 0), (15, .vsl k 2 (tF cPr f)), (16, vi k), (17, vi ((0 : Nat) : Int))], [rR 0 0]⟩) (can_rowsv [0] (k0_sel hk rfl) rfl (by (repeat (refine SelV.cons rfl rqq ?_)); exact SelV.nil) tmq) ?_
    refine ploop (fun q st => ∃ i : Nat, i ≤ k ∧ (∀ j, j < i → okR (f j).1 (f j).2 = true) ∧ q = k - i ∧ st = ⟨[(0, .vsl k 2 (tF cPr f)), (2, .ptr 0 0 0), (15, .vsl k 2 (tF cPr f)), (16, vi k), (17, vi i)], [rR 0 0]⟩) k ⟨0, by omega, fun j hj => by omega, by omega, rfl⟩ ?_
    rintro _ _ ⟨i, hi, hv, rfl, rfl⟩
    repeat' (first | refine yo ?_ ?_ | refine yw ?_ ?_ | refine yk ?_ ?_ | exact trivial | with_reducible refine wA ?_ ?_ | refine ys ?_ ?_ | refine xs_done ?_ | refine yl ?_ ?_ | refine w8 ?_ | refine w9 ?_ | refine w1 ?_ | refine w2 ?_ | refine w3 ?_ | refine w4 ?_ | refine w5 ?_ | refine w6 ?_ | refine w7 ?_ | refine yo0 ?_ ?_ | refine yw0 ?_ ?_ | exact qq | fail)
    refine pcond rfl ?_ ?_ <;> intro hl <;> simp at hl
    · have c1 := ratioValid_c (f i).1 (f i).2 (hb i hl).1 (hb i hl).2
      repeat' (first | refine yo ?_ ?_ | refine yw ?_ ?_ | refine yk ?_ ?_ | exact trivial | with_reducible refine wA ?_ ?_ | refine ys ?_ ?_ | refine xs_done ?_ | refine yl ?_ ?_ | refine z1 c1 ?_ | refine z2 c1 ?_ | refine z3 c1 ?_ | refine z4 c1 ?_ | refine z5 c1 ?_ | refine w8 ?_ | refine w9 ?_ | refine w1 ?_ | refine w2 ?_ | refine w3 ?_ | refine w4 ?_ | refine w5 ?_ | refine w6 ?_ | refine w7 ?_ | refine yo0 ?_ ?_ | refine yw0 ?_ ?_ | exact qq | fail)
      refine pcond rfl ?_ ?_ <;> intro h1
      · have h1 := nv_t h1
        repeat' (first | refine yo ?_ ?_ | refine yw ?_ ?_ | refine yk ?_ ?_ | exact trivial | with_reducible refine wA ?_ ?_ | refine ys ?_ ?_ | refine xs_done ?_ | refine yl ?_ ?_ | refine w8 ?_ | refine w9 ?_ | refine w1 ?_ | refine w2 ?_ | refine w3 ?_ | refine w4 ?_ | refine w5 ?_ | refine w6 ?_ | refine w7 ?_ | refine yo0 ?_ ?_ | refine yw0 ?_ ?_ | exact qq | fail)
        refine kretv rfl ⟨Nat.zero_lt_one, trivial, trivial⟩ rfl ?_
        rw [meanS, if_neg (by omega), if_pos (allK_no hl h1)]; rfl
      · have h1 := nv_f h1
        repeat' (first | refine yo ?_ ?_ | refine yw ?_ ?_ | refine yk ?_ ?_ | exact trivial | with_reducible refine wA ?_ ?_ | refine ys ?_ ?_ | refine xs_done ?_ | refine yl ?_ ?_ | refine w8 ?_ | refine w9 ?_ | refine w1 ?_ | refine w2 ?_ | refine w3 ?_ | refine w4 ?_ | refine w5 ?_ | refine w6 ?_ | refine w7 ?_ | refine yo0 ?_ ?_ | refine yw0 ?_ ?_ | exact qq | fail)
        rw [show IntKind.i64.wrap ((i : Int) + 1) = ((i + 1 : Nat) : Int) from w64 (by omega) (by omega)]
        exact kloop_next (st' := ⟨[(0, .vsl k 2 (tF cPr f)), (2, .ptr 0 0 0), (15, .vsl k 2 (tF cPr f)), (16, vi k), (17, vi ((i + 1 : Nat) : Int))], [rR 0 0]⟩) (k - (i + 1)) (can_rowsv [0] (k0_sel hk rfl) rfl (by (repeat (refine SelV.cons rfl rqq ?_)); exact SelV.nil) tmq) (by omega) ⟨i + 1, by omega, fun j hj => by
          by_cases e : j = i
          · subst e; exact h1
          · exact hv j (by omega), rfl, rfl⟩
    · obtain rfl : i = k := by omega
      have ha : allK i (fun i => okR (f i).1 (f i).2) = true := allK_iff.2 hv
      repeat' (first | refine yo ?_ ?_ | refine yw ?_ ?_ | refine yk ?_ ?_ | exact trivial | with_reducible refine wA ?_ ?_ | refine ys ?_ ?_ | refine xs_done ?_ | refine yl ?_ ?_ | refine w8 ?_ | refine w9 ?_ | refine w1 ?_ | refine w2 ?_ | refine w3 ?_ | refine w4 ?_ | refine w5 ?_ | refine w6 ?_ | refine w7 ?_ | refine yo0 ?_ ?_ | refine yw0 ?_ ?_ | exact qq | fail)
      refine pcond rfl ?_ ?_ <;> intro h0 <;> simp at h0
      · repeat' (first | refine yo ?_ ?_ | refine yw ?_ ?_ | refine yk ?_ ?_ | exact trivial | with_reducible refine wA ?_ ?_ | refine ys ?_ ?_ | refine xs_done ?_ | refine yl ?_ ?_ | refine w8 ?_ | refine w9 ?_ | refine w1 ?_ | refine w2 ?_ | refine w3 ?_ | refine w4 ?_ | refine w5 ?_ | refine w6 ?_ | refine w7 ?_ | refine yo0 ?_ ?_ | refine yw0 ?_ ?_ | exact qq | fail)
        refine kretv rfl ⟨Nat.zero_lt_one, trivial, trivial⟩ rfl ?_
        rw [meanS, if_neg (by omega), if_neg (by rw [ha]; decide), if_pos h0]; rfl
      · repeat' (first | refine yo ?_ ?_ | refine yw ?_ ?_ | refine yk ?_ ?_ | exact trivial | with_reducible refine wA ?_ ?_ | refine ys ?_ ?_ | refine xs_done ?_ | refine yl ?_ ?_ | refine w8 ?_ | refine w9 ?_ | refine w1 ?_ | refine w2 ?_ | refine w3 ?_ | refine w4 ?_ | refine w5 ?_ | refine w6 ?_ | refine w7 ?_ | refine yo0 ?_ ?_ | refine yw0 ?_ ?_ | exact qq | fail)
        · exact ⟨trivial, trivial, by omega, by omega, by omega⟩
        have hM' : ((i : Int) - 1).toNat = i - 1 := by omega
        refine pcan (st' := ⟨[(0, .vsl i 2 (tF cPr f)), (2, .ptr 0 0 0), (6, .ptr 1 0 0), (34, .vsl ((i : Int) - 1).toNat 2 (fun a => tF cPr f (1 + a))), (35, vi (((i : Int) - 1).toNat : Nat)), (36, vi ((0 : Nat) : Int))], [rR 0 0, rR (f 0).1 (f 0).2]⟩) (can_rowsv [0,1] (k0_sel hk rfl) rfl (by (repeat (refine SelV.cons rfl rqq ?_)); exact SelV.nil) tmq) ?_
        refine ploop (fun q st => ∃ n : Nat, n ≤ ((i : Int) - 1).toNat ∧ (sumR f n).2 = 0 ∧ q = ((i : Int) - 1).toNat - n ∧ st = ⟨[(0, .vsl i 2 (tF cPr f)), (2, .ptr 0 0 0), (6, .ptr 1 0 0), (34, .vsl ((i : Int) - 1).toNat 2 (fun a => tF cPr f (1 + a))), (35, vi (((i : Int) - 1).toNat : Nat)), (36, vi n)], [rR 0 0, rR (sumR f n).1.1 (sumR f n).1.2]⟩) ((i : Int) - 1).toNat ⟨0, by omega, rfl, by omega, rfl⟩ ?_
        rintro _ _ ⟨n, hn, hs, rfl, rfl⟩
        have sb := sumR_bd f n fun j hj => hv j (by omega)
        repeat' (first | refine yo ?_ ?_ | refine yw ?_ ?_ | refine yk ?_ ?_ | exact trivial | with_reducible refine wA ?_ ?_ | refine ys ?_ ?_ | refine xs_done ?_ | refine yl ?_ ?_ | refine w8 ?_ | refine w9 ?_ | refine w1 ?_ | refine w2 ?_ | refine w3 ?_ | refine w4 ?_ | refine w5 ?_ | refine w6 ?_ | refine w7 ?_ | refine yo0 ?_ ?_ | refine yw0 ?_ ?_ | exact qq | fail)
        refine pcond rfl ?_ ?_ <;> intro hl2 <;> simp at hl2
        · have c1 := ratioAdd_c (sumR f n).1.1 (sumR f n).1.2 (f (1 + n)).1 (f (1 + n)).2 (by omega) (by omega) (hb (1 + n) (by omega)).1 (hb (1 + n) (by omega)).2
          have e1 : sumR f (n + 1) = addR (sumR f n).1.1 (sumR f n).1.2 (f (1 + n)).1 (f (1 + n)).2 := by rw [sumR, if_pos hs, Nat.add_comm n 1]
          rw [← e1] at c1
          repeat' (first | refine yo ?_ ?_ | refine yw ?_ ?_ | refine yk ?_ ?_ | exact trivial | with_reducible refine wA ?_ ?_ | refine ys ?_ ?_ | refine xs_done ?_ | refine yl ?_ ?_ | refine z1 c1 ?_ | refine z2 c1 ?_ | refine z3 c1 ?_ | refine z4 c1 ?_ | refine z5 c1 ?_ | refine w8 ?_ | refine w9 ?_ | refine w1 ?_ | refine w2 ?_ | refine w3 ?_ | refine w4 ?_ | refine w5 ?_ | refine w6 ?_ | refine w7 ?_ | refine yo0 ?_ ?_ | refine yw0 ?_ ?_ | exact qq | fail)
          refine pcond rfl ?_ ?_ <;> intro h2 <;> simp at h2
          · repeat' (first | refine yo ?_ ?_ | refine yw ?_ ?_ | refine yk ?_ ?_ | exact trivial | with_reducible refine wA ?_ ?_ | refine ys ?_ ?_ | refine xs_done ?_ | refine yl ?_ ?_ | refine w8 ?_ | refine w9 ?_ | refine w1 ?_ | refine w2 ?_ | refine w3 ?_ | refine w4 ?_ | refine w5 ?_ | refine w6 ?_ | refine w7 ?_ | refine yo0 ?_ ?_ | refine yw0 ?_ ?_ | exact qq | fail)
            refine kretv rfl ⟨Nat.zero_lt_one, trivial, trivial⟩ rfl ?_
            rw [meanS, if_neg (by omega), if_neg (by rw [ha]; decide), if_neg h0, sumR_stop f (m := i - 1) h2 (by omega), if_neg h2]; rfl
          · repeat' (first | refine yo ?_ ?_ | refine yw ?_ ?_ | refine yk ?_ ?_ | exact trivial | with_reducible refine wA ?_ ?_ | refine ys ?_ ?_ | refine xs_done ?_ | refine yl ?_ ?_ | refine w8 ?_ | refine w9 ?_ | refine w1 ?_ | refine w2 ?_ | refine w3 ?_ | refine w4 ?_ | refine w5 ?_ | refine w6 ?_ | refine w7 ?_ | refine yo0 ?_ ?_ | refine yw0 ?_ ?_ | exact qq | fail)
            rw [show IntKind.i64.wrap ((n : Int) + 1) = ((n + 1 : Nat) : Int) from w64 (by omega) (by omega)]
            exact kloop_next (st' := ⟨[(0, .vsl i 2 (tF cPr f)), (2, .ptr 0 0 0), (6, .ptr 1 0 0), (34, .vsl ((i : Int) - 1).toNat 2 (fun a => tF cPr f (1 + a))), (35, vi (((i : Int) - 1).toNat : Nat)), (36, vi ((n + 1 : Nat) : Int))], [rR 0 0, rR (sumR f (n + 1)).1.1 (sumR f (n + 1)).1.2]⟩) (((i : Int) - 1).toNat - (n + 1)) (can_rowsv [0,1] (k0_sel hk rfl) rfl (by (repeat (refine SelV.cons rfl rqq ?_)); exact SelV.nil) tmq) (by omega) ⟨n + 1, by omega, h2, rfl, rfl⟩
        · have hn2 : n = ((i : Int) - 1).toNat := by omega
          have c1 := integer_c i
          have c2 := ratioDiv_f (sumR f n).1.1 (sumR f n).1.2 i 1 (by omega) (by omega) (by omega) (by omega)
          repeat' (first | refine yo ?_ ?_ | refine yw ?_ ?_ | refine yk ?_ ?_ | exact trivial | with_reducible refine wA ?_ ?_ | refine ys ?_ ?_ | refine xs_done ?_ | refine yl ?_ ?_ | refine xs_start (id := 20) true [.take 0, .take 1, .take 2, .one 3, .one 4, .take 5, .take 6, .one 7, .take 8] 0 rfl rfl (by kernel_rfl) ?_ | refine z1 c1 ?_ | refine z2 c1 ?_ | refine z3 c1 ?_ | refine z4 c1 ?_ | refine z5 c1 ?_ | refine z1 c2 ?_ | refine z2 c2 ?_ | refine z3 c2 ?_ | refine z4 c2 ?_ | refine z5 c2 ?_ | refine w8 ?_ | refine w9 ?_ | refine w1 ?_ | refine w2 ?_ | refine w3 ?_ | refine w4 ?_ | refine w5 ?_ | refine w6 ?_ | refine w7 ?_ | refine yo0 ?_ ?_ | refine yw0 ?_ ?_ | exact qq | fail)
          refine kretv rfl ⟨Nat.zero_lt_one, trivial, trivial⟩ rfl ?_
          rw [meanS, if_neg (by omega), if_neg (by rw [ha]; decide), if_neg h0, ← hM', ← hn2, if_pos hs]; rfl
theorem entB_bd {x : En} (h : entB x = true) : okR x.2.1 x.2.2 = true ∧ -1000000000000 ≤ x.1 ∧ x.1 ≤ 1000000000000 := by
  simp only [entB, Bool.and_eq_true, decide_eq_true_eq] at h
  exact ⟨h.1, h.2⟩
theorem entB_eq (x : En) : (!(okR x.2.1 x.2.2) || (decide (x.1 < -1000000000000) || decide (1000000000000 < x.1))) = !entB x := by
  rw [Bool.eq_iff_iff]
  simp [entB]
set_option maxHeartbeats 4000000 in
theorem lookup_c (n : Nat) (ef : Nat → En) (a b : Int) (hn : n ≤ 1000000000) (hb : ∀ i, i < n → -9223372036854775808 ≤ (ef i).2.1 ∧ (ef i).2.1 ≤ 9223372036854775807) (ha : -9223372036854775808 ≤ a ∧ a ≤ 9223372036854775807) : PureC G.P 31 [.vsl n 3 (tF cN3 ef), vr a b] (fun r => r = vRE (lookS n ef a b)) := by
  have c0 := ratioValid_c a b ha.1 ha.2
  refine pure_of (G := G.toPg) (fn := Tryz.f31) Tryz.func31 rfl rfl rfl ?_; intro Γ hk
  repeat' (first | refine yo ?_ ?_ | refine yw ?_ ?_ | refine yk ?_ ?_ | exact trivial | with_reducible refine wA ?_ ?_ | refine ys ?_ ?_ | refine xs_done ?_ | refine yl ?_ ?_ | refine w8 ?_ | refine w9 ?_ | refine w1 ?_ | refine w2 ?_ | refine w3 ?_ | refine w4 ?_ | refine w5 ?_ | refine w6 ?_ | refine w7 ?_ | refine yo0 ?_ ?_ | refine yw0 ?_ ?_ | exact qq | fail)
  refine pcond rfl ?_ ?_ <;> intro hc <;> simp at hc
  · repeat' (first | refine yo ?_ ?_ | refine yw ?_ ?_ | refine yk ?_ ?_ | exact trivial | with_reducible refine wA ?_ ?_ | refine ys ?_ ?_ | refine xs_done ?_ | refine yl ?_ ?_ | refine w8 ?_ | refine w9 ?_ | refine w1 ?_ | refine w2 ?_ | refine w3 ?_ | refine w4 ?_ | refine w5 ?_ | refine w6 ?_ | refine w7 ?_ | refine yo0 ?_ ?_ | refine yw0 ?_ ?_ | exact qq | fail)
    refine kretv rfl ⟨Nat.zero_lt_one, trivial, trivial⟩ rfl ?_
    rw [lookS, if_pos (by omega)]; rfl
  · repeat' (first | refine yo ?_ ?_ | refine yw ?_ ?_ | refine yk ?_ ?_ | exact trivial | with_reducible refine wA ?_ ?_ | refine ys ?_ ?_ | refine xs_done ?_ | refine yl ?_ ?_ | refine z1 c0 ?_ | refine z2 c0 ?_ | refine z3 c0 ?_ | refine z4 c0 ?_ | refine z5 c0 ?_ | refine w8 ?_ | refine w9 ?_ | refine w1 ?_ | refine w2 ?_ | refine w3 ?_ | refine w4 ?_ | refine w5 ?_ | refine w6 ?_ | refine w7 ?_ | refine yo0 ?_ ?_ | refine yw0 ?_ ?_ | exact qq | fail)
    refine pcond rfl ?_ ?_ <;> intro h0
    · have h0 := nv_t h0
      repeat' (first | refine yo ?_ ?_ | refine yw ?_ ?_ | refine yk ?_ ?_ | exact trivial | with_reducible refine wA ?_ ?_ | refine ys ?_ ?_ | refine xs_done ?_ | refine yl ?_ ?_ | refine w8 ?_ | refine w9 ?_ | refine w1 ?_ | refine w2 ?_ | refine w3 ?_ | refine w4 ?_ | refine w5 ?_ | refine w6 ?_ | refine w7 ?_ | refine yo0 ?_ ?_ | refine yw0 ?_ ?_ | exact qq | fail)
      refine kretv rfl ⟨Nat.zero_lt_one, trivial, trivial⟩ rfl ?_
      rw [lookS, if_neg (by omega), if_pos (Or.inl h0)]; rfl
    · have h0 := nv_f h0
      repeat' (first | refine yo ?_ ?_ | refine yw ?_ ?_ | refine yk ?_ ?_ | exact trivial | with_reducible refine wA ?_ ?_ | refine ys ?_ ?_ | refine xs_done ?_ | refine yl ?_ ?_ | refine w8 ?_ | refine w9 ?_ | refine w1 ?_ | refine w2 ?_ | refine w3 ?_ | refine w4 ?_ | refine w5 ?_ | refine w6 ?_ | refine w7 ?_ | refine yo0 ?_ ?_ | refine yw0 ?_ ?_ | exact qq | fail)
      refine pcan (st' := ⟨[(0, .vsl n 3 (tF cN3 ef)), (3, .ptr 0 0 0), (4, .ptr 1 0 0), (19, .vsl n 3 (tF cN3 ef)), (20, vi n), (21, vi ((0 : Nat) : Int))], [rR a b, rR 0 0]⟩) (can_rowsv [0,1] (k0_sel hk rfl) rfl (by (repeat (refine SelV.cons rfl rqq ?_)); exact SelV.nil) tmq) ?_
      refine ploop (fun q st => ∃ i : Nat, i ≤ n ∧ (∀ j, j < i → entB (ef j) = true) ∧ q = n - i ∧ st = ⟨[(0, .vsl n 3 (tF cN3 ef)), (3, .ptr 0 0 0), (4, .ptr 1 0 0), (19, .vsl n 3 (tF cN3 ef)), (20, vi n), (21, vi i)], [rR a b, rR 0 0]⟩) n ⟨0, by omega, fun j hj => by omega, by omega, rfl⟩ ?_
      rintro _ _ ⟨i, hi, hv, rfl, rfl⟩
      repeat' (first | refine yo ?_ ?_ | refine yw ?_ ?_ | refine yk ?_ ?_ | exact trivial | with_reducible refine wA ?_ ?_ | refine ys ?_ ?_ | refine xs_done ?_ | refine yl ?_ ?_ | refine w8 ?_ | refine w9 ?_ | refine w1 ?_ | refine w2 ?_ | refine w3 ?_ | refine w4 ?_ | refine w5 ?_ | refine w6 ?_ | refine w7 ?_ | refine yo0 ?_ ?_ | refine yw0 ?_ ?_ | exact qq | fail)
      refine pcond rfl ?_ ?_ <;> intro hl <;> simp at hl
      · have c1 := ratioValid_c (ef i).2.1 (ef i).2.2 (hb i hl).1 (hb i hl).2
        repeat' (first | refine yo ?_ ?_ | refine yw ?_ ?_ | refine yk ?_ ?_ | exact trivial | with_reducible refine wA ?_ ?_ | refine ys ?_ ?_ | refine xs_done ?_ | refine yl ?_ ?_ | refine z1 c1 ?_ | refine z2 c1 ?_ | refine z3 c1 ?_ | refine z4 c1 ?_ | refine z5 c1 ?_ | refine w8 ?_ | refine w9 ?_ | refine w1 ?_ | refine w2 ?_ | refine w3 ?_ | refine w4 ?_ | refine w5 ?_ | refine w6 ?_ | refine w7 ?_ | refine yo0 ?_ ?_ | refine yw0 ?_ ?_ | exact qq | fail)
        refine pcond (b := !entB (ef i)) ?_ ?_ ?_
        · refine eqB ?_
          rw [← entB_eq]
          cases okR (ef i).2.1 (ef i).2.2 <;> simp
        · intro h1
          have h1 := nv_t h1
          repeat' (first | refine yo ?_ ?_ | refine yw ?_ ?_ | refine yk ?_ ?_ | exact trivial | with_reducible refine wA ?_ ?_ | refine ys ?_ ?_ | refine xs_done ?_ | refine yl ?_ ?_ | refine w8 ?_ | refine w9 ?_ | refine w1 ?_ | refine w2 ?_ | refine w3 ?_ | refine w4 ?_ | refine w5 ?_ | refine w6 ?_ | refine w7 ?_ | refine yo0 ?_ ?_ | refine yw0 ?_ ?_ | exact qq | fail)
          refine kretv rfl ⟨Nat.zero_lt_one, trivial, trivial⟩ rfl ?_
          rw [lookS, if_neg (by omega), if_pos (Or.inr (allK_no hl h1))]; rfl
        · intro h1
          have h1 := nv_f h1
          repeat' (first | refine yo ?_ ?_ | refine yw ?_ ?_ | refine yk ?_ ?_ | exact trivial | with_reducible refine wA ?_ ?_ | refine ys ?_ ?_ | refine xs_done ?_ | refine yl ?_ ?_ | refine w8 ?_ | refine w9 ?_ | refine w1 ?_ | refine w2 ?_ | refine w3 ?_ | refine w4 ?_ | refine w5 ?_ | refine w6 ?_ | refine w7 ?_ | refine yo0 ?_ ?_ | refine yw0 ?_ ?_ | exact qq | fail)
          rw [show IntKind.i64.wrap ((i : Int) + 1) = ((i + 1 : Nat) : Int) from w64 (by omega) (by omega)]
          exact kloop_next (st' := ⟨[(0, .vsl n 3 (tF cN3 ef)), (3, .ptr 0 0 0), (4, .ptr 1 0 0), (19, .vsl n 3 (tF cN3 ef)), (20, vi n), (21, vi ((i + 1 : Nat) : Int))], [rR a b, rR 0 0]⟩) (n - (i + 1)) (can_rowsv [0,1] (k0_sel hk rfl) rfl (by (repeat (refine SelV.cons rfl rqq ?_)); exact SelV.nil) tmq) (by omega) ⟨i + 1, by omega, fun j hj => by
            by_cases e : j = i
            · subst e; exact h1
            · exact hv j (by omega), rfl, rfl⟩
      · obtain rfl : i = n := by omega
        have hall : allK i (fun i => entB (ef i)) = true := allK_iff.2 hv
        repeat' (first | refine yo ?_ ?_ | refine yw ?_ ?_ | refine yk ?_ ?_ | exact trivial | with_reducible refine wA ?_ ?_ | refine ys ?_ ?_ | refine xs_done ?_ | refine yl ?_ ?_ | refine w8 ?_ | refine w9 ?_ | refine w1 ?_ | refine w2 ?_ | refine w3 ?_ | refine w4 ?_ | refine w5 ?_ | refine w6 ?_ | refine w7 ?_ | refine yo0 ?_ ?_ | refine yw0 ?_ ?_ | exact qq | fail)
        refine pcan (st' := ⟨[(0, .vsl i 3 (tF cN3 ef)), (3, .ptr 0 0 0), (4, .ptr 1 0 0), (8, vi (-1)), (41, .vsl i 3 (tF cN3 ef)), (42, vi i), (43, vi ((0 : Nat) : Int))], [rR a b, rR 0 0]⟩) (can_rowsv [0,1] (k0_sel hk rfl) rfl (by (repeat (refine SelV.cons rfl rqq ?_)); exact SelV.nil) tmq) ?_
        refine ploop (fun q st => ∃ m : Nat, m ≤ i ∧ q = i - m ∧ st = ⟨[(0, .vsl i 3 (tF cN3 ef)), (3, .ptr 0 0 0), (4, .ptr 1 0 0), (8, vi (bestS ef a b m)), (41, .vsl i 3 (tF cN3 ef)), (42, vi i), (43, vi m)], [rR a b, rR 0 0]⟩) i ⟨0, by omega, by omega, rfl⟩ ?_
        rintro _ _ ⟨m, hm, rfl, rfl⟩
        have hbd := bestS_bd ef a b m
        repeat' (first | refine yo ?_ ?_ | refine yw ?_ ?_ | refine yk ?_ ?_ | exact trivial | with_reducible refine wA ?_ ?_ | refine ys ?_ ?_ | refine xs_done ?_ | refine yl ?_ ?_ | refine w8 ?_ | refine w9 ?_ | refine w1 ?_ | refine w2 ?_ | refine w3 ?_ | refine w4 ?_ | refine w5 ?_ | refine w6 ?_ | refine w7 ?_ | refine yo0 ?_ ?_ | refine yw0 ?_ ?_ | exact qq | fail)
        refine pcond rfl ?_ ?_ <;> intro hl2 <;> simp at hl2
        · have hk2 := entB_bd (hv m hl2)
          have c1 := integer_c (ef m).1
          have c2 := ratioCompare_c (ef m).1 1 a b (by omega) (by omega) ha.1 ha.2
          have e1 : bestS ef a b (m + 1) = if cmpR (ef m).1 1 a b ≤ 0 ∧ (bestS ef a b m < 0 ∨ (ef (bestS ef a b m).toNat).1 < (ef m).1) then (m : Int) else bestS ef a b m := rfl
          generalize bestS ef a b m = B at *
          repeat' (first | refine yo ?_ ?_ | refine yw ?_ ?_ | refine yk ?_ ?_ | exact trivial | with_reducible refine wA ?_ ?_ | refine ys ?_ ?_ | refine xs_done ?_ | refine yl ?_ ?_ | refine xs_start (id := 15) true [.take 0, .take 1, .take 3, .one 2, .one 4, .take 5, .take 6, .take 7, .take 8, .take 9, .take 10, .take 11, .take 12, .take 13, .take 14, .take 15, .take 16, .take 17, .take 18, .take 19] 0 rfl rfl (by kernel_rfl) ?_ | refine z1 c1 ?_ | refine z2 c1 ?_ | refine z3 c1 ?_ | refine z4 c1 ?_ | refine z5 c1 ?_ | refine z1 c2 ?_ | refine z2 c2 ?_ | refine z3 c2 ?_ | refine z4 c2 ?_ | refine z5 c2 ?_ | refine w8 ?_ | refine w9 ?_ | refine w1 ?_ | refine w2 ?_ | refine w3 ?_ | refine w4 ?_ | refine w5 ?_ | refine w6 ?_ | refine w7 ?_ | refine yo0 ?_ ?_ | refine yw0 ?_ ?_ | exact qq | fail)
          refine pcond (b := decide (cmpR (ef m).1 1 a b ≤ 0 ∧ (B < 0 ∨ (ef B.toNat).1 < (ef m).1))) ?_ ?_ ?_
          · refine eqB ?_
            by_cases q1 : cmpR (ef m).1 1 a b ≤ 0 <;> by_cases q2 : B < 0 <;> simp [q1, q2]
          · intro h1
            have h1 := of_decide_eq_true h1
            rw [if_pos h1] at e1
            repeat' (first | refine yo ?_ ?_ | refine yw ?_ ?_ | refine yk ?_ ?_ | exact trivial | with_reducible refine wA ?_ ?_ | refine ys ?_ ?_ | refine xs_done ?_ | refine yl ?_ ?_ | refine w8 ?_ | refine w9 ?_ | refine w1 ?_ | refine w2 ?_ | refine w3 ?_ | refine w4 ?_ | refine w5 ?_ | refine w6 ?_ | refine w7 ?_ | refine yo0 ?_ ?_ | refine yw0 ?_ ?_ | exact qq | fail)
            rw [show IntKind.i64.wrap ((m : Int) + 1) = ((m + 1 : Nat) : Int) from w64 (by omega) (by omega)]
            exact kloop_next (st' := ⟨[(0, .vsl i 3 (tF cN3 ef)), (3, .ptr 0 0 0), (4, .ptr 1 0 0), (8, vi m), (41, .vsl i 3 (tF cN3 ef)), (42, vi i), (43, vi ((m + 1 : Nat) : Int))], [rR a b, rR 0 0]⟩) (i - (m + 1)) (can_rowsv [0,1] (k0_sel hk rfl) rfl (by (repeat (refine SelV.cons rfl rqq ?_)); exact SelV.nil) tmq) (by omega) ⟨m + 1, by omega, rfl, by rw [e1]⟩
          · intro h1
            have h1 := of_decide_eq_false h1
            rw [if_neg h1] at e1
            repeat' (first | refine yo ?_ ?_ | refine yw ?_ ?_ | refine yk ?_ ?_ | exact trivial | with_reducible refine wA ?_ ?_ | refine ys ?_ ?_ | refine xs_done ?_ | refine yl ?_ ?_ | refine w8 ?_ | refine w9 ?_ | refine w1 ?_ | refine w2 ?_ | refine w3 ?_ | refine w4 ?_ | refine w5 ?_ | refine w6 ?_ | refine w7 ?_ | refine yo0 ?_ ?_ | refine yw0 ?_ ?_ | exact qq | fail)
            rw [show IntKind.i64.wrap ((m : Int) + 1) = ((m + 1 : Nat) : Int) from w64 (by omega) (by omega)]
            exact kloop_next (st' := ⟨[(0, .vsl i 3 (tF cN3 ef)), (3, .ptr 0 0 0), (4, .ptr 1 0 0), (8, vi B), (41, .vsl i 3 (tF cN3 ef)), (42, vi i), (43, vi ((m + 1 : Nat) : Int))], [rR a b, rR 0 0]⟩) (i - (m + 1)) (can_rowsv [0,1] (k0_sel hk rfl) rfl (by (repeat (refine SelV.cons rfl rqq ?_)); exact SelV.nil) tmq) (by omega) ⟨m + 1, by omega, rfl, by rw [e1]⟩
        · obtain rfl : m = i := by omega
          repeat' (first | refine yo ?_ ?_ | refine yw ?_ ?_ | refine yk ?_ ?_ | exact trivial | with_reducible refine wA ?_ ?_ | refine ys ?_ ?_ | refine xs_done ?_ | refine yl ?_ ?_ | refine w8 ?_ | refine w9 ?_ | refine w1 ?_ | refine w2 ?_ | refine w3 ?_ | refine w4 ?_ | refine w5 ?_ | refine w6 ?_ | refine w7 ?_ | refine yo0 ?_ ?_ | refine yw0 ?_ ?_ | exact qq | fail)
          refine pcond rfl ?_ ?_ <;> intro h3 <;> simp at h3
          · repeat' (first | refine yo ?_ ?_ | refine yw ?_ ?_ | refine yk ?_ ?_ | exact trivial | with_reducible refine wA ?_ ?_ | refine ys ?_ ?_ | refine xs_done ?_ | refine yl ?_ ?_ | refine w8 ?_ | refine w9 ?_ | refine w1 ?_ | refine w2 ?_ | refine w3 ?_ | refine w4 ?_ | refine w5 ?_ | refine w6 ?_ | refine w7 ?_ | refine yo0 ?_ ?_ | refine yw0 ?_ ?_ | exact qq | fail)
            refine kretv rfl ⟨Nat.zero_lt_one, trivial, trivial⟩ rfl ?_
            rw [lookS, if_neg (by omega), if_neg (by rintro (h | h); rw [h0] at h; cases h; rw [hall] at h; cases h), if_pos h3]; rfl
          · repeat' (first | refine yo ?_ ?_ | refine yw ?_ ?_ | refine yk ?_ ?_ | exact trivial | with_reducible refine wA ?_ ?_ | refine ys ?_ ?_ | refine xs_done ?_ | refine yl ?_ ?_ | refine w8 ?_ | refine w9 ?_ | refine w1 ?_ | refine w2 ?_ | refine w3 ?_ | refine w4 ?_ | refine w5 ?_ | refine w6 ?_ | refine w7 ?_ | refine yo0 ?_ ?_ | refine yw0 ?_ ?_ | exact qq | fail)
            refine kretv rfl ⟨Nat.zero_lt_one, trivial, trivial⟩ rfl ?_
            rw [lookS, if_neg (by omega), if_neg (by rintro (h | h); rw [h0] at h; cases h; rw [hall] at h; cases h), if_neg (by omega)]; rfl
abbrev dPa : Pa := ⟨⟨#[]⟩, 0, fun _ => (0, 0)⟩
abbrev vPas (l : List Pa) : PV := .vsl l.length 2 (tF cPa (lF dPa l))
structure BdP (p : Pa) : Prop where
  k : p.k ≤ 1000000000
  v : ∀ i, i < p.k → -9223372036854775808 ≤ (p.f i).1 ∧ (p.f i).1 ≤ 9223372036854775807
def fpV : Option Pa → PV
  | some p => .vsl p.k 2 (tF cPr p.f)
  | none => .val (.slice none 0 0)
theorem findPa_mem {l : List Pa} {s : ByteArray} {p : Pa} (h : findPa l s = some p) : p ∈ l := List.mem_of_find?_eq_some h
theorem findPast_c (l : List Pa) (s : ByteArray) (hl : l.length ≤ 1000000000) : PureC G.P 57 [vPas l, vs s] (fun r => r = .tup 2 (nthP [fpV (findPa l s), vb (findPa l s).isSome])) := by
  refine pure_of (G := G.toPg) (fn := Tryz.f57) Tryz.func57 rfl rfl rfl ?_; intro Γ hk
  repeat' (first | refine yo ?_ ?_ | refine yw ?_ ?_ | refine yk ?_ ?_ | exact trivial | with_reducible refine wA ?_ ?_ | refine ys ?_ ?_ | refine xs_done ?_ | refine yl ?_ ?_ | refine w8 ?_ | refine w9 ?_ | refine w1 ?_ | refine w2 ?_ | refine w3 ?_ | refine w4 ?_ | refine w5 ?_ | refine w6 ?_ | refine w7 ?_ | refine yo0 ?_ ?_ | refine yw0 ?_ ?_ | exact qq | fail)
  refine pcan (st' := ⟨[(1, vs s), (8, vPas l), (9, vi l.length), (10, vi ((0 : Nat) : Int))], []⟩) (can_rowsv [] (k0_sel hk rfl) rfl .nil tmq) ?_
  refine ploop (fun q st => ∃ i : Nat, i ≤ l.length ∧ (∀ j, j < i → ((lF dPa l j).nm.toList == s.toList) = false) ∧ q = l.length - i ∧ st = ⟨[(1, vs s), (8, vPas l), (9, vi l.length), (10, vi i)], []⟩) l.length ⟨0, by omega, fun j hj => by omega, by omega, rfl⟩ ?_
  rintro _ _ ⟨i, hi, hv, rfl, rfl⟩
  repeat' (first | refine yo ?_ ?_ | refine yw ?_ ?_ | refine yk ?_ ?_ | exact trivial | with_reducible refine wA ?_ ?_ | refine ys ?_ ?_ | refine xs_done ?_ | refine yl ?_ ?_ | refine w8 ?_ | refine w9 ?_ | refine w1 ?_ | refine w2 ?_ | refine w3 ?_ | refine w4 ?_ | refine w5 ?_ | refine w6 ?_ | refine w7 ?_ | refine yo0 ?_ ?_ | refine yw0 ?_ ?_ | exact qq | fail)
  refine pcond rfl ?_ ?_ <;> intro hc <;> simp at hc
  · repeat' (first | refine yo ?_ ?_ | refine yw ?_ ?_ | refine yk ?_ ?_ | exact trivial | with_reducible refine wA ?_ ?_ | refine ys ?_ ?_ | refine xs_done ?_ | refine yl ?_ ?_ | refine w8 ?_ | refine w9 ?_ | refine w1 ?_ | refine w2 ?_ | refine w3 ?_ | refine w4 ?_ | refine w5 ?_ | refine w6 ?_ | refine w7 ?_ | refine yo0 ?_ ?_ | refine yw0 ?_ ?_ | exact qq | fail)
    refine pcond (b := (lF dPa l i).nm.toList == s.toList) (eqB rfl) ?_ ?_ <;> intro h1
    · have hf : findPa l s = some (lF dPa l i) := find_at _ l i hc hv h1
      repeat' (first | refine yo ?_ ?_ | refine yw ?_ ?_ | refine yk ?_ ?_ | exact trivial | with_reducible refine wA ?_ ?_ | refine ys ?_ ?_ | refine xs_done ?_ | refine yl ?_ ?_ | refine w8 ?_ | refine w9 ?_ | refine w1 ?_ | refine w2 ?_ | refine w3 ?_ | refine w4 ?_ | refine w5 ?_ | refine w6 ?_ | refine w7 ?_ | refine yo0 ?_ ?_ | refine yw0 ?_ ?_ | exact qq | fail)
      refine kretv rfl ⟨trivial, trivial, trivial⟩ rfl ?_
      rw [hf]; rfl
    · repeat' (first | refine yo ?_ ?_ | refine yw ?_ ?_ | refine yk ?_ ?_ | exact trivial | with_reducible refine wA ?_ ?_ | refine ys ?_ ?_ | refine xs_done ?_ | refine yl ?_ ?_ | refine w8 ?_ | refine w9 ?_ | refine w1 ?_ | refine w2 ?_ | refine w3 ?_ | refine w4 ?_ | refine w5 ?_ | refine w6 ?_ | refine w7 ?_ | refine yo0 ?_ ?_ | refine yw0 ?_ ?_ | exact qq | fail)
      rw [show IntKind.i64.wrap ((i : Int) + 1) = ((i + 1 : Nat) : Int) from w64 (by omega) (by omega)]
      exact kloop_next (st' := ⟨[(1, vs s), (8, vPas l), (9, vi l.length), (10, vi ((i + 1 : Nat) : Int))], []⟩) (l.length - (i + 1)) (can_rowsv [] (k0_sel hk rfl) rfl .nil tmq) (by omega) ⟨i + 1, by omega, fun j hj => by
        by_cases e : j = i
        · subst e; exact h1
        · exact hv j (by omega), rfl, rfl⟩
  · have hf : findPa l s = none := find_no _ l fun j hj => hv j (by omega)
    repeat' (first | refine yo ?_ ?_ | refine yw ?_ ?_ | refine yk ?_ ?_ | exact trivial | with_reducible refine wA ?_ ?_ | refine ys ?_ ?_ | refine xs_done ?_ | refine yl ?_ ?_ | refine w8 ?_ | refine w9 ?_ | refine w1 ?_ | refine w2 ?_ | refine w3 ?_ | refine w4 ?_ | refine w5 ?_ | refine w6 ?_ | refine w7 ?_ | refine yo0 ?_ ?_ | refine yw0 ?_ ?_ | exact qq | fail)
    refine kretv rfl ⟨trivial, trivial, trivial⟩ rfl ?_
    rw [hf]; rfl
theorem findPast_s (l : List Pa) (s : ByteArray) (hl : l.length ≤ 1000000000) {p : Pa} (hf : findPa l s = some p) : PureC G.P 57 [vPas l, vs s] (fun r => r = .tup 2 (nthP [.vsl p.k 2 (tF cPr p.f), vb true])) := by
  have c1 := findPast_c l s hl
  rw [hf] at c1; exact c1
theorem average_c (l : List Pa) (s : ByteArray) (n : Int) (hl : l.length ≤ 1000000000) (hb : ∀ p, p ∈ l → BdP p) : PureC G.P 32 [vPas l, vs s, vi n] (fun r => r = vRE (avgS l s n)) := by
  have c1 := findPast_c l s hl
  refine pure_of (G := G.toPg) (fn := Tryz.f32) Tryz.func32 rfl rfl rfl ?_; intro Γ hk
  repeat' (first | refine yo ?_ ?_ | refine yw ?_ ?_ | refine yk ?_ ?_ | exact trivial | with_reducible refine wA ?_ ?_ | refine ys ?_ ?_ | refine xs_done ?_ | refine yl ?_ ?_ | refine w8 ?_ | refine w9 ?_ | refine w1 ?_ | refine w2 ?_ | refine w3 ?_ | refine w4 ?_ | refine w5 ?_ | refine w6 ?_ | refine w7 ?_ | refine yo0 ?_ ?_ | refine yw0 ?_ ?_ | exact qq | fail)
  refine pcond (b := decide (n < 1 ∨ 120 < n)) ?_ ?_ ?_
  · refine eqB ?_
    by_cases q1 : n < 1 <;> simp [q1]
  · intro h
    have h := of_decide_eq_true h
    repeat' (first | refine yo ?_ ?_ | refine yw ?_ ?_ | refine yk ?_ ?_ | exact trivial | with_reducible refine wA ?_ ?_ | refine ys ?_ ?_ | refine xs_done ?_ | refine yl ?_ ?_ | refine w8 ?_ | refine w9 ?_ | refine w1 ?_ | refine w2 ?_ | refine w3 ?_ | refine w4 ?_ | refine w5 ?_ | refine w6 ?_ | refine w7 ?_ | refine yo0 ?_ ?_ | refine yw0 ?_ ?_ | exact qq | fail)
    refine kretv rfl ⟨Nat.zero_lt_one, trivial, trivial⟩ rfl ?_
    rw [avgS, if_pos h]; rfl
  · intro h
    have h := of_decide_eq_false h
    cases hf : findPa l s with
    | none =>
      rw [hf] at c1
      repeat' (first | refine yo ?_ ?_ | refine yw ?_ ?_ | refine yk ?_ ?_ | exact trivial | with_reducible refine wA ?_ ?_ | refine ys ?_ ?_ | refine xs_done ?_ | refine yl ?_ ?_ | refine z1 c1 ?_ | refine z2 c1 ?_ | refine z3 c1 ?_ | refine z4 c1 ?_ | refine z5 c1 ?_ | refine w8 ?_ | refine w9 ?_ | refine w1 ?_ | refine w2 ?_ | refine w3 ?_ | refine w4 ?_ | refine w5 ?_ | refine w6 ?_ | refine w7 ?_ | refine yo0 ?_ ?_ | refine yw0 ?_ ?_ | exact qq | fail)
      refine kretv rfl ⟨Nat.zero_lt_one, trivial, trivial⟩ rfl ?_
      rw [avgS, if_neg h, hf]; rfl
    | some p =>
      have c1 := findPast_s l s hl hf
      have hp := hb p (findPa_mem hf)
      have c2 := mean_c (min n.toNat p.k) p.f (by have := hp.k; omega) (fun i hi => hp.v i (by omega))
      repeat' (first | refine yo ?_ ?_ | refine yw ?_ ?_ | refine yk ?_ ?_ | exact trivial | with_reducible refine wA ?_ ?_ | refine ys ?_ ?_ | refine xs_done ?_ | refine yl ?_ ?_ | (refine pop_callc [] rfl rfl rfl rfl rfl rfl (fun _ h => by cases h) (c1) (args_cl _ rfl) ?_; rintro _ rfl) | refine w8 ?_ | refine w9 ?_ | refine w1 ?_ | refine w2 ?_ | refine w3 ?_ | refine w4 ?_ | refine w5 ?_ | refine w6 ?_ | refine w7 ?_ | refine yo0 ?_ ?_ | refine yw0 ?_ ?_ | exact qq | fail)
      · exact ⟨trivial, trivial, by omega, by split <;> omega, by split <;> omega⟩
      have e0 : (fun a => tF cPr p.f (((0 : Nat) : Int).toNat + a)) = tF cPr p.f := by
        funext a; rw [show ((0 : Nat) : Int).toNat + a = a from Nat.zero_add a]
      have e1 : ((if (p.k : Int) < n then (p.k : Int) else n) - ((0 : Nat) : Int)).toNat = min n.toNat p.k := by split <;> omega
      rw [← e1, ← e0] at c2
      repeat' (first | refine yo ?_ ?_ | refine yw ?_ ?_ | refine yk ?_ ?_ | exact trivial | with_reducible refine wA ?_ ?_ | refine ys ?_ ?_ | refine xs_done ?_ | refine yl ?_ ?_ | refine z1 c2 ?_ | refine z2 c2 ?_ | refine z3 c2 ?_ | refine z4 c2 ?_ | refine z5 c2 ?_ | refine w8 ?_ | refine w9 ?_ | refine w1 ?_ | refine w2 ?_ | refine w3 ?_ | refine w4 ?_ | refine w5 ?_ | refine w6 ?_ | refine w7 ?_ | refine yo0 ?_ ?_ | refine yw0 ?_ ?_ | exact qq | fail)
      refine kretv rfl ⟨Nat.zero_lt_one, trivial, trivial⟩ rfl ?_
      rw [avgS, if_neg h, hf, e1]; rfl
theorem last_c' (l : List Pa) (s : ByteArray) (n : Int) (hl : l.length ≤ 1000000000) (hb : ∀ p, p ∈ l → BdP p) : PureC G.P 35 [vPas l, vs s, vi n] (fun r => r = vRE (lastS' l s n)) := by
  have c1 := findPast_c l s hl
  refine pure_of (G := G.toPg) (fn := Tryz.f35) Tryz.func35 rfl rfl rfl ?_; intro Γ hk
  repeat' (first | refine yo ?_ ?_ | refine yw ?_ ?_ | refine yk ?_ ?_ | exact trivial | with_reducible refine wA ?_ ?_ | refine ys ?_ ?_ | refine xs_done ?_ | refine yl ?_ ?_ | refine w8 ?_ | refine w9 ?_ | refine w1 ?_ | refine w2 ?_ | refine w3 ?_ | refine w4 ?_ | refine w5 ?_ | refine w6 ?_ | refine w7 ?_ | refine yo0 ?_ ?_ | refine yw0 ?_ ?_ | exact qq | fail)
  refine pcond (b := decide (n < 1 ∨ 120 < n)) ?_ ?_ ?_
  · refine eqB ?_
    by_cases q1 : n < 1 <;> simp [q1]
  · intro h
    have h := of_decide_eq_true h
    repeat' (first | refine yo ?_ ?_ | refine yw ?_ ?_ | refine yk ?_ ?_ | exact trivial | with_reducible refine wA ?_ ?_ | refine ys ?_ ?_ | refine xs_done ?_ | refine yl ?_ ?_ | refine w8 ?_ | refine w9 ?_ | refine w1 ?_ | refine w2 ?_ | refine w3 ?_ | refine w4 ?_ | refine w5 ?_ | refine w6 ?_ | refine w7 ?_ | refine yo0 ?_ ?_ | refine yw0 ?_ ?_ | exact qq | fail)
    refine kretv rfl ⟨Nat.zero_lt_one, trivial, trivial⟩ rfl ?_
    rw [lastS', if_pos h]; rfl
  · intro h
    have h := of_decide_eq_false h
    cases hf : findPa l s with
    | none =>
      rw [hf] at c1
      repeat' (first | refine yo ?_ ?_ | refine yw ?_ ?_ | refine yk ?_ ?_ | exact trivial | with_reducible refine wA ?_ ?_ | refine ys ?_ ?_ | refine xs_done ?_ | refine yl ?_ ?_ | refine z1 c1 ?_ | refine z2 c1 ?_ | refine z3 c1 ?_ | refine z4 c1 ?_ | refine z5 c1 ?_ | refine w8 ?_ | refine w9 ?_ | refine w1 ?_ | refine w2 ?_ | refine w3 ?_ | refine w4 ?_ | refine w5 ?_ | refine w6 ?_ | refine w7 ?_ | refine yo0 ?_ ?_ | refine yw0 ?_ ?_ | exact qq | fail)
      refine kretv rfl ⟨Nat.zero_lt_one, trivial, trivial⟩ rfl ?_
      rw [lastS', if_neg h, hf]; rfl
    | some p =>
      have c1 := findPast_s l s hl hf
      have hp := hb p (findPa_mem hf)
      have hw : IntKind.i64.wrap (n - 1) = n - 1 := w64 (by omega) (by omega)
      repeat' (first | refine yo ?_ ?_ | refine yw ?_ ?_ | refine yk ?_ ?_ | exact trivial | with_reducible refine wA ?_ ?_ | refine ys ?_ ?_ | refine xs_done ?_ | refine yl ?_ ?_ | (refine pop_callc [] rfl rfl rfl rfl rfl rfl (fun _ h => by cases h) (c1) (args_cl _ rfl) ?_; rintro _ rfl) | refine w8 ?_ | refine w9 ?_ | refine w1 ?_ | refine w2 ?_ | refine w3 ?_ | refine w4 ?_ | refine w5 ?_ | refine w6 ?_ | refine w7 ?_ | refine yo0 ?_ ?_ | refine yw0 ?_ ?_ | exact qq | fail)
      refine pcond (b := decide ((p.k : Int) < n)) (eqB rfl) ?_ ?_ <;> intro h2
      · have h2 := of_decide_eq_true h2
        repeat' (first | refine yo ?_ ?_ | refine yw ?_ ?_ | refine yk ?_ ?_ | exact trivial | with_reducible refine wA ?_ ?_ | refine ys ?_ ?_ | refine xs_done ?_ | refine yl ?_ ?_ | refine w8 ?_ | refine w9 ?_ | refine w1 ?_ | refine w2 ?_ | refine w3 ?_ | refine w4 ?_ | refine w5 ?_ | refine w6 ?_ | refine w7 ?_ | refine yo0 ?_ ?_ | refine yw0 ?_ ?_ | exact qq | fail)
        refine kretv rfl ⟨Nat.zero_lt_one, trivial, trivial⟩ rfl ?_
        rw [lastS', if_neg h, hf]
        show _ = vRE (if (p.k : Int) < n then _ else _)
        rw [if_pos h2]; rfl
      · have h2 := of_decide_eq_false h2
        have hn1 : (n - 1).toNat = n.toNat - 1 := by omega
        have hv := hp.v (n.toNat - 1) (by omega)
        rw [← hn1] at hv
        have c2 := ratioValid_c (p.f (n - 1).toNat).1 (p.f (n - 1).toNat).2 hv.1 hv.2
        rw [← hw] at c2
        repeat' (first | refine yo ?_ ?_ | refine yw ?_ ?_ | refine yk ?_ ?_ | exact trivial | with_reducible refine wA ?_ ?_ | refine ys ?_ ?_ | refine xs_done ?_ | refine yl ?_ ?_ | refine z1 c2 ?_ | refine z2 c2 ?_ | refine z3 c2 ?_ | refine z4 c2 ?_ | refine z5 c2 ?_ | refine w8 ?_ | refine w9 ?_ | refine w1 ?_ | refine w2 ?_ | refine w3 ?_ | refine w4 ?_ | refine w5 ?_ | refine w6 ?_ | refine w7 ?_ | refine yo0 ?_ ?_ | refine yw0 ?_ ?_ | exact qq | fail)
        refine pcond rfl ?_ ?_ <;> intro h3
        · have h3 := nv_t h3
          rw [hw, hn1] at h3
          repeat' (first | refine yo ?_ ?_ | refine yw ?_ ?_ | refine yk ?_ ?_ | exact trivial | with_reducible refine wA ?_ ?_ | refine ys ?_ ?_ | refine xs_done ?_ | refine yl ?_ ?_ | refine w8 ?_ | refine w9 ?_ | refine w1 ?_ | refine w2 ?_ | refine w3 ?_ | refine w4 ?_ | refine w5 ?_ | refine w6 ?_ | refine w7 ?_ | refine yo0 ?_ ?_ | refine yw0 ?_ ?_ | exact qq | fail)
          refine kretv rfl ⟨Nat.zero_lt_one, trivial, trivial⟩ rfl ?_
          rw [lastS', if_neg h, hf]
          show _ = vRE (if (p.k : Int) < n then _ else if _ then _ else _)
          rw [if_neg h2, if_neg (by rw [h3]; decide)]; rfl
        · have h3 := nv_f h3
          rw [hw, hn1] at h3
          repeat' (first | refine yo ?_ ?_ | refine yw ?_ ?_ | refine yk ?_ ?_ | exact trivial | with_reducible refine wA ?_ ?_ | refine ys ?_ ?_ | refine xs_done ?_ | refine yl ?_ ?_ | refine w8 ?_ | refine w9 ?_ | refine w1 ?_ | refine w2 ?_ | refine w3 ?_ | refine w4 ?_ | refine w5 ?_ | refine w6 ?_ | refine w7 ?_ | refine yo0 ?_ ?_ | refine yw0 ?_ ?_ | exact qq | fail)
          refine kretv rfl ⟨Nat.zero_lt_one, trivial, trivial⟩ rfl ?_
          rw [lastS', if_neg h, hf]
          show _ = vRE (if (p.k : Int) < n then _ else if _ then _ else _)
          rw [if_neg h2, if_pos h3, hw, hn1]; rfl
abbrev dIn : In := ⟨⟨#[]⟩, 0, 0⟩
abbrev vIns (l : List In) : PV := .vsl l.length 3 (tF cIn (lF dIn l))
abbrev vEv (N : List In) (S : List Df) (P : List Pa) : PV := .agg 3 (nthP [vIns N, vDs S, vPas P])
theorem mem_lF {α : Type} {d : α} {l : List α} {i : Nat} (h : i < l.length) : lF d l i ∈ l := by
  unfold lF
  rw [List.getD_eq_getElem?_getD, List.getElem?_eq_getElem h]
  exact List.getElem_mem h
theorem name_c (N : List In) (S : List Df) (P : List Pa) (s : ByteArray) (hl : N.length ≤ 1000000000) (hb : ∀ x, x ∈ N → -9223372036854775808 ≤ x.n ∧ x.n ≤ 9223372036854775807) : PureC G.P 42 [vEv N S P, vs s] (fun r => r = vRE (inS N s)) := by
  refine pure_of (G := G.toPg) (fn := Tryz.f42) Tryz.func42 rfl rfl rfl ?_; intro Γ hk
  repeat' (first | refine yo ?_ ?_ | refine yw ?_ ?_ | refine yk ?_ ?_ | exact trivial | with_reducible refine wA ?_ ?_ | refine ys ?_ ?_ | refine xs_done ?_ | refine yl ?_ ?_ | refine w8 ?_ | refine w9 ?_ | refine w1 ?_ | refine w2 ?_ | refine w3 ?_ | refine w4 ?_ | refine w5 ?_ | refine w6 ?_ | refine w7 ?_ | refine yo0 ?_ ?_ | refine yw0 ?_ ?_ | exact qq | fail)
  refine pcan (st' := ⟨[(1, vs s), (4, .ptr 0 0 0), (9, vIns N), (10, vi N.length), (11, vi ((0 : Nat) : Int))], [rR 0 0]⟩) (can_rowsv [1] (k0_sel hk rfl) rfl (by (repeat (refine SelV.cons rfl rqq ?_)); exact SelV.nil) tmq) ?_
  refine ploop (fun q st => ∃ i : Nat, i ≤ N.length ∧ (∀ j, j < i → ((lF dIn N j).nm.toList == s.toList) = false) ∧ q = N.length - i ∧ st = ⟨[(1, vs s), (4, .ptr 0 0 0), (9, vIns N), (10, vi N.length), (11, vi i)], [rR 0 0]⟩) N.length ⟨0, by omega, fun j hj => by omega, by omega, rfl⟩ ?_
  rintro _ _ ⟨i, hi, hv, rfl, rfl⟩
  repeat' (first | refine yo ?_ ?_ | refine yw ?_ ?_ | refine yk ?_ ?_ | exact trivial | with_reducible refine wA ?_ ?_ | refine ys ?_ ?_ | refine xs_done ?_ | refine yl ?_ ?_ | refine w8 ?_ | refine w9 ?_ | refine w1 ?_ | refine w2 ?_ | refine w3 ?_ | refine w4 ?_ | refine w5 ?_ | refine w6 ?_ | refine w7 ?_ | refine yo0 ?_ ?_ | refine yw0 ?_ ?_ | exact qq | fail)
  refine pcond rfl ?_ ?_ <;> intro hc <;> simp at hc
  · have hx := hb _ (mem_lF (d := dIn) hc)
    have c1 := ratioValid_c (lF dIn N i).n (lF dIn N i).d hx.1 hx.2
    repeat' (first | refine yo ?_ ?_ | refine yw ?_ ?_ | refine yk ?_ ?_ | exact trivial | with_reducible refine wA ?_ ?_ | refine ys ?_ ?_ | refine xs_done ?_ | refine yl ?_ ?_ | refine w8 ?_ | refine w9 ?_ | refine w1 ?_ | refine w2 ?_ | refine w3 ?_ | refine w4 ?_ | refine w5 ?_ | refine w6 ?_ | refine w7 ?_ | refine yo0 ?_ ?_ | refine yw0 ?_ ?_ | exact qq | fail)
    refine pcond (b := !((lF dIn N i).nm.toList == s.toList)) (eqB rfl) ?_ ?_ <;> intro h1
    · have h1 := nv_t h1
      repeat' (first | refine yo ?_ ?_ | refine yw ?_ ?_ | refine yk ?_ ?_ | exact trivial | with_reducible refine wA ?_ ?_ | refine ys ?_ ?_ | refine xs_done ?_ | refine yl ?_ ?_ | refine w8 ?_ | refine w9 ?_ | refine w1 ?_ | refine w2 ?_ | refine w3 ?_ | refine w4 ?_ | refine w5 ?_ | refine w6 ?_ | refine w7 ?_ | refine yo0 ?_ ?_ | refine yw0 ?_ ?_ | exact qq | fail)
      rw [show IntKind.i64.wrap ((i : Int) + 1) = ((i + 1 : Nat) : Int) from w64 (by omega) (by omega)]
      exact kloop_next (st' := ⟨[(1, vs s), (4, .ptr 0 0 0), (9, vIns N), (10, vi N.length), (11, vi ((i + 1 : Nat) : Int))], [rR 0 0]⟩) (N.length - (i + 1)) (can_rowsv [0] (k0_sel hk rfl) rfl (by (repeat (refine SelV.cons rfl rqq ?_)); exact SelV.nil) tmq) (by omega) ⟨i + 1, by omega, fun j hj => by
        by_cases e : j = i
        · subst e; exact h1
        · exact hv j (by omega), rfl, rfl⟩
    · have h1 := nv_f h1
      have hf : (N.find? fun x => x.nm.toList == s.toList) = some (lF dIn N i) := find_at (fun x : In => x.nm.toList == s.toList) N i hc hv h1
      repeat' (first | refine yo ?_ ?_ | refine yw ?_ ?_ | refine yk ?_ ?_ | exact trivial | with_reducible refine wA ?_ ?_ | refine ys ?_ ?_ | refine xs_done ?_ | refine yl ?_ ?_ | refine z1 c1 ?_ | refine z2 c1 ?_ | refine z3 c1 ?_ | refine z4 c1 ?_ | refine z5 c1 ?_ | refine w8 ?_ | refine w9 ?_ | refine w1 ?_ | refine w2 ?_ | refine w3 ?_ | refine w4 ?_ | refine w5 ?_ | refine w6 ?_ | refine w7 ?_ | refine yo0 ?_ ?_ | refine yw0 ?_ ?_ | exact qq | fail)
      refine pcond rfl ?_ ?_ <;> intro h2
      · have h2 := nv_t h2
        repeat' (first | refine yo ?_ ?_ | refine yw ?_ ?_ | refine yk ?_ ?_ | exact trivial | with_reducible refine wA ?_ ?_ | refine ys ?_ ?_ | refine xs_done ?_ | refine yl ?_ ?_ | refine w8 ?_ | refine w9 ?_ | refine w1 ?_ | refine w2 ?_ | refine w3 ?_ | refine w4 ?_ | refine w5 ?_ | refine w6 ?_ | refine w7 ?_ | refine yo0 ?_ ?_ | refine yw0 ?_ ?_ | exact qq | fail)
        refine kretv rfl ⟨Nat.zero_lt_one, trivial, trivial⟩ rfl ?_
        unfold inS
        rw [hf]
        show _ = vRE (if _ then _ else _)
        rw [if_neg (by rw [h2]; decide)]; rfl
      · have h2 := nv_f h2
        repeat' (first | refine yo ?_ ?_ | refine yw ?_ ?_ | refine yk ?_ ?_ | exact trivial | with_reducible refine wA ?_ ?_ | refine ys ?_ ?_ | refine xs_done ?_ | refine yl ?_ ?_ | refine w8 ?_ | refine w9 ?_ | refine w1 ?_ | refine w2 ?_ | refine w3 ?_ | refine w4 ?_ | refine w5 ?_ | refine w6 ?_ | refine w7 ?_ | refine yo0 ?_ ?_ | refine yw0 ?_ ?_ | exact qq | fail)
        refine kretv rfl ⟨Nat.zero_lt_one, trivial, trivial⟩ rfl ?_
        unfold inS
        rw [hf]
        show _ = vRE (if _ then _ else _)
        rw [if_pos h2]; rfl
  · have hf : (N.find? fun x => x.nm.toList == s.toList) = none := find_no (fun x : In => x.nm.toList == s.toList) N fun j hj => hv j (by omega)
    repeat' (first | refine yo ?_ ?_ | refine yw ?_ ?_ | refine yk ?_ ?_ | exact trivial | with_reducible refine wA ?_ ?_ | refine ys ?_ ?_ | refine xs_done ?_ | refine yl ?_ ?_ | refine w8 ?_ | refine w9 ?_ | refine w1 ?_ | refine w2 ?_ | refine w3 ?_ | refine w4 ?_ | refine w5 ?_ | refine w6 ?_ | refine w7 ?_ | refine yo0 ?_ ?_ | refine yw0 ?_ ?_ | exact qq | fail)
    refine kretv rfl ⟨Nat.zero_lt_one, trivial, trivial⟩ rfl ?_
    unfold inS
    rw [hf]; rfl
theorem truth_c' (b : Bool) : PureC G.P 45 [vb b] (fun r => r = vr (truS b).1 (truS b).2) := by
  have c1 := integer_c 1
  have c0 := integer_c 0
  refine pure_of (G := G.toPg) (fn := Tryz.f45) Tryz.func45 rfl rfl rfl ?_; intro Γ hk
  repeat' (first | refine yo ?_ ?_ | refine yw ?_ ?_ | refine yk ?_ ?_ | exact trivial | with_reducible refine wA ?_ ?_ | refine ys ?_ ?_ | refine xs_done ?_ | refine yl ?_ ?_ | refine w8 ?_ | refine w9 ?_ | refine w1 ?_ | refine w2 ?_ | refine w3 ?_ | refine w4 ?_ | refine w5 ?_ | refine w6 ?_ | refine w7 ?_ | refine yo0 ?_ ?_ | refine yw0 ?_ ?_ | exact qq | fail)
  refine pcond rfl ?_ ?_ <;> intro h
  · subst h
    repeat' (first | refine yo ?_ ?_ | refine yw ?_ ?_ | refine yk ?_ ?_ | exact trivial | with_reducible refine wA ?_ ?_ | refine ys ?_ ?_ | refine xs_done ?_ | refine yl ?_ ?_ | refine z1 c1 ?_ | refine z2 c1 ?_ | refine z3 c1 ?_ | refine z4 c1 ?_ | refine z5 c1 ?_ | refine w8 ?_ | refine w9 ?_ | refine w1 ?_ | refine w2 ?_ | refine w3 ?_ | refine w4 ?_ | refine w5 ?_ | refine w6 ?_ | refine w7 ?_ | refine yo0 ?_ ?_ | refine yw0 ?_ ?_ | exact qq | fail)
    exact kretv rfl ⟨Nat.zero_lt_one, trivial⟩ rfl rfl
  · subst h
    repeat' (first | refine yo ?_ ?_ | refine yw ?_ ?_ | refine yk ?_ ?_ | exact trivial | with_reducible refine wA ?_ ?_ | refine ys ?_ ?_ | refine xs_done ?_ | refine yl ?_ ?_ | refine z1 c0 ?_ | refine z2 c0 ?_ | refine z3 c0 ?_ | refine z4 c0 ?_ | refine z5 c0 ?_ | refine w8 ?_ | refine w9 ?_ | refine w1 ?_ | refine w2 ?_ | refine w3 ?_ | refine w4 ?_ | refine w5 ?_ | refine w6 ?_ | refine w7 ?_ | refine yo0 ?_ ?_ | refine yw0 ?_ ?_ | exact qq | fail)
    exact kretv rfl ⟨Nat.zero_lt_one, trivial⟩ rfl rfl
structure BdS (d : Df) : Prop where
  n : d.ne ≤ 1000000000
  v : ∀ i, i < d.ne → -9223372036854775808 ≤ (d.ef i).2.1 ∧ (d.ef i).2.1 ≤ 9223372036854775807
def isS (s : ByteArray) (d : Df) : Bool := decide (d.kind = 2) && (d.nm.toList == s.toList)
theorem scale_c (N : List In) (S : List Df) (P : List Pa) (s : ByteArray) (a b : Int) (hl : S.length ≤ 1000000000) (hb : ∀ d, d ∈ S → BdS d) (ha : -9223372036854775808 ≤ a ∧ a ≤ 9223372036854775807) : PureC G.P 43 [vEv N S P, vs s, vr a b] (fun r => r = vRE (scaS S s a b)) := by
  refine pure_of (G := G.toPg) (fn := Tryz.f43) Tryz.func43 rfl rfl rfl ?_; intro Γ hk
  repeat' (first | refine yo ?_ ?_ | refine yw ?_ ?_ | refine yk ?_ ?_ | exact trivial | with_reducible refine wA ?_ ?_ | refine ys ?_ ?_ | refine xs_done ?_ | refine yl ?_ ?_ | refine w8 ?_ | refine w9 ?_ | refine w1 ?_ | refine w2 ?_ | refine w3 ?_ | refine w4 ?_ | refine w5 ?_ | refine w6 ?_ | refine w7 ?_ | refine yo0 ?_ ?_ | refine yw0 ?_ ?_ | exact qq | fail)
  refine pcan (st' := ⟨[(1, vs s), (5, .ptr 0 0 0), (6, .ptr 1 0 0), (11, vDs S), (12, vi S.length), (13, vi ((0 : Nat) : Int))], [rR a b, rR 0 0]⟩) (can_rowsv [1,2] (k0_sel hk rfl) rfl (by (repeat (refine SelV.cons rfl rqq ?_)); exact SelV.nil) tmq) ?_
  refine ploop (fun q st => ∃ i : Nat, i ≤ S.length ∧ (∀ j, j < i → isS s (lF dD S j) = false) ∧ q = S.length - i ∧ st = ⟨[(1, vs s), (5, .ptr 0 0 0), (6, .ptr 1 0 0), (11, vDs S), (12, vi S.length), (13, vi i)], [rR a b, rR 0 0]⟩) S.length ⟨0, by omega, fun j hj => by omega, by omega, rfl⟩ ?_
  rintro _ _ ⟨i, hi, hv, rfl, rfl⟩
  repeat' (first | refine yo ?_ ?_ | refine yw ?_ ?_ | refine yk ?_ ?_ | exact trivial | with_reducible refine wA ?_ ?_ | refine ys ?_ ?_ | refine xs_done ?_ | refine yl ?_ ?_ | refine w8 ?_ | refine w9 ?_ | refine w1 ?_ | refine w2 ?_ | refine w3 ?_ | refine w4 ?_ | refine w5 ?_ | refine w6 ?_ | refine w7 ?_ | refine yo0 ?_ ?_ | refine yw0 ?_ ?_ | exact qq | fail)
  refine pcond rfl ?_ ?_ <;> intro hc <;> simp at hc
  · have hx := hb _ (mem_lF (d := dD) hc)
    have c1 := lookup_c (lF dD S i).ne (lF dD S i).ef a b hx.n hx.v ha
    repeat' (first | refine yo ?_ ?_ | refine yw ?_ ?_ | refine yk ?_ ?_ | exact trivial | with_reducible refine wA ?_ ?_ | refine ys ?_ ?_ | refine xs_done ?_ | refine yl ?_ ?_ | refine w8 ?_ | refine w9 ?_ | refine w1 ?_ | refine w2 ?_ | refine w3 ?_ | refine w4 ?_ | refine w5 ?_ | refine w6 ?_ | refine w7 ?_ | refine yo0 ?_ ?_ | refine yw0 ?_ ?_ | exact qq | fail)
    refine pcond (b := isS s (lF dD S i)) ?_ ?_ ?_
    · refine eqB ?_
      unfold isS
      rw [bqd, show ((i : Int)).toNat = i from rfl]
      cases decide ((lF dD S i).kind = 2) <;> rfl
    · intro h1
      have hf : (S.find? (isS s)) = some (lF dD S i) := find_at (isS s) S i hc hv h1
      repeat' (first | refine yo ?_ ?_ | refine yw ?_ ?_ | refine yk ?_ ?_ | exact trivial | with_reducible refine wA ?_ ?_ | refine ys ?_ ?_ | refine xs_done ?_ | refine yl ?_ ?_ | refine z1 c1 ?_ | refine z2 c1 ?_ | refine z3 c1 ?_ | refine z4 c1 ?_ | refine z5 c1 ?_ | refine w8 ?_ | refine w9 ?_ | refine w1 ?_ | refine w2 ?_ | refine w3 ?_ | refine w4 ?_ | refine w5 ?_ | refine w6 ?_ | refine w7 ?_ | refine yo0 ?_ ?_ | refine yw0 ?_ ?_ | exact qq | fail)
      refine kretv rfl ⟨Nat.zero_lt_one, trivial, trivial⟩ rfl ?_
      unfold scaS
      rw [show (S.find? fun d => decide (d.kind = 2) && (d.nm.toList == s.toList)) = some (lF dD S i) from hf]; rfl
    · intro h1
      repeat' (first | refine yo ?_ ?_ | refine yw ?_ ?_ | refine yk ?_ ?_ | exact trivial | with_reducible refine wA ?_ ?_ | refine ys ?_ ?_ | refine xs_done ?_ | refine yl ?_ ?_ | refine w8 ?_ | refine w9 ?_ | refine w1 ?_ | refine w2 ?_ | refine w3 ?_ | refine w4 ?_ | refine w5 ?_ | refine w6 ?_ | refine w7 ?_ | refine yo0 ?_ ?_ | refine yw0 ?_ ?_ | exact qq | fail)
      rw [show IntKind.i64.wrap ((i : Int) + 1) = ((i + 1 : Nat) : Int) from w64 (by omega) (by omega)]
      exact kloop_next (st' := ⟨[(1, vs s), (5, .ptr 0 0 0), (6, .ptr 1 0 0), (11, vDs S), (12, vi S.length), (13, vi ((i + 1 : Nat) : Int))], [rR a b, rR 0 0]⟩) (S.length - (i + 1)) (can_rowsv [0,1] (k0_sel hk rfl) rfl (by (repeat (refine SelV.cons rfl rqq ?_)); exact SelV.nil) tmq) (by omega) ⟨i + 1, by omega, fun j hj => by
        by_cases e : j = i
        · subst e; exact h1
        · exact hv j (by omega), rfl, rfl⟩
  · have hf : S.find? (isS s) = none := find_no (isS s) S fun j hj => hv j (by omega)
    repeat' (first | refine yo ?_ ?_ | refine yw ?_ ?_ | refine yk ?_ ?_ | exact trivial | with_reducible refine wA ?_ ?_ | refine ys ?_ ?_ | refine xs_done ?_ | refine yl ?_ ?_ | refine w8 ?_ | refine w9 ?_ | refine w1 ?_ | refine w2 ?_ | refine w3 ?_ | refine w4 ?_ | refine w5 ?_ | refine w6 ?_ | refine w7 ?_ | refine yo0 ?_ ?_ | refine yw0 ?_ ?_ | exact qq | fail)
    refine kretv rfl ⟨Nat.zero_lt_one, trivial, trivial⟩ rfl ?_
    unfold scaS
    rw [show (S.find? fun d => decide (d.kind = 2) && (d.nm.toList == s.toList)) = none from hf]; rfl
theorem combine_c (op : Int) (x y : Int × Int) (hop : 5 ≤ op ∧ op ≤ 11 ∨ op = 14 ∨ op = 15) (hx : -9223372036854775808 ≤ x.1 ∧ x.1 ≤ 9223372036854775807) (hy : -9223372036854775808 ≤ y.1 ∧ y.1 ≤ 9223372036854775807) : PureC G.P 47 [vi op, vr x.1 x.2, vr y.1 y.2] (fun r => r = vRE (combS op x y)) := by
  have c1 := ratioAdd_c x.1 x.2 y.1 y.2 hx.1 hx.2 hy.1 hy.2
  have c2 := ratioSub_c x.1 x.2 y.1 y.2 hx.1 hx.2 hy.1 hy.2
  have c3 := ratioMul_c x.1 x.2 y.1 y.2 hx.1 hx.2 hy.1 hy.2
  have c4 := ratioDiv_f x.1 x.2 y.1 y.2 hx.1 hx.2 hy.1 hy.2
  have c5 := ratioCompare_c x.1 x.2 y.1 y.2 hx.1 hx.2 hy.1 hy.2
  have t := truth_c'
  have hop : op = 5 ∨ op = 6 ∨ op = 7 ∨ op = 8 ∨ op = 9 ∨ op = 10 ∨ op = 11 ∨ op = 14 ∨ op = 15 := by omega
  rcases hop with rfl | rfl | rfl | rfl | rfl | rfl | rfl | rfl | rfl
  · refine pure_of (G := G.toPg) (fn := Tryz.f47) Tryz.func47 rfl rfl rfl ?_; intro Γ hk
    repeat' (first | refine yo ?_ ?_ | refine yw ?_ ?_ | refine yk ?_ ?_ | exact trivial | with_reducible refine wA ?_ ?_ | refine ys ?_ ?_ | refine xs_done ?_ | refine yl ?_ ?_ | refine z1 c1 ?_ | refine z2 c1 ?_ | refine z3 c1 ?_ | refine z4 c1 ?_ | refine z5 c1 ?_ | refine w8 ?_ | refine w9 ?_ | refine w1 ?_ | refine w2 ?_ | refine w3 ?_ | refine w4 ?_ | refine w5 ?_ | refine w6 ?_ | refine w7 ?_ | refine yo0 ?_ ?_ | refine yw0 ?_ ?_ | exact qq | fail)
    exact kretv rfl ⟨Nat.zero_lt_one, trivial, trivial⟩ rfl rfl
  · refine pure_of (G := G.toPg) (fn := Tryz.f47) Tryz.func47 rfl rfl rfl ?_; intro Γ hk
    repeat' (first | refine yo ?_ ?_ | refine yw ?_ ?_ | refine yk ?_ ?_ | exact trivial | with_reducible refine wA ?_ ?_ | refine ys ?_ ?_ | refine xs_done ?_ | refine yl ?_ ?_ | refine z1 c2 ?_ | refine z2 c2 ?_ | refine z3 c2 ?_ | refine z4 c2 ?_ | refine z5 c2 ?_ | refine w8 ?_ | refine w9 ?_ | refine w1 ?_ | refine w2 ?_ | refine w3 ?_ | refine w4 ?_ | refine w5 ?_ | refine w6 ?_ | refine w7 ?_ | refine yo0 ?_ ?_ | refine yw0 ?_ ?_ | exact qq | fail)
    exact kretv rfl ⟨Nat.zero_lt_one, trivial, trivial⟩ rfl rfl
  · refine pure_of (G := G.toPg) (fn := Tryz.f47) Tryz.func47 rfl rfl rfl ?_; intro Γ hk
    repeat' (first | refine yo ?_ ?_ | refine yw ?_ ?_ | refine yk ?_ ?_ | exact trivial | with_reducible refine wA ?_ ?_ | refine ys ?_ ?_ | refine xs_done ?_ | refine yl ?_ ?_ | refine z1 c3 ?_ | refine z2 c3 ?_ | refine z3 c3 ?_ | refine z4 c3 ?_ | refine z5 c3 ?_ | refine w8 ?_ | refine w9 ?_ | refine w1 ?_ | refine w2 ?_ | refine w3 ?_ | refine w4 ?_ | refine w5 ?_ | refine w6 ?_ | refine w7 ?_ | refine yo0 ?_ ?_ | refine yw0 ?_ ?_ | exact qq | fail)
    exact kretv rfl ⟨Nat.zero_lt_one, trivial, trivial⟩ rfl rfl
  · refine pure_of (G := G.toPg) (fn := Tryz.f47) Tryz.func47 rfl rfl rfl ?_; intro Γ hk
    repeat' (first | refine yo ?_ ?_ | refine yw ?_ ?_ | refine yk ?_ ?_ | exact trivial | with_reducible refine wA ?_ ?_ | refine ys ?_ ?_ | refine xs_done ?_ | refine yl ?_ ?_ | refine z1 c4 ?_ | refine z2 c4 ?_ | refine z3 c4 ?_ | refine z4 c4 ?_ | refine z5 c4 ?_ | refine w8 ?_ | refine w9 ?_ | refine w1 ?_ | refine w2 ?_ | refine w3 ?_ | refine w4 ?_ | refine w5 ?_ | refine w6 ?_ | refine w7 ?_ | refine yo0 ?_ ?_ | refine yw0 ?_ ?_ | exact qq | fail)
    exact kretv rfl ⟨Nat.zero_lt_one, trivial, trivial⟩ rfl rfl
  · refine pure_of (G := G.toPg) (fn := Tryz.f47) Tryz.func47 rfl rfl rfl ?_; intro Γ hk
    repeat' (first | refine yo ?_ ?_ | refine yw ?_ ?_ | refine yk ?_ ?_ | exact trivial | with_reducible refine wA ?_ ?_ | refine ys ?_ ?_ | refine xs_done ?_ | refine yl ?_ ?_ | refine z1 c5 ?_ | refine z2 c5 ?_ | refine z3 c5 ?_ | refine z4 c5 ?_ | refine z5 c5 ?_ | refine z1 (t _) ?_ | refine z2 (t _) ?_ | refine z3 (t _) ?_ | refine z4 (t _) ?_ | refine z5 (t _) ?_ | refine w8 ?_ | refine w9 ?_ | refine w1 ?_ | refine w2 ?_ | refine w3 ?_ | refine w4 ?_ | refine w5 ?_ | refine w6 ?_ | refine w7 ?_ | refine yo0 ?_ ?_ | refine yw0 ?_ ?_ | exact qq | fail)
    exact kretv rfl ⟨Nat.zero_lt_one, trivial, trivial⟩ rfl rfl
  · refine pure_of (G := G.toPg) (fn := Tryz.f47) Tryz.func47 rfl rfl rfl ?_; intro Γ hk
    repeat' (first | refine yo ?_ ?_ | refine yw ?_ ?_ | refine yk ?_ ?_ | exact trivial | with_reducible refine wA ?_ ?_ | refine ys ?_ ?_ | refine xs_done ?_ | refine yl ?_ ?_ | refine z1 c5 ?_ | refine z2 c5 ?_ | refine z3 c5 ?_ | refine z4 c5 ?_ | refine z5 c5 ?_ | refine z1 (t _) ?_ | refine z2 (t _) ?_ | refine z3 (t _) ?_ | refine z4 (t _) ?_ | refine z5 (t _) ?_ | refine w8 ?_ | refine w9 ?_ | refine w1 ?_ | refine w2 ?_ | refine w3 ?_ | refine w4 ?_ | refine w5 ?_ | refine w6 ?_ | refine w7 ?_ | refine yo0 ?_ ?_ | refine yw0 ?_ ?_ | exact qq | fail)
    exact kretv rfl ⟨Nat.zero_lt_one, trivial, trivial⟩ rfl rfl
  · refine pure_of (G := G.toPg) (fn := Tryz.f47) Tryz.func47 rfl rfl rfl ?_; intro Γ hk
    repeat' (first | refine yo ?_ ?_ | refine yw ?_ ?_ | refine yk ?_ ?_ | exact trivial | with_reducible refine wA ?_ ?_ | refine ys ?_ ?_ | refine xs_done ?_ | refine yl ?_ ?_ | refine z1 c5 ?_ | refine z2 c5 ?_ | refine z3 c5 ?_ | refine z4 c5 ?_ | refine z5 c5 ?_ | refine z1 (t _) ?_ | refine z2 (t _) ?_ | refine z3 (t _) ?_ | refine z4 (t _) ?_ | refine z5 (t _) ?_ | refine w8 ?_ | refine w9 ?_ | refine w1 ?_ | refine w2 ?_ | refine w3 ?_ | refine w4 ?_ | refine w5 ?_ | refine w6 ?_ | refine w7 ?_ | refine yo0 ?_ ?_ | refine yw0 ?_ ?_ | exact qq | fail)
    refine kretv rfl ⟨Nat.zero_lt_one, trivial, trivial⟩ rfl ?_
    rw [bqd]; rfl
  · refine pure_of (G := G.toPg) (fn := Tryz.f47) Tryz.func47 rfl rfl rfl ?_; intro Γ hk
    repeat' (first | refine yo ?_ ?_ | refine yw ?_ ?_ | refine yk ?_ ?_ | exact trivial | with_reducible refine wA ?_ ?_ | refine ys ?_ ?_ | refine xs_done ?_ | refine yl ?_ ?_ | refine z1 c5 ?_ | refine z2 c5 ?_ | refine z3 c5 ?_ | refine z4 c5 ?_ | refine z5 c5 ?_ | refine w8 ?_ | refine w9 ?_ | refine w1 ?_ | refine w2 ?_ | refine w3 ?_ | refine w4 ?_ | refine w5 ?_ | refine w6 ?_ | refine w7 ?_ | refine yo0 ?_ ?_ | refine yw0 ?_ ?_ | exact qq | fail)
    refine pcond rfl ?_ ?_ <;> intro h <;> simp at h
    · repeat' (first | refine yo ?_ ?_ | refine yw ?_ ?_ | refine yk ?_ ?_ | exact trivial | with_reducible refine wA ?_ ?_ | refine ys ?_ ?_ | refine xs_done ?_ | refine yl ?_ ?_ | refine w8 ?_ | refine w9 ?_ | refine w1 ?_ | refine w2 ?_ | refine w3 ?_ | refine w4 ?_ | refine w5 ?_ | refine w6 ?_ | refine w7 ?_ | refine yo0 ?_ ?_ | refine yw0 ?_ ?_ | exact qq | fail)
      refine kretv rfl ⟨Nat.zero_lt_one, trivial, trivial⟩ rfl ?_
      show _ = vRE (if _ then _ else _, 0)
      rw [if_pos h]; rfl
    · repeat' (first | refine yo ?_ ?_ | refine yw ?_ ?_ | refine yk ?_ ?_ | exact trivial | with_reducible refine wA ?_ ?_ | refine ys ?_ ?_ | refine xs_done ?_ | refine yl ?_ ?_ | refine w8 ?_ | refine w9 ?_ | refine w1 ?_ | refine w2 ?_ | refine w3 ?_ | refine w4 ?_ | refine w5 ?_ | refine w6 ?_ | refine w7 ?_ | refine yo0 ?_ ?_ | refine yw0 ?_ ?_ | exact qq | fail)
      refine kretv rfl ⟨Nat.zero_lt_one, trivial, trivial⟩ rfl ?_
      show _ = vRE (if _ then _ else _, 0)
      rw [if_neg (by omega)]; rfl
  · refine pure_of (G := G.toPg) (fn := Tryz.f47) Tryz.func47 rfl rfl rfl ?_; intro Γ hk
    repeat' (first | refine yo ?_ ?_ | refine yw ?_ ?_ | refine yk ?_ ?_ | exact trivial | with_reducible refine wA ?_ ?_ | refine ys ?_ ?_ | refine xs_done ?_ | refine yl ?_ ?_ | refine z1 c5 ?_ | refine z2 c5 ?_ | refine z3 c5 ?_ | refine z4 c5 ?_ | refine z5 c5 ?_ | refine w8 ?_ | refine w9 ?_ | refine w1 ?_ | refine w2 ?_ | refine w3 ?_ | refine w4 ?_ | refine w5 ?_ | refine w6 ?_ | refine w7 ?_ | refine yo0 ?_ ?_ | refine yw0 ?_ ?_ | exact qq | fail)
    refine pcond rfl ?_ ?_ <;> intro h <;> simp at h
    · repeat' (first | refine yo ?_ ?_ | refine yw ?_ ?_ | refine yk ?_ ?_ | exact trivial | with_reducible refine wA ?_ ?_ | refine ys ?_ ?_ | refine xs_done ?_ | refine yl ?_ ?_ | refine w8 ?_ | refine w9 ?_ | refine w1 ?_ | refine w2 ?_ | refine w3 ?_ | refine w4 ?_ | refine w5 ?_ | refine w6 ?_ | refine w7 ?_ | refine yo0 ?_ ?_ | refine yw0 ?_ ?_ | exact qq | fail)
      refine kretv rfl ⟨Nat.zero_lt_one, trivial, trivial⟩ rfl ?_
      show _ = vRE (if _ then _ else _, 0)
      rw [if_pos h]; rfl
    · repeat' (first | refine yo ?_ ?_ | refine yw ?_ ?_ | refine yk ?_ ?_ | exact trivial | with_reducible refine wA ?_ ?_ | refine ys ?_ ?_ | refine xs_done ?_ | refine yl ?_ ?_ | refine w8 ?_ | refine w9 ?_ | refine w1 ?_ | refine w2 ?_ | refine w3 ?_ | refine w4 ?_ | refine w5 ?_ | refine w6 ?_ | refine w7 ?_ | refine yo0 ?_ ?_ | refine yw0 ?_ ?_ | exact qq | fail)
      refine kretv rfl ⟨Nat.zero_lt_one, trivial, trivial⟩ rfl ?_
      show _ = vRE (if _ then _ else _, 0)
      rw [if_neg (by omega)]; rfl
end Go.Proofs.YtdifpajpheemaaaGreatDoor
