/- append does what papp says. -/
import Derived.Test.YtcghpepighboaaaDoorPvSlice
import Derived.Deep.AppendSrc
set_option linter.unusedSimpArgs false
set_option linter.unusedVariables false
namespace Go.Proofs.YtcghpepighboaaaDoor
open Go.RowKit
def papp (tab : List TI) (k0 : Nat) (st : PSt) : Op → Option (PV × List Row × Prop)
  | .call c => match c.callee with
    | .builtin b => match b, c.args.toList, c.argTypes.toList with
      | .append, [s, x], [t, t'] => match (tget tab t).k, (tget tab t').k with
        | .slice e, .slice _ => cond (Nat.blt 0 (tget tab e).sz) (match (tget tab e).zero with
          | some z => cond (Nat.beq z.cells.size (tget tab e).sz) (match str (st.ev s) with
            | .val (.slice none 0 0) => asrc st (tget tab e).sz (str (st.ev x)) fun m g c => snocM st.mem ⟨.own, false, m, (tget tab e).sz, g⟩ 0 fun k mem => some (.lsl k 0 m, mem, strP (st.ev s) (strP (st.ev x) (c ∧ 0 < m ∧ m * (tget tab e).bytes ≤ 140737488355328 ∧ m ≤ 9223372036854775807)))
            | .lsl l i n => match rowAt st.mem l with
              | some r => match r.s with
                | .own => cond (Nat.beq r.sz (tget tab e).sz) (asrc st (tget tab e).sz (str (st.ev x)) fun m g c => setM st.mem l ⟨.dead, r.one, r.n, r.sz, r.f⟩ fun mem0 => snocM mem0 ⟨.own, false, n + m, (tget tab e).sz, appF n (fun x => r.f (i + x)) g⟩ 0 fun k mem => some (.lsl k 0 (n + m), mem, strP (st.ev s) (strP (st.ev x) (c ∧ k0 ≤ l ∧ i + n ≤ r.n ∧ (n + m) * (tget tab e).bytes ≤ 140737488355328 ∧ n + m ≤ 9223372036854775807)))) none
                | _ => none
              | none => none
            | _ => none) none
          | none => none) none
        | _, _ => none
      | _, _, _ => none
    | _ => none
  | _ => none
section
variable {P : Program} (w : World)
theorem run_append_zero (t tx ty e e' : TypeId) (i : TypeInfo) (ht : P.underlying t = some (.slice e)) (hx : P.underlying tx = some (.slice e')) (hi : P.info? e = some i) (base : Option Addr) (n cap : Nat) (hn : n ≤ cap) (xa : Option Addr) (xc : Nat) :
    (Builtin.append_ #[t, tx] ty #[.slice base n cap, .slice xa 0 xc]).run P w = .ok (.slice base n cap) w := by
  cases xa <;> cases base <;> simp [Builtin.append_, run_underlying ht, run_underlying hx, sizeOf, typeInfo, hi, Builtin.lenOf, hn, Builtin.firstCells, loadCells, loadCellsFrom, storeCells]
end
section
variable {G : Pg} {N : Nat} {Γ : Fr} {st : PSt} {ρ : Nat → Loc} {I : Nat → Prop} {a : Act} {w : World}
theorem ext_drew (w : World) : Ext w w.drew := ⟨rfl, rfl, rfl, Nat.le_refl _, fun _ _ => rfl⟩
theorem Rel.drew (h : Rel N Γ st ρ I a w) : Rel N Γ st ρ I a w.drew := h.ext (w' := w.drew) (ext_drew w) (I' := I) (fun _ h => h) (fun _ h => .inl h)
structure Appended (N : Nat) (Γ : Fr) (st : PSt) (I : Nat → Prop) (a : Act) (r : PV) (m : List Row) (v : Value) (w' : World) (ρ' : Nat → Loc) : Prop where
  rel : Rel N Γ ⟨st.tm, m⟩ ρ' I a w'
  val : VRel m.length ρ' I w' r v
structure AppC (st : PSt) (ρ : Nat → Loc) (w : World) (ch : List Nat) (w' : World) (ρ' : Nat → Loc) : Prop where
  size : w.heap.size ≤ w'.heap.size
  same : ∀ b, b < w.heap.size → (∀ (l : Nat) (r : Row), l ∈ ch → st.mem[l]? = some r → r.s.isOwn → b ≠ (ρ l).b) → w'.heap[b]? = w.heap[b]?
  loc : ∀ l, l < st.mem.length → ρ' l = ρ l
  new : w.heap.size ≤ (ρ' st.mem.length).b ∨ ∃ l0 r0, l0 ∈ ch ∧ st.mem[l0]? = some r0 ∧ r0.s.isOwn ∧ (ρ' st.mem.length).b = (ρ l0).b
theorem made_app {r : PV} {m : List Row} {v : Value} {w' : World} {ρ' : Nat → Loc} (h : Made N Γ st ρ I a w r m v w' ρ') : Appended N Γ st I a r m v w' ρ' := ⟨h.rel, h.val⟩
theorem grown_app (h : Rel N Γ st ρ I a w) (e : TypeId) (sz n m cap : Nat) (hsz : 0 < sz) (olds news : List Value) (R : Array Value) (f g F : Nat → Nat → PV) (hcap : n + m ≤ cap) (hrest : R.size = (cap - (n + m)) * sz)
    (hF : ∀ x, F x = appF n f g x)
    (ho : olds.length = n * sz) (hof : ∀ i, i < n → ∀ j, j < sz → ∃ u, olds[i * sz + j]? = some u ∧ u.oneCell' = true ∧ VRel st.mem.length ρ I w (f i j) u)
    (hn : news.length = m * sz) (hnf : ∀ i, i < m → ∀ j, j < sz → ∃ u, news[i * sz + j]? = some u ∧ u.oneCell' = true ∧ VRel st.mem.length ρ I w (g i j) u) :
    Made N Γ st ρ I a w.drew (.lsl (0 + st.mem.length) 0 (n + m)) (st.mem ++ [⟨.own, false, n + m, sz, F⟩]) (.slice (some ⟨w.heap.size, 0, none⟩) (n + m) cap) (w.drew.alloc (.cells ((olds ++ news).toArray ++ R) e)) (addLoc ρ st.mem.length ⟨w.heap.size, 0, sz⟩) := by
  have htr : Tr I w w.drew := (ext_drew w).tr h.fr.m.lt
  have hrl : R.toList.length = (cap - (n + m)) * sz := by simpa using hrest
  have harr : (olds ++ news).toArray ++ R = (olds ++ (news ++ R.toList)).toArray := by apply Array.ext'; simp
  have htot : (olds ++ (news ++ R.toList)).length = cap * sz := by
    simp only [List.length_append, ho, hn, hrl, ← Nat.add_mul]
    congr 1; omega
  refine made_slice h.drew e _ ⟨.own, false, n + m, sz, F⟩ (n + m) cap rfl rfl hcap ?_ (fun i hi j hj => ?_)
  · rw [harr]; simp only [List.size_toArray]; rw [htot]; exact Nat.le_refl _
  · simp only at hi hj
    rw [harr]
    by_cases hc : i < n
    · obtain ⟨u, g1, g2, g3⟩ := hof i hc j hj
      refine ⟨u, ?_, g2, ?_⟩
      · have hlt : i * sz + j < olds.length := by
          by_cases hlt : i * sz + j < olds.length
          · exact hlt
          · rw [List.getElem?_eq_none (by omega)] at g1; cases g1
        simp only [List.getElem?_toArray]
        rw [List.getElem?_append_left hlt]; exact g1
      · show VRel _ _ _ _ (F i j) _
        rw [hF, appF_lt f g hc]; exact g3.up (Nat.le_refl _) (fun _ _ => rfl) (fun _ h => h) htr
    · obtain ⟨u, g1, g2, g3⟩ := hnf (i - n) (by omega) j hj
      refine ⟨u, ?_, g2, ?_⟩
      · have hlt : (i - n) * sz + j < news.length := by
          by_cases hlt : (i - n) * sz + j < news.length
          · exact hlt
          · rw [List.getElem?_eq_none (by omega)] at g1; cases g1
        have e1 : i * sz = n * sz + (i - n) * sz := by rw [← Nat.add_mul]; congr 1; omega
        simp only [List.getElem?_toArray]
        rw [List.getElem?_append_right (by omega), List.getElem?_append_left (by omega)]
        rw [← g1]; congr 1; omega
      · show VRel _ _ _ _ (F i j) _
        rw [hF, appF_ge f g (by omega)]; exact g3.up (Nat.le_refl _) (fun _ _ => rfl) (fun _ h => h) htr
theorem src_of {tx e' : TypeId} (hk : G.P.underlying tx = some (.slice e')) {sz m : Nat} {g : Nat → Nat → PV} {v : Value} (hsz : 0 < sz)
    (hv : ∃ ad cap, v = .slice ad m cap ∧ (m = 0 ∨ ∃ b o, ad = some ⟨b, o, none⟩ ∧ ∀ i, i < m → ∀ j, j < sz → ∃ u, w.cell? ⟨b, o + i * sz + j, none⟩ = some u ∧ u.oneCell' = true ∧ VRel st.mem.length ρ I w (g i j) u)) :
    ∃ news, Src G.P sz tx v m news w ∧ ∀ i, i < m → ∀ j, j < sz → ∃ u, news[i * sz + j]? = some u ∧ u.oneCell' = true ∧ VRel st.mem.length ρ I w (g i j) u := by
  obtain ⟨ad, cap, rfl, h⟩ := hv
  rcases h with rfl | ⟨b, o, rfl, hc⟩
  · refine ⟨[], ?_, fun i hi => by omega⟩
    cases ad with
    | none => exact Src.ofNil w hk cap
    | some a => exact Src.ofSlice w hk a 0 cap [] (by simp) (fun j u hj => by simp at hj) (fun u hu => by cases hu)
  · obtain ⟨news, h1, h2, h3, h4⟩ := news_list hsz hc
    exact ⟨news, Src.ofSlice w hk _ m cap news h1 h2 h3, h4⟩
theorem papp_lsl (h : Rel N Γ st ρ I a w) {t tx e e' ty : TypeId} {i : TypeInfo} {z : Value} (ht : G.P.underlying t = some (.slice e)) (hx : G.P.underlying tx = some (.slice e')) (hi : G.P.info? e = some i) (hz : i.zero = some z) (hzs : z.cells.size = i.size) (hsz : 0 < i.size)
    {l x n m : Nat} {r : Row} (hl : st.mem[l]? = some r) (ho : r.s = .own) (hrs : r.sz = i.size) {v u : Value} (hv : VRel st.mem.length ρ I w (.lsl l x n) v) {g : Nat → Nat → PV}
    (hu : ∃ ad cap, u = .slice ad m cap ∧ (m = 0 ∨ ∃ b o, ad = some ⟨b, o, none⟩ ∧ ∀ p, p < m → ∀ j, j < i.size → ∃ y, w.cell? ⟨b, o + p * i.size + j, none⟩ = some y ∧ y.oneCell' = true ∧ VRel st.mem.length ρ I w (g p j) y))
    (hk : Γ.k0 ≤ l) (hn : x + n ≤ r.n) (hb : (n + m) * i.bytes ≤ 140737488355328) (h63 : n + m ≤ 9223372036854775807) (rd : Row) (hrd : rd.s = .dead) :
    ∃ v' w' ρ', (Builtin.append_ #[t, tx] ty #[v, u]).run G.P w = .ok v' w' ∧ Appended N Γ st I a (.lsl (0 + st.mem.length) 0 (n + m)) (st.mem.set l rd ++ [⟨.own, false, n + m, i.size, appF n (fun q => r.f (x + q)) g⟩]) v' w' ρ' ∧ AppC st ρ w [l] w' ρ' := by
  have hlen := lt_get hl
  have hio : r.s.isOwn := by rw [ho]; trivial
  have hlv := RS.live_of_own hio
  obtain ⟨hs0, cs, T, hcb, hcell⟩ := h.fr.m.row l r hl hlv
  obtain ⟨news, hsrc, hnf⟩ := src_of hx hsz hu
  have hlsl : (st.mem.set l rd).length = st.mem.length := by simp
  have grow : ∀ (base : Option Addr) (cap : Nat) (olds : List Value), v = .slice base n cap → cap < n + m → olds.length = n * i.size → (Builtin.firstCells i.size n (.slice base n cap)).run G.P w.drew = .ok olds.toArray w.drew →
      (∀ p, p < n → ∀ j, j < i.size → ∃ y, olds[p * i.size + j]? = some y ∧ y.oneCell' = true ∧ VRel st.mem.length ρ I w (r.f (x + p) j) y) →
      ∃ v' w' ρ', (Builtin.append_ #[t, tx] ty #[v, u]).run G.P w = .ok v' w' ∧ Appended N Γ st I a (.lsl (0 + st.mem.length) 0 (n + m)) (st.mem.set l rd ++ [⟨.own, false, n + m, i.size, appF n (fun q => r.f (x + q)) g⟩]) v' w' ρ' ∧ AppC st ρ w [l] w' ρ' := by
    rintro base cap olds rfl hg hol hold hof
    have hrun := run_append_grow_src (P := G.P) w t tx ty e i z ht hi hz base n cap olds hold u m news hsrc hg (by omega) (growslice_fits hg hb)
    have hkill := h.kill l hl rd hrd
    have := grown_app hkill e i.size n m (grownCap w (n + m) cap e) hsz olds news (Builtin.zeroCells z.cells (grownCap w (n + m) cap e - (n + m))) (fun q => r.f (x + q)) g _ (grownCap_ge w _ _ _) (by rw [size_zeroCells, hzs]) (fun _ => rfl) hol
      (fun p hp j hj => by simpa using hof p hp j hj) hsrc.newsLen (fun p hp j hj => by simpa using hnf p hp j hj)
    simp only [List.length_set] at this
    have hex := (ext_drew w).trans this.ext
    have hsame := this.same
    have hnew := this.new
    simp only [List.length_set] at hsame hnew
    exact ⟨_, _, _, hrun, ⟨this.rel, this.val⟩, hex.size, fun b hb _ => hex.block b hb, hsame, .inl (by rw [hnew]; exact Nat.le_refl _)⟩
  rcases hv.2 with ⟨rfl, ad, rfl⟩ | ⟨cap, hcap, rfl, cs2, T2, fz2, hcb2, hsz2⟩
  · -- no capacity
    by_cases hm : m = 0
    · subst hm
      obtain ⟨xa, xc, rfl, _⟩ := hu
      have hrun := run_append_zero (P := G.P) w t tx ty e e' i ht hx hi ad 0 0 (Nat.le_refl _) xa xc
      have hreb := h.rebase l hl ho x 0 (by omega) hk (appF 0 (fun q => r.f (x + q)) g) (fun _ h => by omega) rd hrd
      rw [hrs] at hreb
      exact ⟨_, _, _, hrun, ⟨hreb, ⟨by simp, .inl ⟨rfl, ad, rfl⟩⟩⟩, Nat.le_refl _, fun _ _ _ => rfl, fun q hq => if_neg (by omega), .inr ⟨l, r, by simp, hl, hio, by simp [addLoc]⟩⟩
    · refine grow ad 0 [] rfl (by omega) (by simp) ?_ (fun p hp => by omega)
      cases ad with
      | none => exact run_firstCells_none w.drew i.size 0 0 0
      | some ad => exact run_firstCells_some w.drew i.size 0 ad 0 0 [] (by simp) (fun j u hj => by simp at hj)
  · rw [hcb] at hcb2
    simp only [Option.some.injEq, Obj.cells.injEq] at hcb2
    obtain ⟨rfl, rfl, rfl⟩ := hcb2
    rw [hs0, hrs] at hsz2
    rw [hrs] at hcell
    have hρn : ∀ q : Loc, addLoc ρ st.mem.length q (0 + st.mem.length) = q := fun q => by simp [addLoc]
    by_cases hg : cap < n + m
    · -- a new block
      have hold0 : ∀ p, p < n → ∀ j, j < i.size → ∃ y, w.cell? ⟨(ρ l).b, ((ρ l).o + x * i.size) + p * i.size + j, none⟩ = some y ∧ y.oneCell' = true ∧ VRel st.mem.length ρ I w (r.f (x + p) j) y := fun p hp j hj => by
        obtain ⟨y, g1, g2, g3⟩ := hcell (x + p) (by omega) j hj
        refine ⟨y, ?_, g2, g3⟩
        simp only [World.cell?, hcb]
        rw [← g1, Nat.add_mul]; simp; congr 1; omega
      obtain ⟨olds, o1, o2, o3, o4⟩ := news_list (g := fun p j => r.f (x + p) j) hsz hold0
      refine grow _ cap olds rfl hg o1 ?_ o4
      rw [hs0, hrs]
      exact run_firstCells_some w.drew i.size n _ n cap olds o1 (by simpa using o2)
    · by_cases hm : m = 0
      · subst hm
        obtain ⟨xa, xc, rfl, _⟩ := hu
        have hrun := run_append_zero (P := G.P) w t tx ty e e' i ht hx hi (some ⟨(ρ l).b, (ρ l).o + x * (ρ l).sz, none⟩) n cap hcap xa xc
        have hreb := h.rebase l hl ho x n hn hk (appF n (fun q => r.f (x + q)) g) (fun q hq y hy => by rw [appF_lt _ _ hq]) rd hrd
        rw [hrs] at hreb
        refine ⟨_, _, _, hrun, ⟨hreb, ⟨by simp, .inr ⟨cap, hcap, ?_, cs, T, (0, 0), ?_, ?_⟩⟩⟩, Nat.le_refl _, fun _ _ _ => rfl, fun q hq => if_neg (by omega), .inr ⟨l, r, by simp, hl, hio, by simp [addLoc]⟩⟩
        · rw [hρn, hs0, hrs]; simp
        · rw [hρn]; exact hcb
        · rw [hρn]; simp only; rw [Nat.add_mul] at hsz2; simp only [Nat.zero_add]; omega
      · -- there is room
        have hnl := hsrc.newsLen
        have hspan : (ρ l).o + x * i.size + n * i.size + news.length ≤ cs.size := by
          have : (n + m) * i.size ≤ cap * i.size := Nat.mul_le_mul_right _ (by omega)
          rw [Nat.add_mul] at this
          rw [Nat.add_mul] at hsz2
          omega
        have hrun := run_append_room_src (P := G.P) w t tx ty e i ht hi (ρ l).b ((ρ l).o + x * i.size) n cap u m news hsrc (by omega)
          (fun j hj => by simp only [World.cell?, hcb]; simp [show (ρ l).o + x * i.size + n * i.size + j < cs.size by omega]) (fun j hj => by simp [World.frozen?, hcb])
        obtain ⟨cs', k1, k2, k3⟩ := heap_setCells (ρ l).b news ((ρ l).o + x * i.size + n * i.size) w cs T (0, 0) hcb
        obtain ⟨z1, z2, z3, z4⟩ := rest_setCells (ρ l).b news ((ρ l).o + x * i.size + n * i.size) w
        have hset := h.setRow hl hio ⟨.own, false, x + n + m, i.size, appF (x + n) r.f g⟩ rfl hrs.symm hcb k1 k2 (fun b hne => other_setCells _ _ _ _ b hne) z1 z2 z3 z4 (fun p hp q hq => by
          simp only at hp hq ⊢
          rw [k3]
          by_cases hc : p < x + n
          · rw [appF_lt _ _ hc, if_neg]
            · exact hcell p (by omega) q hq
            · have : (p + 1) * i.size ≤ (x + n) * i.size := Nat.mul_le_mul_right _ hc
              rw [Nat.add_mul, Nat.add_mul] at this; omega
          · rw [appF_ge _ _ (by omega)]
            obtain ⟨y, y1, y2, y3⟩ := hnf (p - (x + n)) (by omega) q hq
            have e1 : p * i.size = x * i.size + n * i.size + (p - (x + n)) * i.size := by rw [← Nat.add_mul, ← Nat.add_mul]; congr 1; omega
            have hlt : (p - (x + n)) * i.size + q < news.length := by
              by_cases hlt : (p - (x + n)) * i.size + q < news.length
              · exact hlt
              · rw [List.getElem?_eq_none (by omega)] at y1; cases y1
            rw [if_pos (by omega)]
            refine ⟨y, ?_, y2, y3⟩
            rw [show (ρ l).o + p * i.size + q - ((ρ l).o + x * i.size + n * i.size) = (p - (x + n)) * i.size + q by omega]
            simp [List.getD, y1])
        have hl2 : (st.mem.set l ⟨.own, false, x + n + m, i.size, appF (x + n) r.f g⟩)[l]? = some ⟨.own, false, x + n + m, i.size, appF (x + n) r.f g⟩ := List.getElem?_set_self hlen
        have hreb := hset.rebase l hl2 rfl x (n + m) (by simp; omega) hk (appF n (fun q => r.f (x + q)) g) (fun q hq y hy => by
          simp only
          by_cases hc : q < n
          · rw [appF_lt _ _ hc, appF_lt _ _ (by omega)]
          · rw [appF_ge _ _ (by omega), appF_ge _ _ (by omega), show x + q - (x + n) = q - n by omega]) rd hrd
        simp only [List.set_set, List.length_set] at hreb
        rw [hs0, hrs]
        refine ⟨_, _, _, hrun, ⟨hreb, ⟨by simp, .inr ⟨cap, by omega, ?_, cs', T, (0, 0), ?_, ?_⟩⟩⟩, Nat.le_of_eq z4.symm, fun b hb hne => other_setCells _ _ _ _ b (hne l r (by simp) hl hio), fun q hq => if_neg (by omega), .inr ⟨l, r, by simp, hl, hio, by simp [addLoc]⟩⟩
        · rw [hρn]; simp
        · rw [hρn]; exact k1
        · rw [hρn]; simp only; rw [k2]; rw [Nat.add_mul] at hsz2; simp only [Nat.zero_add]; omega
theorem papp_nil (h : Rel N Γ st ρ I a w) {t tx e e' ty : TypeId} {i : TypeInfo} {z : Value} (ht : G.P.underlying t = some (.slice e)) (hx : G.P.underlying tx = some (.slice e')) (hi : G.P.info? e = some i) (hz : i.zero = some z) (hzs : z.cells.size = i.size) (hsz : 0 < i.size)
    {m : Nat} {u : Value} {g : Nat → Nat → PV}
    (hu : ∃ ad cap, u = .slice ad m cap ∧ (m = 0 ∨ ∃ b o, ad = some ⟨b, o, none⟩ ∧ ∀ p, p < m → ∀ j, j < i.size → ∃ y, w.cell? ⟨b, o + p * i.size + j, none⟩ = some y ∧ y.oneCell' = true ∧ VRel st.mem.length ρ I w (g p j) y))
    (hm : 0 < m) (hb : m * i.bytes ≤ 140737488355328) (h63 : m ≤ 9223372036854775807) :
    ∃ v' w' ρ', (Builtin.append_ #[t, tx] ty #[.slice none 0 0, u]).run G.P w = .ok v' w' ∧ Appended N Γ st I a (.lsl (0 + st.mem.length) 0 m) (st.mem ++ [⟨.own, false, m, i.size, g⟩]) v' w' ρ' ∧ AppC st ρ w [] w' ρ' := by
  obtain ⟨news, hsrc, hnf⟩ := src_of hx hsz hu
  have hrun := run_append_grow_src (P := G.P) w t tx ty e i z ht hi hz none 0 0 [] (run_firstCells_none w.drew i.size 0 0 0) u m news hsrc (by omega) (by omega) (growslice_fits (by omega) (by simpa using hb))
  have := grown_app h e i.size 0 m (grownCap w (0 + m) 0 e) hsz [] news (Builtin.zeroCells z.cells (grownCap w (0 + m) 0 e - (0 + m))) g g g (grownCap_ge w _ _ _) (by rw [size_zeroCells, hzs]) (fun q => by rw [appF_ge _ _ (Nat.zero_le _)]; rfl) (by simp)
      (fun p hp => by omega) hsrc.newsLen hnf
  rw [Nat.zero_add m] at this hrun
  have hex := (ext_drew w).trans this.ext
  exact ⟨_, _, _, hrun, ⟨this.rel, this.val⟩, hex.size, fun b hb _ => hex.block b hb, this.same, .inl (by rw [this.new]; exact Nat.le_refl _)⟩
def appL (st : PSt) : Op → List Nat
  | .call c => match c.args.toList with
    | s :: _ => match str (st.ev s) with
      | .lsl l _ _ => [l]
      | _ => []
    | _ => []
  | _ => []
theorem papp_sound (h : Rel N Γ st ρ I a w) (o : Oper) {r : PV} {m : List Row} {pre : Prop} (hr : papp G.tab Γ.k0 st o.op = some (r, m, pre)) (hp : pre) :
    ∃ v w' ρ', (execOp a.eval o).run G.P w = .ok (.value v) w' ∧ Appended N Γ st I a r m v w' ρ' ∧ AppC st ρ w (appL st o.op) w' ρ' ∧ ∃ row rd, rd.s = .dead ∧ (m = st.mem ++ [row] ∨ ∃ l, m = st.mem.set l rd ++ [row]) := by
  cases ho : o.op with
  | call c =>
    rw [ho] at hr
    unfold papp at hr
    dsimp only at hr
    split at hr
    · rename_i bb hcallee
      split at hr
      · rename_i s x t t' hargs htys
        split at hr
        · rename_i e e' hk hk'
          obtain ⟨hsz, hr⟩ := cond_some hr
          rw [Nat.blt_eq] at hsz
          split at hr
          · rename_i z hz
            obtain ⟨hzs, hr⟩ := cond_some hr
            have hzs : z.cells.size = (tget G.tab e).sz := Nat.eq_of_beq_eq_true hzs
            obtain ⟨i, hi, hiz, his, hib⟩ := tab_zero G.ok hz
            have hu := tab_slice G.ok hk
            have hu' := tab_slice G.ok hk'
            rw [← his] at hr hsz hzs
            rw [← hib] at hr
            have hargs' : c.args = #[s, x] := by apply Array.ext'; simpa using hargs
            have htys' : c.argTypes = #[t, t'] := by apply Array.ext'; simpa using htys
            have hexec : ∀ v' w', (Builtin.append_ #[t, t'] o.type #[a.eval s, a.eval x]).run G.P w = .ok v' w' → (execOp a.eval o).run G.P w = .ok (.value v') w' := fun v' w' hrun => by
              simp only [execOp, ho, resolve, hcallee, hargs', htys', Sem.run_bind, Sem.run_pure, Result.andThen_ok, invoke, builtin]
              have : (#[s, x].map a.eval) = #[a.eval s, a.eval x] := by simp
              rw [this, hrun]; rfl
            split at hr
            · rename_i hs
              obtain ⟨mm, g, c', h1, h2⟩ := asrc_sound h hr
              rw [snocM_eq] at h1
              simp only [Option.some.injEq, Prod.mk.injEq] at h1
              obtain ⟨rfl, rfl, rfl⟩ := h1
              obtain ⟨hs1, hp⟩ := str_rel (ev_rel h s) hp
              obtain ⟨hx1, hp⟩ := str_rel (ev_rel h x) hp
              rw [hs] at hs1
              have hs1 : a.eval s = .slice none 0 0 := hs1
              obtain ⟨p1, p2, p3, p4⟩ := hp
              obtain ⟨v', w', ρ', q1, q2, q3⟩ := papp_nil h hu hu' hi hiz hzs hsz (ty := o.type) (h2 p1 _ hx1) p2 p3 p4
              rw [← hs1] at q1
              have hL : appL st (.call c) = [] := by simp only [appL, hargs, hs]
              exact ⟨v', w', ρ', hexec v' w' q1, q2, by rw [hL]; exact q3, _, ⟨.dead, false, 0, 0, fun _ _ => .junk⟩, rfl, .inl rfl⟩
            · rename_i l xx n hs
              rw [rowAt_get] at hr
              split at hr
              · rename_i row hrow
                split at hr
                · rename_i hown
                  obtain ⟨hrs, hr⟩ := cond_some hr
                  have hrs : row.sz = i.size := Nat.eq_of_beq_eq_true hrs
                  obtain ⟨mm, g, c', h1, h2⟩ := asrc_sound h hr
                  rw [setM_eq, snocM_eq] at h1
                  simp only [Option.some.injEq, Prod.mk.injEq] at h1
                  obtain ⟨rfl, rfl, rfl⟩ := h1
                  obtain ⟨hs1, hp⟩ := str_rel (ev_rel h s) hp
                  obtain ⟨hx1, hp⟩ := str_rel (ev_rel h x) hp
                  rw [hs] at hs1
                  obtain ⟨p1, p2, p3, p4, p5⟩ := hp
                  obtain ⟨v', w', ρ', q1, q2, q3⟩ := papp_lsl h hu hu' hi hiz hzs hsz (ty := o.type) hrow hown hrs hs1 (h2 p1 _ hx1) p2 p3 p4 p5 ⟨.dead, row.one, row.n, row.sz, row.f⟩ rfl
                  simp only [List.length_set]
                  have hL : appL st (.call c) = [l] := by simp only [appL, hargs, hs]
                  exact ⟨v', w', ρ', hexec v' w' q1, q2, by rw [hL]; exact q3, _, ⟨.dead, row.one, row.n, row.sz, row.f⟩, rfl, .inr ⟨l, rfl⟩⟩
                · cases hr
              · cases hr
            · cases hr
          · cases hr
        · cases hr
      · cases hr
    · cases hr
  | _ => rw [ho] at hr; cases hr
variable {K : Exit → PSt → Prop} {ops : Array Oper} {o : Oper} {rest : List Oper} {d : Nat} {r : PV} {pre : Prop} {m : List Row}
theorem pop_app (hg : o.guard = none) (hd : o.dst = some d) (hN : Nat.blt d N = true) (hr : papp G.tab Γ.k0 st o.op = some (r, m, pre)) (hp : pre) (h : POps G N Γ ops rest (PSt.put ⟨st.tm, m⟩ d r) K) : POps G N Γ ops (o :: rest) st K := .mk fun ρ I a w hrel => by
  obtain ⟨v, w', ρ', hv, hm, _⟩ := papp_sound hrel o hr hp
  have hw : Region.wanted o (yielded ops a.tmps) = true := by simp [Region.wanted, hg]
  simp only [wpList, hw, if_true]
  refine .inl ?_
  simp only [Oper.wp, hv, Oper.upon_value, hd]
  exact h.go ρ' I _ w' (hm.rel.put (by rwa [Nat.blt_eq] at hN) hm.val)
end
section
variable {G : Pg2} {N : Nat} {Γ : Fr} {st : PSt} {K' : PSt → Prop} {ops : Array Oper} {o : Oper} {d : Nat} {r : PV} {pre : Prop} {m : List Row}
theorem pst_app {ch : List Nat} (hg : o.guard = none) (hd : o.dst = some d) (hN : Nat.blt d N = true) (hr : papp G.tab Γ.k0 st o.op = some (r, m, pre)) (hp : pre) (hch : appL st o.op = ch) (h : K' (PSt.put ⟨st.tm, m⟩ d r)) : PStep G N Γ ops o st ch true K' := .mk fun ρ I a w hrel Q => by
  obtain ⟨v, w', ρ', hv, hm, hc, row, rd, hrd, hmm⟩ := papp_sound (G := G.toPg) hrel o hr hp
  subst hch
  have hw : Region.wanted o (yielded ops a.tmps) = true := by simp [Region.wanted, hg]
  rw [if_pos hw]
  simp only [Oper.wp, hv, Oper.upon_value, hd]
  have hsplit : ∀ k (r' : Row), m[k]? = some r' → r'.s.live → (k < st.mem.length ∧ st.mem[k]? = some r') ∨ k = st.mem.length := fun k r' hk hs => by
    rcases hmm with rfl | ⟨l, rfl⟩
    · by_cases hlt : k < st.mem.length
      · rw [List.getElem?_append_left hlt] at hk; exact .inl ⟨hlt, hk⟩
      · have := lt_get hk; simp at this; exact .inr (by omega)
    · by_cases hlt : k < st.mem.length
      · rw [List.getElem?_append_left (by simpa using hlt)] at hk
        by_cases e : k = l
        · subst e
          rw [List.getElem?_set_self hlt] at hk
          simp only [Option.some.injEq] at hk
          rw [← hk, hrd] at hs; exact hs.elim
        · rw [List.getElem?_set_ne (Ne.symm e)] at hk; exact .inl ⟨hlt, hk⟩
      · have := lt_get hk; simp at this; exact .inr (by omega)
  refine ⟨_, ρ', I, h, hm.rel.put (by rwa [Nat.blt_eq] at hN) hm.val, hc.size, hc.same, hc.loc, fun _ _ h => h, fun k r' hk hs => ?_, fun k r' hk hs => ?_⟩
  · rcases hsplit k r' hk hs with ⟨h1, h2⟩ | rfl
    · exact .inl ⟨h1, r', h2, hs⟩
    · exact .inr ⟨Nat.le_refl _, hc.new⟩
  · rcases hsplit k r' hk (RS.live_of_own hs) with ⟨h1, h2⟩ | rfl
    · exact .inl ⟨h1, r', h2, hs⟩
    · exact .inr ⟨Nat.le_refl _, hc.new⟩
end
end Go.Proofs.YtcghpepighboaaaDoor
