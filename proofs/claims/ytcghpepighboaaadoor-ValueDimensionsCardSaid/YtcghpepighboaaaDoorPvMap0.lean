/- Maps: a map of the call's own as a row; made, changed (what holds for any values). -/
import Derived.Test.YtcghpepighboaaaDoorPvE
import Derived.Carry
set_option linter.unusedSimpArgs false
set_option linter.unusedVariables false
namespace Go.Proofs.YtcghpepighboaaaDoor
open Go.MapKept
def mget {K : Type} [DecidableEq K] : List (K × Int) → K → Option Int
  | [], _ => none
  | e :: l, k => if e.1 = k then some e.2 else mget l k
def mset {K : Type} [DecidableEq K] : List (K × Int) → K → Int → List (K × Int)
  | [], k, v => [(k, v)]
  | e :: l, k, v => if e.1 = k then (k, v) :: l else e :: mset l k v
section
variable {K : Type} [DecidableEq K]
theorem mget_none {k : K} : ∀ {l : List (K × Int)}, (∀ e ∈ l, e.1 ≠ k) → mget l k = none
  | [], _ => rfl
  | e :: l, h => by rw [mget, if_neg (h e (by simp))]; exact mget_none fun x hx => h x (by simp [hx])
theorem mset_none {k : K} {v : Int} : ∀ {l : List (K × Int)}, (∀ e ∈ l, e.1 ≠ k) → mset l k v = l ++ [(k, v)]
  | [], _ => rfl
  | e :: l, h => by rw [mset, if_neg (h e (by simp)), mset_none fun x hx => h x (by simp [hx])]; rfl
theorem mget_at {k : K} {v : Int} : ∀ {l : List (K × Int)} {j : Nat}, (l.map (·.1)).Nodup → l[j]? = some (k, v) → mget l k = some v
  | [], _, _, h => by simp at h
  | e :: l, 0, _, h => by simp at h; subst h; simp [mget]
  | e :: l, j + 1, hn, h => by
    have h' : l[j]? = some (k, v) := by simpa using h
    simp only [List.map_cons, List.nodup_cons] at hn
    have : e.1 ≠ k := fun he => hn.1 (by rw [he]; exact List.mem_map.2 ⟨(k, v), List.mem_of_getElem? h', rfl⟩)
    rw [mget, if_neg this, mget_at hn.2 h']
theorem mset_at {k : K} {v v0 : Int} : ∀ {l : List (K × Int)} {j : Nat}, (l.map (·.1)).Nodup → l[j]? = some (k, v0) → mset l k v = l.set j (k, v)
  | [], _, _, h => by simp at h
  | e :: l, 0, _, h => by simp at h; subst h; simp [mset]
  | e :: l, j + 1, hn, h => by
    have h' : l[j]? = some (k, v0) := by simpa using h
    simp only [List.map_cons, List.nodup_cons] at hn
    have : e.1 ≠ k := fun he => hn.1 (by rw [he]; exact List.mem_map.2 ⟨(k, v0), List.mem_of_getElem? h', rfl⟩)
    rw [mset, if_neg this, mset_at hn.2 h']; rfl
end
def kI (x : Int) : Value := .int .i64 x
def kS (s : ByteArray) : Value := .string s
theorem kI_inj (a b : Int) (h : kI a = kI b) : a = b := by unfold kI at h; injection h
theorem kS_inj (a b : ByteArray) (h : kS a = kS b) : a = b := by unfold kS at h; injection h
section
variable {N : Nat} {Γ : Fr} {st : PSt} {ρ : Nat → Loc} {I : Nat → Prop} {a : Act} {w : World}
theorem Rel.newMap (h : Rel N Γ st ρ I a w) (row : Row) (hs : row.s = .mp) (o : Obj) (ho : ∀ cs T fz, o ≠ Obj.cells cs T fz)
    (hc : ∀ (k' : Nat) (ρ' : Nat → Loc) (w' : World), (∀ b, b < w.heap.size → w'.heap[b]? = w.heap[b]?) → w'.heap[w.heap.size]? = some o → st.mem.length < k' → (∀ l, l < st.mem.length → ρ' l = ρ l) → ρ' st.mem.length = ⟨w.heap.size, 0, 0⟩ → SideAt k' ρ' I w' w.heap.size row) :
    Rel N Γ ⟨st.tm, st.mem ++ [row]⟩ (addLoc ρ st.mem.length ⟨w.heap.size, 0, 0⟩) I a (w.alloc o) := by
  have hx : Ext w (w.alloc o) := Go.RowKit.Below.alloc (Go.RowKit.Below.refl _ _) (Nat.le_refl _) _
  have ht : Tr I w (w.alloc o) := hx.tr h.fr.m.lt
  have hρ : ∀ l, l < st.mem.length → addLoc ρ st.mem.length ⟨w.heap.size, 0, 0⟩ l = ρ l := fun l hl => if_neg (by omega)
  have hρn : addLoc ρ st.mem.length ⟨w.heap.size, 0, 0⟩ st.mem.length = ⟨w.heap.size, 0, 0⟩ := if_pos rfl
  have hsz : (w.alloc o).heap.size = w.heap.size + 1 := by simp
  have hnl : ¬ row.s.live := by rw [hs]; exact fun h => h
  have hno : ¬ row.s.isOwn := by rw [hs]; exact fun h => h
  have up : ∀ {p : PV} {v : Value}, VRel st.mem.length ρ I w p v → VRel (st.mem ++ [row]).length (addLoc ρ st.mem.length ⟨w.heap.size, 0, 0⟩) I (w.alloc o) p v := fun hv =>
    hv.up (by simp) hρ (fun _ h => h) ht
  have get : ∀ (l : Nat) (r : Row), (st.mem ++ [row])[l]? = some r → (l < st.mem.length ∧ st.mem[l]? = some r) ∨ (l = st.mem.length ∧ r = row) := fun l r hl => by
    by_cases hlt : l < st.mem.length
    · rw [List.getElem?_append_left hlt] at hl; exact .inl ⟨hlt, hl⟩
    · rw [List.getElem?_append_right (by omega)] at hl
      by_cases he : l = st.mem.length
      · subst he; simp at hl; exact .inr ⟨rfl, hl.symm⟩
      · rw [List.getElem?_eq_none (by simp; omega)] at hl; cases hl
  have getL : ∀ (l : Nat) (r : Row), (st.mem ++ [row])[l]? = some r → r.s.live → l < st.mem.length ∧ st.mem[l]? = some r := fun l r hl hlv => by
    rcases get l r hl with h | ⟨_, rfl⟩
    · exact h
    · exact absurd hlv hnl
  refine ⟨⟨⟨fun l r hl hlive => ?_, fun l l' r r' hne hl hl' hs1 hs2 => ?_, fun l r hl ho hb => ?_, fun l r hl hi => ?_, fun b hb => ?_, fun l r hl hm => ?_, fun l l' r r' hne hl hl' hs1 hs2 => ?_⟩, h.fr.os, h.fr.tape, h.fr.output, by rw [hsz]; exact Nat.le_succ_of_le h.fr.size, fun b hb he => ?_, fun b c2 T2 fz hb => ?_, h.fr.old, h.fr.new, fun l r hl ho hlt => ?_, fun l r hl ho hk => ?_, by simp; exact Nat.le_succ_of_le h.fr.k0, fun l hl => ?_, fun l r hl hm hk => ?_, h.fr.gl.mono (fun _ h => h) ht⟩, h.defers, h.size, fun t => up (h.slot t)⟩
  · obtain ⟨hlt, hl⟩ := getL l r hl hlive
    rw [hρ l hlt]
    obtain ⟨h1, cs', T', h2, h3⟩ := h.fr.m.row l r hl hlive
    refine ⟨h1, cs', T', by rw [hx.block _ (h.lt hl hlive)]; exact h2, fun i hi j hj => ?_⟩
    obtain ⟨u, g1, g2, g3⟩ := h3 i hi j hj
    exact ⟨u, g1, g2, up g3⟩
  · obtain ⟨hlt, hA⟩ := getL l r hl hs1
    obtain ⟨hlt', hB⟩ := getL l' r' hl' hs2
    rw [hρ l hlt, hρ l' hlt']; exact h.fr.m.apart l l' r r' hne hA hB hs1 hs2
  · obtain ⟨hlt, hA⟩ := getL l r hl (RS.live_of_own ho)
    rw [hρ l hlt] at hb; exact h.fr.m.mine l r hA ho hb
  · obtain ⟨hlt, hA⟩ := getL l r hl (by rw [hi]; trivial)
    rw [hρ l hlt]; exact h.fr.m.imm l r hA hi
  · rw [hsz]; exact Nat.lt_succ_of_lt (h.fr.m.lt b hb)
  · rcases get l r hl with ⟨hlt, hl⟩ | ⟨rfl, rfl⟩
    · rw [hρ l hlt]
      obtain ⟨g1, g2⟩ := h.fr.m.side l r hl hm
      exact ⟨g1, g2.up (Nat.le_refl _) rfl (.of fun b hb _ => hx.block b hb) fun i hi j hj v hv => up hv⟩
    · rw [hρn]
      refine ⟨fun hb => absurd (h.fr.m.lt _ hb) (by simp), hc _ _ _ (fun b hb => hx.block b hb) ?_ (by simp) hρ hρn⟩
      show (w.heap.push _)[w.heap.size]? = _
      simp
  · rcases get l r hl with ⟨hlt, hA⟩ | ⟨e1, e2⟩ <;> rcases get l' r' hl' with ⟨hlt', hB⟩ | ⟨e3, e4⟩
    · rw [hρ l hlt, hρ l' hlt']; exact h.fr.m.sap l l' r r' hne hA hB hs1 hs2
    · rw [hρ l hlt, e3, hρn]; have := (h.fr.m.side l r hA hs1).2.lt; simp; omega
    · rw [hρ l' hlt', e1, hρn]; have := (h.fr.m.side l' r' hB hs2).2.lt; simp; omega
    · exact absurd (e1.trans e3.symm) hne
  · rw [hx.block b (Nat.lt_of_lt_of_le hb h.fr.size)]; exact h.fr.block b hb he
  · obtain ⟨cs', h1, h2⟩ := h.fr.shape b c2 T2 fz hb
    obtain ⟨cs2, h3, h4⟩ := ht.shape b cs' T2 fz h1
    exact ⟨cs2, h3, h4.trans h2⟩
  · obtain ⟨hlt', hA⟩ := getL l r hl (RS.live_of_own ho)
    rw [hρ l hlt'] at hlt ⊢; exact h.fr.own l r hA ho hlt
  · obtain ⟨hlt', hA⟩ := getL l r hl (RS.live_of_own ho)
    rw [hρ l hlt']; exact h.fr.fresh l r hA ho hk
  · rw [hρ l (Nat.lt_of_lt_of_le hl h.fr.k0)]; exact h.fr.ρ0 l hl
  · rcases get l r hl with ⟨hlt, hl⟩ | ⟨rfl, rfl⟩
    · rw [hρ l hlt]; exact h.fr.sfresh l r hl hm hk
    · rw [hρn]; exact h.fr.size
def noIt : List Row → Bool
  | [] => true
  | r :: m => (match r.s with | .mp => Nat.beq r.sz 1 | _ => true) && noIt m
theorem noIt_get : ∀ (m : List Row), noIt m = true → ∀ (l : Nat) (r : Row), m[l]? = some r → r.s = .mp → r.sz = 1
  | [], _, _, _, h, _ => by simp at h
  | r0 :: m, hn, 0, r, h, hm => by
    simp only [List.getElem?_cons_zero, Option.some.injEq] at h
    subst h
    rw [noIt, Bool.and_eq_true, hm] at hn
    exact Nat.eq_of_beq_eq_true hn.1
  | r0 :: m, hn, l + 1, r, h, hm => by
    rw [noIt, Bool.and_eq_true] at hn
    exact noIt_get m hn.2 l r (by simpa using h) hm
theorem Rel.setMap (h : Rel N Γ st ρ I a w) {l : Nat} {r : Row} (hl : st.mem[l]? = some r) (ho : r.s = .mp) (hk0 : Γ.k0 ≤ l) (hni : noIt st.mem = true) {es' : Array MapEntry} {clock' : Nat} (row : Row) (hs : row.s = .mp) (hsz : row.sz = 1) (hst : Stamped es' clock') (hv : ∀ (k' : Nat) (ρ' : Nat → Loc) (w' : World), VRel k' ρ' I w' (row.f 0 0) (mapV es')) :
    Rel N Γ ⟨st.tm, st.mem.set l row⟩ ρ I a { w with heap := w.heap.setIfInBounds (ρ l).b (.map es' clock') } := by
  obtain ⟨hnI, hside⟩ := h.fr.m.side l r hl ho
  have hlt := hside.lt
  obtain ⟨o, ho1, ho2⟩ := hside.nc
  have hlen : l < st.mem.length := lt_get hl
  have hself : ({ w with heap := w.heap.setIfInBounds (ρ l).b (.map es' clock') } : World).heap[(ρ l).b]? = some (.map es' clock') := by simp [hlt]
  have hother : ∀ b, b ≠ (ρ l).b → ({ w with heap := w.heap.setIfInBounds (ρ l).b (.map es' clock') } : World).heap[b]? = w.heap[b]? := fun b hb => by simp [Array.getElem?_setIfInBounds, Ne.symm hb]
  have hne : ∀ (b : Nat) cs T fz, w.heap[b]? = some (Obj.cells cs T fz) → b ≠ (ρ l).b := fun b cs T fz hb e => by subst e; rw [ho1] at hb; exact ho2 _ _ _ (Option.some.inj hb)
  generalize hw' : ({ w with heap := w.heap.setIfInBounds (ρ l).b (.map es' clock') } : World) = w' at hself hother ⊢
  have hos : w'.os = w.os := by rw [← hw']
  have htape : w'.tape = w.tape := by rw [← hw']
  have hout : w'.output = w.output := by rw [← hw']
  have hhs : w'.heap.size = w.heap.size := by rw [← hw']; simp
  have ht : Tr I w w' := ⟨fun b hb => hother b (fun e => hnI (e ▸ hb)), fun b cs T fz hb => ⟨cs, by rw [hother b (hne b cs T fz hb)]; exact hb, rfl⟩⟩
  have up : ∀ {p : PV} {v : Value}, VRel st.mem.length ρ I w p v → VRel (st.mem.set l row).length ρ I w' p v := fun hv => hv.up (by simp) (fun _ _ => rfl) (fun _ h => h) ht
  have get : ∀ (l' : Nat) (r' : Row), (st.mem.set l row)[l']? = some r' → (l' ≠ l ∧ st.mem[l']? = some r') ∨ (l' = l ∧ r' = row) := fun l' r' hl' => by
    by_cases he : l' = l
    · subst he; rw [List.getElem?_set_self hlen] at hl'; exact .inr ⟨rfl, by simpa using hl'.symm⟩
    · rw [List.getElem?_set_ne (Ne.symm he)] at hl'; exact .inl ⟨he, hl'⟩
  have getL : ∀ (l' : Nat) (r' : Row), (st.mem.set l row)[l']? = some r' → r'.s.live → st.mem[l']? = some r' := fun l' r' hl' hlv => by
    rcases get l' r' hl' with ⟨_, h⟩ | ⟨_, rfl⟩
    · exact h
    · rw [hs] at hlv; exact hlv.elim
  refine ⟨⟨⟨fun l' r' hl' hlive => ?_, fun l1 l2 r1 r2 hne h1 h2 hs1 hs2 => ?_, fun l' r' hl' ho' hb2 => ?_, fun l' r' hl' hi => ?_, fun b hb2 => ?_, fun l' r' hl' hm => ?_, fun l1 l2 r1 r2 hne h1 h2 hs1 hs2 => ?_⟩, hos.trans h.fr.os, htape.trans h.fr.tape, hout.trans h.fr.output, by rw [hhs]; exact h.fr.size, fun b hb2 he => ?_, fun b c2 T2 fz hb2 => ?_, h.fr.old, h.fr.new, fun l' r' hl' ho' hlt => ?_, fun l' r' hl' ho' hk => ?_, by simpa using h.fr.k0, h.fr.ρ0, fun l' r' hl' hm hk => ?_, h.fr.gl.mono (fun _ h => h) ht⟩, h.defers, h.size, fun t => up (h.slot t)⟩
  · obtain ⟨h1, c2, T2, h2, h3⟩ := h.fr.m.row l' r' (getL l' r' hl' hlive) hlive
    refine ⟨h1, c2, T2, by rw [hother _ (hne _ _ _ _ h2)]; exact h2, fun i hi j hj => ?_⟩
    obtain ⟨u, g1, g2, g3⟩ := h3 i hi j hj
    exact ⟨u, g1, g2, up g3⟩
  · exact h.fr.m.apart l1 l2 r1 r2 hne (getL _ _ h1 hs1) (getL _ _ h2 hs2) hs1 hs2
  · exact h.fr.m.mine l' r' (getL _ _ hl' (RS.live_of_own ho')) ho' hb2
  · exact h.fr.m.imm l' r' (getL _ _ hl' (by rw [hi]; trivial)) hi
  · rw [hhs]; exact h.fr.m.lt b hb2
  · rcases get l' r' hl' with ⟨n1, h1⟩ | ⟨rfl, rfl⟩
    · obtain ⟨g1, g2, g3⟩ := h.fr.m.side l' r' h1 hm
      have hap := h.fr.m.sap l' l r' r n1 h1 hl hm ho
      have hz := noIt_get _ hni l' r' h1 hm
      refine ⟨g1, by rw [hother _ hap]; exact g2, fun h0 => ⟨fun hz1 => ?_, fun hz2 => by omega⟩⟩
      obtain ⟨es, clock, q1, q2, q3⟩ := (g3 h0).1 hz
      exact ⟨es, clock, by rw [hother _ hap]; exact q1, q2, up q3⟩
    · exact ⟨hnI, ⟨_, hself, fun _ _ _ e => by cases e⟩, fun h0 => ⟨fun _ => ⟨es', clock', hself, hst, hv _ _ _⟩, fun hz2 => by omega⟩⟩
  · rcases get l1 r1 h1 with ⟨n1, hA⟩ | ⟨e1, e2⟩ <;> rcases get l2 r2 h2 with ⟨n2, hB⟩ | ⟨e3, e4⟩
    · exact h.fr.m.sap l1 l2 r1 r2 hne hA hB hs1 hs2
    · rw [e3]; exact h.fr.m.sap l1 l r1 r n1 hA hl hs1 ho
    · rw [e1]; exact h.fr.m.sap l l2 r r2 (Ne.symm n2) hl hB ho hs2
    · exact absurd (e1.trans e3.symm) hne
  · by_cases e : b = (ρ l).b
    · exact absurd hb2 (by rw [e]; exact Nat.not_lt.2 (h.fr.sfresh l r hl ho hk0))
    · rw [hother b e]; exact h.fr.block b hb2 he
  · obtain ⟨cs1, h1, h2⟩ := h.fr.shape b c2 T2 fz hb2
    obtain ⟨cs2, h3, h4⟩ := ht.shape b cs1 T2 fz h1
    exact ⟨cs2, h3, h4.trans h2⟩
  · exact h.fr.own l' r' (getL _ _ hl' (RS.live_of_own ho')) ho' hlt
  · exact h.fr.fresh l' r' (getL _ _ hl' (RS.live_of_own ho')) ho' hk
  · rcases get l' r' hl' with ⟨n1, h1⟩ | ⟨rfl, rfl⟩
    · exact h.fr.sfresh l' r' h1 hm hk
    · exact h.fr.sfresh l' r hl ho hk
end
end Go.Proofs.YtcghpepighboaaaDoor
