/- A map's block as a list of keys and values (over any program): what lookup, store, delete, len, range and next do to it. No condition. -/
import Derived.Maps.OwnSet
import Derived.Maps.RangeWalk
import Derived.Maps.Ext
import Derived.DeepKeys4
import Derived.WalkKit
import Derived.Deep.Draws
namespace Go.Proofs.Ytfnphkijalkllaa
open Go.RowKit Go.Maps Go.ChangeMaps Go.WideShapes Go.MapKept Go.ChangeShapes

/-- How the keys of one type are made out of a Lean type. -/
structure KeyMk (P : Program) (k : TypeId) (α : Type) where
  K : Keyed P k
  val : α → Value
  ok : α → Prop
  kl : α → Lit
  key : ∀ a, ok a → keyOf P k (val a) = some (kl a)
  inj : ∀ a b, ok a → ok b → val a = val b → a = b
  inv : ∀ v l, keyOf P k v = some l → ∃ a, ok a ∧ v = val a

def heldV (v : Value) : Option (DataW Value × List MemPlace) := some (.held v, [])

theorem pairwise_fst_eq {α β : Type} : ∀ {l : List (α × β)}, l.Pairwise (fun p q => p.1 ≠ q.1) → ∀ {x y : α × β}, x ∈ l → y ∈ l → x.1 = y.1 → x = y
  | [], _, _, _, hx, _, _ => by cases hx
  | z :: r, h, x, y, hx, hy, e => by
    obtain ⟨h1, h2⟩ := List.pairwise_cons.1 h
    rcases List.mem_cons.1 hx with e1 | hx1
    · rcases List.mem_cons.1 hy with e2 | hy1
      · rw [e1, e2]
      · exact absurd (e1 ▸ e) (h1 y hy1)
    · rcases List.mem_cons.1 hy with e2 | hy1
      · exact absurd (e2 ▸ e).symm (h1 x hx1)
      · exact pairwise_fst_eq h2 hx1 hy1 e

section
variable {P : Program} {k : TypeId} {α : Type} (M : KeyMk P k α)

theorem KeyMk.kl_inj {a b : α} (ha : M.ok a) (hb : M.ok b) (h : M.kl a = M.kl b) : a = b :=
  M.inj a b ha hb (M.K.inj (M.key a ha) (h ▸ M.key b hb))
theorem KeyMk.isKey {a : α} (ha : M.ok a) : WideAt.IsKeyLit (M.kl a) := M.K.key (M.key a ha)
theorem KeyMk.same [DecidableEq α]  {a b : α} (ha : M.ok a) (hb : M.ok b) : (M.kl a).sameKey (M.kl b) = decide (a = b) := by
  by_cases e : a = b
  · subst e; rw [WideAt.sameKey_self (M.isKey ha)]; simp
  · rw [Maps.sameKey_ne (fun h => e (M.kl_inj ha hb h))]; simp [e]

def ent (p : α × Value) : Lit × DataW Value := (M.kl p.1, .held p.2)

/-- What stands at a key. -/
def lkp [DecidableEq α]  (L : List (α × Value)) (a : α) : Option Value := (L.find? (fun p => p.1 = a)).map (·.2)
/-- All but what stands at a key. -/
def but [DecidableEq α]  (L : List (α × Value)) (a : α) : List (α × Value) := L.filter fun p => p.1 ≠ a

/-- Block b is a map that holds just these keys and values. -/
def MapAt (w : World) (b : Nat) (L : List (α × Value)) : Prop :=
  (∃ es, w.ownsMap P k heldV b L.length (.map es) ∧ es.Perm (L.map (ent M))) ∧ (L.map (·.1)).Nodup ∧ ∀ p ∈ L, M.ok p.1

variable {M} {w w' : World} {b : Nat} {L : List (α × Value)}

theorem MapAt.perm {L' : List (α × Value)} (h : MapAt M w b L) (hp : L.Perm L') : MapAt M w b L' := by
  obtain ⟨⟨es, ho, he⟩, hn, hk⟩ := h
  refine ⟨⟨es, hp.length_eq ▸ ho, he.trans (hp.map _)⟩, (hp.map _).nodup_iff.1 hn, fun p hp' => hk p (hp.mem_iff.2 hp')⟩

theorem MapAt.lt (h : MapAt M w b L) : b < w.heap.size := by obtain ⟨⟨es, ho, _⟩, _⟩ := h; exact ho.lt

theorem MapAt.heap (h : MapAt M w b L) (hh : w'.heap[b]? = w.heap[b]?) : MapAt M w' b L := by
  obtain ⟨⟨es, ⟨es', cl, hb, r⟩, he⟩, hn, hk⟩ := h
  exact ⟨⟨es, ⟨es', cl, hh.trans hb, r⟩, he⟩, hn, hk⟩

theorem ownsMap_len {n : Nat} {es : List (Lit × DataW Value)} (h : w.ownsMap P k heldV b n (.map es)) : w.ownsMap P k heldV b es.length (.map es) := by
  obtain ⟨es', cl, hb, F, hs, hD⟩ := h
  refine ⟨es', cl, hb, F, ?_, hD⟩
  injection hD with hD
  rw [hD, length_sorted]; simp

theorem MapAt.made (w : World) : MapAt M (w.alloc (.map #[] 0)) w.heap.size [] :=
  ⟨⟨[], by simpa using World.ownsMap_made w P k heldV, List.Perm.nil⟩, by simp, by simp⟩

theorem find_perm [DecidableEq α]  {es : List (Lit × DataW Value)} {a : α} (hL : ∀ p ∈ L, M.ok p.1) (hn : (L.map (·.1)).Nodup) (ha : M.ok a) (hp : es.Perm (L.map (ent M))) :
    es.find? (fun p => p.1.sameKey (M.kl a)) = (L.find? (fun p => p.1 = a)).map (ent M) := by
  cases hf : L.find? (fun p => p.1 = a) with
  | none =>
    rw [List.find?_eq_none] at hf
    rw [Option.map_none, List.find?_eq_none]
    intro q hq
    obtain ⟨p, hp', rfl⟩ := List.mem_map.1 (hp.mem_iff.1 hq)
    have := hf p hp'
    simp only [ent, M.same (hL p hp') ha]
    simpa using this
  | some p =>
    have hpL := List.mem_of_find?_eq_some hf
    have hpa : p.1 = a := by simpa using List.find?_some hf
    rw [Option.map_some]
    have hmem : ent M p ∈ es := hp.mem_iff.2 (List.mem_map.2 ⟨p, hpL, rfl⟩)
    cases hg : es.find? (fun p => p.1.sameKey (M.kl a)) with
    | none =>
      rw [List.find?_eq_none] at hg
      exact absurd (by simp only [ent, M.same (hL p hpL) ha]; simp [hpa]) (hg _ hmem)
    | some q =>
      obtain ⟨p', hp', rfl⟩ := List.mem_map.1 (hp.mem_iff.1 (List.mem_of_find?_eq_some hg))
      have h1 := List.find?_some hg
      simp only [ent, M.same (hL p' hp') ha] at h1
      have h2 : p'.1 = p.1 := by rw [hpa]; simpa using h1
      have : p' = p := by
        have hpw := List.pairwise_map.1 (List.nodup_iff_pairwise_ne.1 hn)
        exact pairwise_fst_eq hpw hp' hpL h2
      rw [this]
/-- 'v, ok := m[k]'. -/
theorem MapAt.look [DecidableEq α] {t e : TypeId} (h : MapAt M w b L) (ht : P.underlying t = some (.map k e)) {z : Value} (hz : (zeroValue e).run P w = .ok z w) {a : α} (ha : M.ok a) :
    (Instr.lookup t (.map (some b)) (M.val a) true).run P w = .ok (.tuple #[(lkp L a).getD z, .bool (lkp L a).isSome]) w := by
  obtain ⟨⟨es, ho, hp⟩, hn, hk⟩ := h
  obtain ⟨v, ps, hrun, hv⟩ := ho.look_ok M.K ht hz (zd := .held z) (zp := []) rfl (M.key a ha)
  have hf := find_perm hk hn ha hp
  have e1 : (DataW.map es).atKey (M.kl a) (.held z) = .held ((lkp L a).getD z) := by
    simp only [DataW.atKey, hf, lkp]
    cases L.find? (fun p => p.1 = a) <;> rfl
  have e2 : Maps.has (DataW.map es) (M.kl a) = (lkp L a).isSome := by
    rw [Maps.has_eq, ← List.isSome_find?, hf]; simp [lkp]
  simp only [heldV, e1, Option.some.injEq, Prod.mk.injEq, DataW.held.injEq] at hv
  rw [hrun, e2, hv.1]

theorem MapAt.look1 [DecidableEq α] {t e : TypeId} (h : MapAt M w b L) (ht : P.underlying t = some (.map k e)) {z : Value} (hz : (zeroValue e).run P w = .ok z w) {a : α} (ha : M.ok a) :
    (Instr.lookup t (.map (some b)) (M.val a) false).run P w = .ok ((lkp L a).getD z) w := by
  obtain ⟨⟨es, ho, hp⟩, hn, hk⟩ := h
  obtain ⟨v, ps, hrun, hv⟩ := ho.lookup M.K ht hz (zd := .held z) (zp := []) rfl (M.key a ha)
  have hf := find_perm hk hn ha hp
  have e1 : (DataW.map es).atKey (M.kl a) (.held z) = .held ((lkp L a).getD z) := by
    simp only [DataW.atKey, hf, lkp]
    cases L.find? (fun p => p.1 = a) <;> rfl
  simp only [heldV, e1, Option.some.injEq, Prod.mk.injEq, DataW.held.injEq] at hv
  rw [hrun, hv.1]

theorem MapAt.len {t e : TypeId} (h : MapAt M w b L) (ht : P.underlying t = some (.map k e)) (ty : TypeId) : (Builtin.len_ #[t] ty #[.map (some b)]).run P w = .ok (.int .i64 L.length) w := by
  obtain ⟨⟨es, ho, hp⟩, hn, hk⟩ := h
  rw [ho.len ht ty, Maps.size_eq, hp.length_eq, List.length_map]

theorem filter_perm [DecidableEq α]  {es : List (Lit × DataW Value)} {a : α} (hL : ∀ p ∈ L, M.ok p.1) (ha : M.ok a) (hp : es.Perm (L.map (ent M))) : (es.filter (notKey (M.kl a))).Perm ((but L a).map (ent M)) := by
  have h1 := hp.filter (notKey (M.kl a))
  rw [List.filter_map] at h1
  refine h1.trans (List.Perm.of_eq ?_)
  unfold but
  congr 1
  refine List.filter_congr fun p hp' => ?_
  simp only [Function.comp, notKey, ent, M.same (hL p hp') ha]
  simp

theorem but_nodup [DecidableEq α]  {a : α} (hn : (L.map (·.1)).Nodup) : ((but L a).map (·.1)).Nodup := (List.filter_sublist.map _).nodup hn
theorem but_ok [DecidableEq α]  {a : α} (hL : ∀ p ∈ L, M.ok p.1) : ∀ p ∈ but L a, M.ok p.1 := fun p hp => hL p (List.mem_filter.1 hp).1
theorem but_not [DecidableEq α] (L : List (α × Value)) (a : α) : a ∉ (but L a).map (·.1) := by simp [but]

/-- 'delete(m, k)'. -/
theorem MapAt.drop [DecidableEq α]  {t e : TypeId} (h : MapAt M w b L) (ht : P.underlying t = some (.map k e)) {a : α} (ha : M.ok a) (ty : TypeId) :
    ∃ w', (Builtin.delete_ #[t, k] ty #[.map (some b), M.val a]).run P w = .ok (.tuple #[]) w' ∧ MapAt M w' b (but L a) ∧ w.mapTurned w' b := by
  obtain ⟨⟨es, ho, hp⟩, hn, hk⟩ := h
  obtain ⟨w', hrun, ho', ht'⟩ := ho.drop M.K ht (M.key a ha) ty
  rw [DataW.del_eq] at ho'
  have hf := filter_perm hk ha hp
  refine ⟨w', hrun, ⟨⟨_, ?_, hf⟩, but_nodup hn, but_ok hk⟩, ht'⟩
  have e : (delKey (M.kl a) es).length = (but L a).length := by rw [delKey, hf.length_eq, List.length_map]
  rw [← e]
  exact ownsMap_len ho'

/-- 'm[k] = v'. -/
theorem MapAt.store [DecidableEq α]  {t e : TypeId} (h : MapAt M w b L) (ht : P.underlying t = some (.map k e)) {a : α} (ha : M.ok a) (v : Value) (hl : L.length < maxLen) :
    ∃ w', (Instr.mapUpdate t (.map (some b)) (M.val a) v).run P w = .ok () w' ∧ MapAt M w' b (but L a ++ [(a, v)]) ∧ w.mapTurned w' b := by
  obtain ⟨⟨es, ho, hp⟩, hn, hk⟩ := h
  obtain ⟨w', hrun, ho', ht'⟩ := ho.store M.K ht hl (M.key a ha) (val := v) (d := .held v) (ps := []) rfl
  rw [DataW.put_eq] at ho'
  have hf := filter_perm hk ha hp
  have hperm : (putKey (M.kl a) (.held v) es).Perm ((but L a ++ [(a, v)]).map (ent M)) := by
    refine (insert_perm _ _).trans ?_
    rw [List.map_append]
    exact (List.Perm.cons _ hf).trans (List.perm_append_singleton _ _).symm
  refine ⟨w', hrun, ⟨⟨_, ?_, hperm⟩, ?_, ?_⟩, ht'⟩
  · have e : (putKey (M.kl a) (.held v) es).length = (but L a ++ [(a, v)]).length := by rw [hperm.length_eq, List.length_map]
    rw [← e]
    exact ownsMap_len ho'
  · rw [List.map_append, List.nodup_append]
    refine ⟨but_nodup hn, by simp, ?_⟩
    intro x hx y hy e
    simp at hy
    subst hy; subst e
    exact but_not _ _ hx
  · intro p hp'
    rcases List.mem_append.1 hp' with hp' | hp'
    · exact but_ok hk p hp'
    · simp at hp'; subst hp'; exact ha

/-- 'for k, v := range m' under way: block b holds L, block r is the loop's iterator; the keys 'rest' are still to come. -/
def RangeAt (M : KeyMk P k α) (w : World) (b r : Nat) (L : List (α × Value)) (rest : List α) (cnt : Nat) : Prop :=
  (∃ es n left, w.ranges P k heldV b r n (.map es) left cnt ∧ es.Perm (L.map (ent M)) ∧ ∀ a, M.ok a → (left (M.kl a) = true ↔ a ∈ rest)) ∧ (L.map (·.1)).Nodup ∧ (∀ p ∈ L, M.ok p.1) ∧ rest.Nodup ∧ (∀ a ∈ rest, a ∈ L.map (·.1))

theorem RangeAt.toMap {r cnt : Nat} {rest : List α} (h : RangeAt M w b r L rest cnt) : MapAt M w b L := by
  obtain ⟨⟨es, n, left, hr, hp, _⟩, hn, hk, _⟩ := h
  refine ⟨⟨es, ?_, hp⟩, hn, hk⟩
  rw [show L.length = es.length by rw [hp.length_eq, List.length_map]]
  exact ownsMap_len hr.owns

theorem RangeAt.left_eq {r cnt : Nat} {rest : List α} (h : RangeAt M w b r L rest cnt) : w.rangeLeft b r = cnt := by
  obtain ⟨⟨es, n, left, hr, _⟩, _⟩ := h; exact hr.left_eq
theorem RangeAt.lt {r cnt : Nat} {rest : List α} (h : RangeAt M w b r L rest cnt) : r < w.heap.size := by
  obtain ⟨⟨es, n, left, hr, _⟩, _⟩ := h; exact hr.lt
theorem RangeAt.ne {r cnt : Nat} {rest : List α} (h : RangeAt M w b r L rest cnt) : r ≠ b := by
  obtain ⟨⟨es, n, left, hr, _⟩, _⟩ := h; exact hr.ne

theorem RangeAt.heap {r cnt : Nat} {rest : List α} (h : RangeAt M w b r L rest cnt) (hb : w'.heap[b]? = w.heap[b]?) (hr : w'.heap[r]? = w.heap[r]?) : RangeAt M w' b r L rest cnt := by
  obtain ⟨⟨es, n, left, ⟨es', clock, since, seen, c0, h1, h2, h3, h4, h5, h6⟩, hp⟩, hx⟩ := h
  exact ⟨⟨es, n, left, ⟨es', clock, since, seen, c0, hb.trans h1, h2, h3, h4, hr.trans h5, h6⟩, hp⟩, hx⟩

/-- 'range m'. -/
theorem MapAt.range {t e : TypeId} (h : MapAt M w b L) (ht : P.underlying t = some (.map k e)) :
    ∃ w', (Instr.range t (.map (some b))).run P w = .ok (.pointer (some ⟨w.heap.size, 0, none⟩)) w' ∧ RangeAt M w' b w.heap.size L (L.map (·.1)) L.length ∧ w.grownBy w' none ∧ w'.heap.size = w.heap.size + 1 := by
  obtain ⟨⟨es, ho, hp⟩, hn, hk⟩ := h
  obtain ⟨w', hrun, hr, hg, hs⟩ := ho.range M.K ht
  rw [Maps.size_eq, show es.length = L.length by rw [hp.length_eq, List.length_map]] at hr
  refine ⟨w', hrun, ⟨⟨es, _, _, hr, hp, fun a ha => ?_⟩, hn, hk, hn, fun a ha => ha⟩, hg, hs⟩
  rw [Maps.has_eq, List.any_eq_true]
  constructor
  · rintro ⟨q, hq, hs⟩
    obtain ⟨p, hp', rfl⟩ := List.mem_map.1 (hp.mem_iff.1 hq)
    have := M.kl_inj (hk p hp') ha (WideAt.sameKey_eq hs)
    exact List.mem_map.2 ⟨p, hp', this⟩
  · intro hm
    obtain ⟨p, hp', rfl⟩ := List.mem_map.1 hm
    exact ⟨_, hp.mem_iff.2 (List.mem_map.2 ⟨p, hp', rfl⟩), WideAt.sameKey_self (M.isKey (hk p hp'))⟩

theorem same_iff [DecidableEq α] {a : α} {z : α} (hz : M.ok z) (ha : M.ok a) : ((M.kl z).sameKey (M.kl a) = true) ↔ z = a := by
  rw [M.same hz ha]; simp

/-- The step of the loop. -/
theorem RangeAt.next [DecidableEq α] {r cnt : Nat} {rest : List α} (h : RangeAt M w b r L rest cnt) (ty : TypeId) :
    (rest = [] ∧ (Instr.next (.pointer (some ⟨r, 0, none⟩)) false ty).run P w = .ok (.tuple #[.bool false]) w) ∨
    ∃ a v w' cnt', M.ok a ∧ a ∈ rest ∧ (a, v) ∈ L ∧ (Instr.next (.pointer (some ⟨r, 0, none⟩)) false ty).run P w = .ok (.tuple #[.bool true, M.val a, v]) w' ∧
      RangeAt M w' b r L (rest.erase a) cnt' ∧ cnt' < cnt ∧ w.grownBy w' (some r) ∧ w'.heap.size = w.heap.size ∧ (Instr.entry (.pointer (some ⟨r, 0, none⟩))).run P w' = .ok (.tuple #[M.val a, v]) w' := by
  obtain ⟨⟨es, n, left, hr, hp, hl⟩, hn, hk, hrn, hsub⟩ := h
  rcases hr.next M.K ty with ⟨h0, hl0, hrun⟩ | ⟨key, v, kl, y, w', cnt', hkey, hlk, hv, hat, hrun, hr', hlt, hg, hs, hen⟩
  · refine .inl ⟨?_, hrun⟩
    cases rest with
    | nil => rfl
    | cons a rest =>
      have hm := hsub a (by simp)
      obtain ⟨p, hp', rfl⟩ := List.mem_map.1 hm
      have := (hl p.1 (hk p hp')).2 (by simp)
      rw [hl0] at this
      cases this
  · obtain ⟨a, ha, rfl⟩ := M.inv key kl hkey
    obtain rfl : M.kl a = kl := by have := M.key a ha; rw [hkey] at this; exact (Option.some.inj this).symm
    have har := (hl a ha).1 hlk
    have hmem : (a, v) ∈ L := by
      obtain ⟨p, hp', e1⟩ := List.mem_map.1 (hsub a har)
      subst e1
      have h1 := hat .nil
      rw [← Option.some.inj hv] at h1
      simp only [DataW.atKey, find_perm hk hn ha hp] at h1
      have h2 : L.find? (fun q => q.1 = p.1) = some p := by
        cases hf : L.find? (fun q => q.1 = p.1) with
        | none => rw [List.find?_eq_none] at hf; exact absurd (by simp) (hf p hp')
        | some q =>
          have hq := List.find?_some hf
          have hpw := List.pairwise_map.1 (List.nodup_iff_pairwise_ne.1 hn)
          rw [pairwise_fst_eq hpw (List.mem_of_find?_eq_some hf) hp' (by simpa using hq)]
      rw [h2] at h1
      simp only [Option.map_some, ent, DataW.held.injEq] at h1
      rw [← h1]
      exact hp'
    refine .inr ⟨a, v, w', cnt', ha, har, hmem, hrun, ⟨⟨es, n, _, hr', hp, fun z hz => ?_⟩, hn, hk, hrn.erase a, fun z hz => hsub z (List.mem_of_mem_erase hz)⟩, hlt, hg, hs, hen⟩
    rw [Bool.and_eq_true, Bool.not_eq_true', hl z hz, hrn.mem_erase_iff, M.same hz ha]
    simp [and_comm]

/-- 'delete(m, k)' in the loop's round. -/
theorem RangeAt.drop [DecidableEq α] {t e : TypeId} {r cnt : Nat} {rest : List α} (h : RangeAt M w b r L rest cnt) (ht : P.underlying t = some (.map k e)) {a : α} (ha : M.ok a) (ty : TypeId) :
    ∃ w' cnt', (Builtin.delete_ #[t, k] ty #[.map (some b), M.val a]).run P w = .ok (.tuple #[]) w' ∧ RangeAt M w' b r (but L a) (rest.erase a) cnt' ∧ cnt' ≤ cnt ∧ w.mapTurned w' b := by
  obtain ⟨⟨es, n, left, hr, hp, hl⟩, hn, hk, hrn, hsub⟩ := h
  obtain ⟨w', cnt', hrun, hr', hle, hturn⟩ := hr.drop M.K ht (M.key a ha) ty
  rw [DataW.del_eq] at hr'
  refine ⟨w', cnt', hrun, ⟨⟨_, n, _, hr', filter_perm hk ha hp, fun z hz => ?_⟩, but_nodup hn, but_ok hk, hrn.erase a, fun z hz => ?_⟩, hle, hturn⟩
  · rw [Bool.and_eq_true, Bool.not_eq_true', hl z hz, hrn.mem_erase_iff, M.same hz ha]
    simp [and_comm]
  · rw [hrn.mem_erase_iff] at hz
    obtain ⟨p, hp', rfl⟩ := List.mem_map.1 (hsub z hz.2)
    exact List.mem_map.2 ⟨p, List.mem_filter.2 ⟨hp', by simpa using hz.1⟩, rfl⟩

end
/-! ### at the operation, for the walk -/
section
variable {P : Program} {k : TypeId} {α : Type} {M : KeyMk P k α} (w : World) {ops : Array Oper} {rest : List Oper} {o : Oper} {a : Act} {Q : Exit → Act → World → Prop}

theorem wpList_len_at (hg : o.guard = none) (m : Operand) (t : TypeId) (hop : o.op = Op.call { callee := Callee.builtin Builtin.len, args := #[m], argTypes := #[t] })
    (e : TypeId) (ht : P.underlying t = some (.map k e)) (b : Nat) (L : List (α × Value)) (hm : a.eval m = .map (some b)) (h : MapAt M w b L)
    (hK : wpList P ops Q rest (a.put o.dst (.int .i64 L.length)) w) : wpList P ops Q (o :: rest) a w := by
  refine wpList_plain hg fun K' hK' => ?_
  unfold Oper.wp
  simp [execOp, hop, resolve, invoke, builtin, hm, h.len ht o.type, Result.andThen]
  exact hK' _ _ hK

theorem wpList_look_at [DecidableEq α] (hg : o.guard = none) (m x : Operand) (t : TypeId) (hop : o.op = Op.lookup t m x true)
    (e : TypeId) (ht : P.underlying t = some (.map k e)) (z : Value) (hz : (zeroValue e).run P w = .ok z w) (b : Nat) (L : List (α × Value)) (hm : a.eval m = .map (some b)) (h : MapAt M w b L)
    (key : α) (hkey : M.ok key) (hx : a.eval x = M.val key) (v : Value) (is : Bool) (hv : (lkp L key).getD z = v) (his : (lkp L key).isSome = is)
    (hK : wpList P ops Q rest (a.put o.dst (.tuple #[v, .bool is])) w) : wpList P ops Q (o :: rest) a w := by
  refine wpList_plain hg fun K' hK' => ?_
  subst hv; subst his
  unfold Oper.wp
  simp [execOp, hop, hm, hx, h.look ht hz hkey, Result.andThen]
  exact hK' _ _ hK

theorem wpList_store_at [DecidableEq α] (hg : o.guard = none) (m x v : Operand) (t : TypeId) (hop : o.op = Op.mapUpdate t m x v)
    (e : TypeId) (ht : P.underlying t = some (.map k e)) (b : Nat) (L : List (α × Value)) (hm : a.eval m = .map (some b)) (h : MapAt M w b L) (hl : L.length < maxLen)
    (key : α) (hkey : M.ok key) (hx : a.eval x = M.val key) (val : Value) (hv : a.eval v = val)
    (hK : ∀ w', MapAt M w' b (but L key ++ [(key, val)]) → w.mapTurned w' b → wpList P ops Q rest (a.put o.dst undef) w') : wpList P ops Q (o :: rest) a w := by
  refine wpList_plain hg fun K' hK' => ?_
  obtain ⟨w', hrun, r1, r2⟩ := h.store ht hkey val hl
  unfold Oper.wp
  simp [execOp, hop, hm, hx, hv, hrun, Result.andThen]
  exact hK' _ _ (hK w' r1 r2)

theorem wpList_range_at (hg : o.guard = none) (m : Operand) (t : TypeId) (hop : o.op = Op.range t m) (e : TypeId) (ht : P.underlying t = some (.map k e)) (b : Nat) (L : List (α × Value))
    (hm : a.eval m = .map (some b)) (h : MapAt M w b L)
    (hK : ∀ w', RangeAt M w' b w.heap.size L (L.map (·.1)) L.length → w.grownBy w' none → w'.heap.size = w.heap.size + 1 → wpList P ops Q rest (a.put o.dst (.pointer (some ⟨w.heap.size, 0, none⟩))) w') :
    wpList P ops Q (o :: rest) a w := by
  refine wpList_plain hg fun K' hK' => ?_
  obtain ⟨w', hrun, r1, r2, r3⟩ := h.range ht
  unfold Oper.wp
  simp [execOp, hop, hm, hrun, Result.andThen]
  exact hK' _ _ (hK w' r1 r2 r3)

theorem wpList_next_at [DecidableEq α] (hg : o.guard = none) (it : Operand) (hop : o.op = Op.next it false) (b r : Nat) (L : List (α × Value)) (todo : List α) (cnt : Nat)
    (hit : a.eval it = .pointer (some ⟨r, 0, none⟩)) (h : RangeAt M w b r L todo cnt)
    (hDone : todo = [] → wpList P ops Q rest (a.put o.dst (.tuple #[.bool false])) w)
    (hMore : ∀ (x : α) (v : Value) (w' : World) (cnt' : Nat), M.ok x → x ∈ todo → (x, v) ∈ L → RangeAt M w' b r L (todo.erase x) cnt' → cnt' < cnt → w.grownBy w' (some r) → w'.heap.size = w.heap.size →
      (Instr.entry (.pointer (some ⟨r, 0, none⟩))).run P w' = .ok (.tuple #[M.val x, v]) w' → wpList P ops Q rest (a.put o.dst (.tuple #[.bool true, M.val x, v])) w') :
    wpList P ops Q (o :: rest) a w := by
  refine wpList_plain hg fun K' hK' => ?_
  unfold Oper.wp
  rcases h.next o.type with ⟨h0, hrun⟩ | ⟨x, v, w', cnt', hx, hxt, hxL, hrun, hr', hlt, hg', hs, hen⟩
  · simp [execOp, hop, hit, hrun, Result.andThen]
    exact hK' _ _ (hDone h0)
  · simp [execOp, hop, hit, hrun, Result.andThen]
    exact hK' _ _ (hMore x v w' cnt' hx hxt hxL hr' hlt hg' hs hen)

theorem wpList_drop_range_at [DecidableEq α] (hg : o.guard = none) (m x : Operand) (t : TypeId) (hop : o.op = Op.call { callee := Callee.builtin Builtin.delete, args := #[m, x], argTypes := #[t, k] })
    (e : TypeId) (ht : P.underlying t = some (.map k e)) (b r : Nat) (L : List (α × Value)) (todo : List α) (cnt : Nat)
    (hm : a.eval m = .map (some b)) (h : RangeAt M w b r L todo cnt) (key : α) (hkey : M.ok key) (hx : a.eval x = M.val key)
    (hK : ∀ w' cnt', RangeAt M w' b r (but L key) (todo.erase key) cnt' → cnt' ≤ cnt → w.mapTurned w' b → wpList P ops Q rest (a.put o.dst (.tuple #[])) w') :
    wpList P ops Q (o :: rest) a w := by
  refine wpList_plain hg fun K' hK' => ?_
  obtain ⟨w', cnt', hrun, r1, r2, r3⟩ := h.drop ht hkey o.type
  unfold Oper.wp
  simp [execOp, hop, resolve, invoke, builtin, hm, hx, hrun, Result.andThen]
  exact hK' _ _ (hK w' cnt' r1 r2 r3)

theorem wpList_drop_at [DecidableEq α] (hg : o.guard = none) (m x : Operand) (t : TypeId) (hop : o.op = Op.call { callee := Callee.builtin Builtin.delete, args := #[m, x], argTypes := #[t, k] })
    (e : TypeId) (ht : P.underlying t = some (.map k e)) (b : Nat) (L : List (α × Value))
    (hm : a.eval m = .map (some b)) (h : MapAt M w b L) (key : α) (hkey : M.ok key) (hx : a.eval x = M.val key)
    (hK : ∀ w', MapAt M w' b (but L key) → w.mapTurned w' b → wpList P ops Q rest (a.put o.dst (.tuple #[])) w') :
    wpList P ops Q (o :: rest) a w := by
  refine wpList_plain hg fun K' hK' => ?_
  obtain ⟨w', hrun, r1, r2⟩ := h.drop ht hkey o.type
  unfold Oper.wp
  simp [execOp, hop, resolve, invoke, builtin, hm, hx, hrun, Result.andThen]
  exact hK' _ _ (hK w' r1 r2)
end

/-! ### what a call may have turned -/

/-- Of what was there in w nothing but the blocks S has turned. -/
structure Fr (S : Nat → Prop) (w w' : World) : Prop where
  os : w'.os = w.os
  tape : w'.tape = w.tape
  output : w'.output = w.output
  size : w.heap.size ≤ w'.heap.size
  block : ∀ i, i < w.heap.size → ¬ S i → w'.heap[i]? = w.heap[i]?

namespace Fr
variable {S S' : Nat → Prop} {a b c w w' : World}
theorem refl (S : Nat → Prop) (w : World) : Fr S w w := ⟨rfl, rfl, rfl, Nat.le_refl _, fun _ _ _ => rfl⟩
theorem trans (h : Fr S a b) (h' : Fr S' b c) (hs : ∀ i, i < a.heap.size → S' i → S i) : Fr S a c :=
  ⟨h'.os.trans h.os, h'.tape.trans h.tape, h'.output.trans h.output, Nat.le_trans h.size h'.size, fun i hi hn => (h'.block i (Nat.lt_of_lt_of_le hi h.size) (fun e => hn (hs i hi e))).trans (h.block i hi hn)⟩
theorem mono (h : Fr S a b) (hs : ∀ i, i < a.heap.size → S i → S' i) : Fr S' a b := ⟨h.os, h.tape, h.output, h.size, fun i hi hn => h.block i hi (fun e => hn (hs i hi e))⟩
theorem alloc (h : Fr S a b) (o : Obj) : Fr S a (b.alloc o) := h.trans (S' := fun _ => False) ⟨rfl, rfl, rfl, by simp, fun i hi _ => Below.heap_alloc _ _ _ hi⟩ (fun _ _ e => e.elim)
theorem drewN (h : Fr S a b) (n : Nat) : Fr S a (b.drewN n) := ⟨h.os, h.tape, h.output, h.size, h.block⟩
theorem drew (h : Fr S a b) : Fr S a b.drew := ⟨h.os, h.tape, h.output, h.size, h.block⟩
theorem setCell (h : Fr S a b) (p : Addr) (u : Value) (hp : p.block < a.heap.size → S p.block) : Fr S a (b.setCell p u) :=
  h.trans (S' := fun i => i = p.block) ⟨rfl, rfl, rfl, by simp [World.setCell], fun i _ hn => Below.heap_setCell _ _ _ _ hn⟩ (fun i hi e => by subst e; exact hp hi)
theorem grown (h : Fr S a b) {row : Option Nat} (hg : b.grownBy c row) (hr : ∀ r, row = some r → r < a.heap.size → S r) : Fr S a c :=
  h.trans (S' := fun i => some i = row) ⟨hg.os, hg.tape, hg.output, hg.size, fun i hi hn => hg.block i hi hn⟩ (fun i hi e => hr i e.symm hi)
theorem below (h : Fr (fun _ => False) w w') : Below w.heap.size w w' := ⟨h.os, h.tape, h.output, h.size, fun i hi => h.block i hi (fun e => e)⟩
end Fr

end Go.Proofs.Ytfnphkijalkllaa
