/- What is quoted of a packet that was laid: plain law. No condition but lengths. -/
import Derived.Test.YtcfadmjihccimaaIcBc
import Derived.Test.YtcfadmjihccimaaIcQg0
import Derived.Test.YtcfadmjihccimaaKw
namespace Go.Proofs.Ytcfadmjihccimaa
set_option linter.unusedVariables false
set_option linter.unusedSimpArgs false
open Go.RowKit
def hB (f t s : Int) : List Int := [f.tdiv 256 % 256, f % 256, t.tdiv 256 % 256, t % 256, s / 16777216, s / 65536 % 256, s / 256 % 256, s % 256]
theorem hB_isB (f t s : Int) (hs : 0 ≤ s ∧ s ≤ 4294967295) : isB (hB f t s) := by
  intro x hx
  unfold hB at hx
  simp only [List.mem_cons, List.not_mem_nil, or_false] at hx
  rcases hx with rfl | rfl | rfl | rfl | rfl | rfl | rfl | rfl <;> omega
/-- The quote of a packet with these eight bytes. -/
def quH (p : Ph) (h : List Int) : Qt :=
  ⟨p.s0, p.s1, p.s2, p.s3, p.d0, p.d1, p.d2, p.d3, p.proto,
    if p.proto = 6 then atV h 0 2 else if p.proto = 17 then atV h 0 2 else if p.proto = 1 then atV h 4 2 else 0,
    if p.proto = 6 then atV h 2 2 else if p.proto = 17 then atV h 2 2 else 0,
    if p.proto = 6 then atV h 4 4 else 0⟩
theorem lay_eq (p : Ph) (sz s : Int) (o x : List Int) : p.lay sz s o ++ x = (64 + (20 + (o.length : Int)) / 4) :: p.tos :: (sz / 256 % 256) :: (sz % 256) :: (p.id / 256 % 256) :: (p.id % 256) :: (p.fl / 256 % 256) :: (p.fl % 256) :: p.ttl :: p.proto :: (s / 256 % 256) :: (s % 256) :: p.s0 :: p.s1 :: p.s2 :: p.s3 :: p.d0 :: p.d1 :: p.d2 :: p.d3 :: (o ++ x) := by
  unfold Ph.lay by16
  simp only [List.cons_append, List.nil_append, List.append_assoc]
theorem lay_hd0 (p : Ph) (sz s : Int) {o : List Int} (h4 : o.length % 4 = 0) (h40 : o.length ≤ 40) (x : List Int) : hd0 (p.lay sz s o ++ x) = 20 + (o.length : Int) := by
  unfold hd0
  rw [lay_eq]
  show (64 + (20 + (o.length : Int)) / 4) % 16 * 4 = _
  omega
theorem lay_qn (p : Ph) (sz s : Int) {o : List Int} (h4 : o.length % 4 = 0) (h40 : o.length ≤ 40) (x : List Int) (n : Nat) (hn : 28 + o.length ≤ n) : qn (p.lay sz s o ++ x) n = 28 + o.length := by
  unfold qn
  rw [lay_hd0 p sz s h4 h40]
  omega
theorem lay_take (p : Ph) (sz s : Int) (o h b : List Int) (hh : h.length = 8) : (p.lay sz s o ++ (h ++ b)).take (28 + o.length) = p.lay sz s o ++ h := by
  rw [← List.append_assoc, List.take_append_of_le_length (by rw [List.length_append, lay_length, hh]; omega), List.take_of_length_le (by rw [List.length_append, lay_length, hh]; omega)]
theorem lay_quE {p : Ph} (hp : p.ok) (sz s : Int) {o : List Int} (h4 : o.length % 4 = 0) (h40 : o.length ≤ 40) (h : List Int) (hh : h.length = 8) : quE (p.lay sz s o ++ h) = 0 := by
  unfold quE
  have h1 : (p.lay sz s o ++ h).length = 28 + o.length := by rw [List.length_append, lay_length, hh]; omega
  rw [if_neg (by rw [h1]; omega), if_neg, lay_hd0 p sz s h4 h40, if_neg (by omega), if_neg (by rw [h1]; omega)]
  rw [lay_eq]
  show ¬ (64 + (20 + (o.length : Int)) / 4) / 16 ≠ 4
  omega
theorem lay_quT {p : Ph} (hp : p.ok) (sz s : Int) {o : List Int} (h4 : o.length % 4 = 0) (h40 : o.length ≤ 40) (h : List Int) (hh : h.length = 8) : quT (p.lay sz s o ++ h) = quH p h := by
  unfold quT
  rw [if_pos (lay_quE hp sz s h4 h40 h hh)]
  unfold quR
  have hd : (p.lay sz s o ++ h).drop (hd0 (p.lay sz s o ++ h)).toNat = h := by
    rw [lay_hd0 p sz s h4 h40, List.drop_append_of_le_length (by rw [lay_length]; omega), List.drop_eq_nil_of_le (by rw [lay_length]; omega), List.nil_append]
  simp only [hd]
  rw [lay_eq]
  rfl
theorem hB_at {f t s : Int} (hf : 0 ≤ f ∧ f ≤ 65535) (ht : 0 ≤ t ∧ t ≤ 65535) (hs : 0 ≤ s ∧ s ≤ 4294967295) : atV (hB f t s) 0 2 = f ∧ atV (hB f t s) 2 2 = t ∧ atV (hB f t s) 4 4 = s ∧ atV (hB f t s) 4 2 = s / 65536 := by
  have e1 : f.tdiv 256 = f / 256 := Int.tdiv_eq_ediv_of_nonneg hf.1
  have e2 : t.tdiv 256 = t / 256 := Int.tdiv_eq_ediv_of_nonneg ht.1
  unfold hB atV
  rw [e1, e2]
  simp [be]
  refine ⟨?_, ?_, ?_, ?_⟩ <;> omega
theorem own_made (w : World) (l : List Int) (n : Nat) (hn : l.length = n) (hm : n ≤ maxLen) : OwnB w.heap.size (w.alloc (.cells (l.map (Value.int .u8)).toArray 5)) (.slice (some ⟨w.heap.size, 0, none⟩) n n) l := by
  subst hn
  exact ⟨by simp, .inr ⟨_, _, _, rfl, Nat.le_refl _, heap_alloc_new w _, Nat.le_refl _, hm, by simp, by simp; rw [List.take_of_length_le (by simp)]⟩⟩
theorem wp_appN {op : Oper} {a : Act} {K : Act → World → Prop} {Q : Exit → Act → World → Prop} (w : World) (s x : Operand)
    (ho : op.op = .call { callee := .builtin .append, args := #[s, x], argTypes := #[22, 22] })
    (base : Nat) (v : Value) (l : List Int) (hs : a.eval s = v) (hown : OwnB base w v l) (n₀ : Nat) (A : Option Addr) (n c : Nat) (k : List Int) (hn : k.length = n) (hx : a.eval x = .slice A n c) (hb : BytesIn n₀ w A k) (hlen : l.length + n ≤ 140737488355328) (hbase : base ≤ w.heap.size)
    (h : ∀ v' w', OwnB base w' v' (l ++ k) → Fr (fun i => v.ownBlock = some i) w w' → K (a.put op.dst v') w') : op.wp Try.prog a w K Q := by
  subst hn
  obtain ⟨v', w', hr, h2, h3, h4, h5⟩ := run_app c op.type hown hb hlen hbase
  unfold Oper.wp execOp
  simp only [ho, resolve, invoke, builtin, Sem.run_bind, Sem.run_pure, Result.andThen_ok, List.map_toArray, List.map_cons, List.map_nil, hs, hx, hr]
  exact h v' w' h2 (fr_of_grown h3)
theorem quoted_lay {p : Ph} (hp : p.ok) (sz s : Int) {o : List Int} (h4 : o.length % 4 = 0) (h40 : o.length ≤ 40) (h : List Int) (hh : h.length = 8) (A : Option Addr) (k c : Nat) (w : World) (hc : k ≤ c) (P : Pc w A k (p.lay sz s o ++ h)) :
    Calls Try.prog 25 #[.slice A k c] w fun e w' => e = .returned (.tuple #[.agg #[.int .u8 p.s0, .int .u8 p.s1, .int .u8 p.s2, .int .u8 p.s3, .int .u8 p.d0, .int .u8 p.d1, .int .u8 p.d2, .int .u8 p.d3, .int .i64 p.proto, .int .i64 (quH p h).a, .int .i64 (quH p h).b, .int .u32 (quH p h).q], .int .i64 0]) ∧ Fr (fun _ => False) w w' := by
  refine (quoted_any A k c _ w hc P).mono fun e w' h' => ?_
  unfold QuPost at h'
  rw [lay_quE hp sz s h4 h40 h hh, lay_quT hp sz s h4 h40 h hh] at h'
  exact h'
theorem quH_6 {p : Ph} {f t s : Int} (hf : 0 ≤ f ∧ f ≤ 65535) (ht : 0 ≤ t ∧ t ≤ 65535) (hs : 0 ≤ s ∧ s ≤ 4294967295) (h : p.proto = 6) : (quH p (hB f t s)).a = f ∧ (quH p (hB f t s)).b = t ∧ (quH p (hB f t s)).q = s := by
  obtain ⟨h1, h2, h3, _⟩ := hB_at hf ht hs
  simp [quH, h, h1, h2, h3]
theorem quH_17 {p : Ph} {f t s : Int} (hf : 0 ≤ f ∧ f ≤ 65535) (ht : 0 ≤ t ∧ t ≤ 65535) (hs : 0 ≤ s ∧ s ≤ 4294967295) (h : p.proto = 17) : (quH p (hB f t s)).a = f ∧ (quH p (hB f t s)).b = t ∧ (quH p (hB f t s)).q = 0 := by
  obtain ⟨h1, h2, h3, _⟩ := hB_at hf ht hs
  simp [quH, h, h1, h2, h3]
theorem quH_1 {p : Ph} {f t s : Int} (hf : 0 ≤ f ∧ f ≤ 65535) (ht : 0 ≤ t ∧ t ≤ 65535) (hs : 0 ≤ s ∧ s ≤ 4294967295) (h : p.proto = 1) : (quH p (hB f t s)).a = s / 65536 ∧ (quH p (hB f t s)).b = 0 ∧ (quH p (hB f t s)).q = 0 := by
  obtain ⟨h1, h2, h3, h4⟩ := hB_at hf ht hs
  simp [quH, h, h1, h2, h3, h4]
theorem quH_no {p : Ph} {h : List Int} (h6 : p.proto ≠ 6) (h17 : p.proto ≠ 17) (h1 : p.proto ≠ 1) : (quH p h).a = 0 ∧ (quH p h).b = 0 ∧ (quH p h).q = 0 := by
  simp [quH, h6, h17, h1]
/-- What Encode and Decode make of a quote. -/
def m33 : Im := ⟨3, 3, 0, 0, 0⟩
theorem enc33 {L : List Int} {k : Nat} (hB : isB L) (hl : L.length = k) (hk : k ≤ 1016) : encE m33 k = 0 ∧ decE (encL m33 k L) = 0 ∧ decM (encL m33 k L) = m33 ∧ decL (encL m33 k L) = L := by
  have h : encE m33 k = 0 := by unfold encE; rw [if_pos hk, if_pos (by decide)]
  exact ⟨h, back_law hB hl h⟩
theorem enc33_B {L : List Int} {k : Nat} (hB : isB L) (hl : L.length = k) (hk : k ≤ 1016) : isB (encL m33 k L) ∧ (encL m33 k L).length = 8 + k := by
  have h : encL m33 k L = m33.lay (ck (m33.lay 0 L)) L := by unfold encL; rw [if_pos ⟨hk, by decide⟩]
  rw [h]
  exact ⟨isB_lay (by decide) _ hB, by rw [lay_len, hl]⟩
theorem bd24 : BdTy Try.prog 24 #[(0, 1), (1, 1), (2, 1), (3, 1), (4, 1), (5, 1)] (.agg #[.int .i64 0, .int .i64 0, .int .i64 0, .int .i64 0, .int .i64 0, .slice none 0 0]) := ⟨⟨_, Try.underlying24, fun w => by kernel_rfl⟩, fun w => by kernel_rfl⟩
theorem flat45q : flatK Try.prog 9 45 = some [some .u8, some .u8, some .u8, some .u8] := by kernel_rfl
theorem neq4 {a b c d : Int} (h : isB [a, b, c, d]) (w : World) : (binOp .neq 45 (.agg #[.int .u8 a, .int .u8 b, .int .u8 c, .int .u8 d]) (.agg #[.int .u8 a, .int .u8 b, .int .u8 c, .int .u8 d])).run Try.prog w = .ok (.bool false) w := by
  have f : FitsL [some .u8, some .u8, some .u8, some .u8] [.int .u8 a, .int .u8 b, .int .u8 c, .int .u8 d] :=
    ⟨⟨_, rfl, wfu8 (h a (by simp))⟩, ⟨_, rfl, wfu8 (h b (by simp))⟩, ⟨_, rfl, wfu8 (h c (by simp))⟩, ⟨_, rfl, wfu8 (h d (by simp))⟩, trivial⟩
  exact run_neq_flat (P := Try.prog) flat45q (by kernel_rfl) f f (by kernel_rfl) (by kernel_rfl) true (by simp) w
theorem neq_src {p : Ph} (h : p.ok) (w : World) : (binOp .neq 45 (.agg #[.int .u8 p.s0, .int .u8 p.s1, .int .u8 p.s2, .int .u8 p.s3]) (.agg #[.int .u8 p.s0, .int .u8 p.s1, .int .u8 p.s2, .int .u8 p.s3])).run Try.prog w = .ok (.bool false) w := neq4 h.src w
theorem neq_dst {p : Ph} (h : p.ok) (w : World) : (binOp .neq 45 (.agg #[.int .u8 p.d0, .int .u8 p.d1, .int .u8 p.d2, .int .u8 p.d3]) (.agg #[.int .u8 p.d0, .int .u8 p.d1, .int .u8 p.d2, .int .u8 p.d3])).run Try.prog w = .ok (.bool false) w := neq4 h.dst w
end Go.Proofs.Ytcfadmjihccimaa
