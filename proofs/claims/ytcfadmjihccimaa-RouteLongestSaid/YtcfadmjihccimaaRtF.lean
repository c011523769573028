/- The reference's table of law 10: Drop. No condition but lengths. -/
import Derived.Test.YtcfadmjihccimaaRtE
namespace Go.Proofs.Ytcfadmjihccimaa
set_option linter.unusedVariables false
set_option linter.unusedSimpArgs false
open Go.RowKit
theorem wfl_take (L : List W10) (k : Nat) : (wfl L).take (k * 10) = wfl (L.take k) := by
  induction L generalizing k with
  | nil => simp [wfl]
  | cons x L ih =>
    cases k with
    | zero => simp [wfl]
    | succ k =>
      have e : (k + 1) * 10 = x.cells.length + k * 10 := by rw [W10.cells_len]; omega
      show (x.cells ++ wfl L).take ((k + 1) * 10) = x.cells ++ wfl (L.take k)
      rw [e, List.take_length_add_append, ih]
theorem wfl_drop (L : List W10) (k : Nat) : (wfl L).drop (k * 10) = wfl (L.drop k) := by
  induction L generalizing k with
  | nil => simp [wfl]
  | cons x L ih =>
    cases k with
    | zero => simp [wfl]
    | succ k =>
      have e : (k + 1) * 10 = x.cells.length + k * 10 := by rw [W10.cells_len]; omega
      show (x.cells ++ wfl L).drop ((k + 1) * 10) = wfl (L.drop k)
      rw [e, List.drop_length_add_append, ih]
def dropE (R : List W10) (k : I4) (b : Int) : Int := match R.findIdx? (keyW k b) with | some _ => 0 | none => 7
def dropL (R : List W10) (k : I4) (b : Int) : List W10 := match R.findIdx? (keyW k b) with | some i => R.take i ++ R.drop (i + 1) | none => R
set_option maxHeartbeats 8000000 in
set_option maxRecDepth 100000 in
theorem rdrop33 (N g : Nat) (R : List W10) (lv : Value) (key : I4) (bits : Int) (w : World) (hk : key.ok) (hR : RrAt N w g R lv) (hlen : R.length ≤ 8) (hN : N ≤ w.heap.size) :
    Calls Try.prog 33 #[.pointer (some ⟨g, 0, none⟩), .agg #[.int .u8 key.a, .int .u8 key.b, .int .u8 key.c, .int .u8 key.d], .int .i64 bits] w (RrPost N g (dropL R key bits) lv (dropE R key bits) w) := by
  have FA := Lib.hid (Fr.refl (fun _ => False) w)
  have HX := Lib.hid hk
  have HR := Lib.hid hR
  have HN := Lib.hid hN
  obtain ⟨n, hn⟩ : ∃ n, R.length = n := ⟨_, rfl⟩
  have Hn := Lib.hid hn
  obtain ⟨A, cap, hv, _, _⟩ := hR.sl.form
  rw [hn] at hv hlen
  subst hv
  obtain ⟨r0, hr0⟩ : ∃ r0, dropE R key bits = r0 := ⟨_, rfl⟩
  obtain ⟨R', hR'⟩ : ∃ R', dropL R key bits = R' := ⟨_, rfl⟩
  rw [hr0, hR']
  have HR0 := Lib.hid (And.intro hr0 hR')
  clear hk hR hN hr0 hR' hn
  go_enter Try.func33, Try.ntmps33
  go_upto_region 1 with (fail)
  have B1 := Lib.hid (box_at w key.cells 45)
  have F1 := Lib.hid (FA.out.alloc (.cells key.cells.toArray 45))
  unfold I4.cells at B1 F1
  generalize w.alloc (.cells #[.int .u8 key.a, .int .u8 key.b, .int .u8 key.c, .int .u8 key.d] 45) = w1 at B1 F1 ⊢
  obtain ⟨b0, hb0⟩ : ∃ b0, w.heap.size = b0 := ⟨_, rfl⟩
  have HB0 := Lib.hid hb0
  rw [hb0] at B1 ⊢
  clear hb0
  have HBX := Lib.hid (fun (w' : World) (f : Fr (fun _ => False) w1 w') => range_at w' b0 key.cells 45 (B1.out w' f))
  have H1 := Lib.hid (HR.out.fr F1.out)
  iterate 20 (first
    | (have := MK1; clear this)
    | (refine wpList_load_mid rfl 45 _ rfl b0 0 rfl key.cells _ (HBX.out w1 (Fr.refl _ _)) Try.underlying45 rfl (by kernel_rfl) ?_; have MK1 := Lib.hid True.intro)
    | go_step)
  go_upto_region 2 with (go_at_call 57; refine (rat57 N g R (.slice A n cap) key bits w1 HX.out H1.out (by rw [Hn.out]; omega)).mono ?_; rintro e w3 ⟨rfl, f3⟩; have F3 := Lib.hid f3; clear f3)
  have H3 := Lib.hid (HR.out.fr (F1.out.then' F3.out))
  cases hfi : R.findIdx? (keyW key bits) with
  | none =>
    have HE := Lib.hid (show r0 = 7 ∧ R' = R from ⟨by rw [← HR0.out.1]; unfold dropE; rw [hfi], by rw [← HR0.out.2]; unfold dropL; rw [hfi]⟩)
    have hix : idxW R key bits = -1 := by unfold idxW; rw [hfi]
    rw [hix]
    clear hix hfi
    as_aux_lemma =>
    go_wp2_with fail
    go_ret
    rw [HE.out.1, HE.out.2]
    exact ⟨rfl, _, H3.out, (F1.out.then' F3.out).upto⟩
  | some i =>
    have hi : i < n := by rw [← Hn.out]; exact (List.findIdx?_eq_some_iff_getElem.1 hfi).1
    have HE := Lib.hid (show r0 = 0 ∧ R' = R.take i ++ R.drop (i + 1) from ⟨by rw [← HR0.out.1]; unfold dropE; rw [hfi], by rw [← HR0.out.2]; unfold dropL; rw [hfi]⟩)
    have hix : idxW R key bits = (i : Int) := by unfold idxW; rw [hfi]
    rw [hix]
    clear hix hfi
    have hiI : ¬ (i : Int) < 0 := by omega
    go_upto_region 4 with (fail)
    have hs := H3.out.sl
    rw [Hn.out] at hs
    obtain ⟨vu, hur, hus, huo⟩ := hs.upto st65 i (by omega)
    obtain ⟨Au, cu, hvu, _, _⟩ := hus.form
    subst hvu
    have HUR := Lib.hid hur
    have HUS := Lib.hid hus
    have HSL := Lib.hid hs
    clear hur hus huo hs
    have cg := H3.out.line
    have HNW := Lib.hid (show N ≤ w3.heap.size by have := HN.out; have := F1.out.size; have := F3.out.size; omega)
    iterate 40 (first
      | (have := MK2; clear this)
      | (refine wpList_append_sl rfl _ _ rfl st65 (.slice none 0 0) 0 [] rfl (Sl.nil N 69 10 _) (.slice Au i cu) i _ rfl (HUS.out.src Try.underlying65 (fun u hu => wfl_one R u (List.mem_of_mem_take hu))) (by simp only [maxLen]; omega) (by omega) HNW.out ?_; intro v8 w8 sl8 gr8 ob8 nil8; have S8 := Lib.hid sl8; have F8 := Lib.hid (show Fr (fun _ => False) w3 w8 from (fr_of_grown gr8).mono (fun _ _ e => by cases e)); have OB8 := Lib.hid ob8; clear sl8 gr8 ob8 nil8; have MK2 := Lib.hid True.intro)
      | (refine wpList_sliceTo rfl _ _ rfl rfl rfl HUR.out ?_)
      | go_step)
    clear cg
    have S8 := Lib.hid (show Sl N 69 10 w8 v8 i (wfl (R.take i)) by have h := S8.out; rw [wfl_take, Nat.zero_add, List.nil_append] at h; exact h)
    obtain ⟨A8, c8, hv8, _, _⟩ := S8.out.form
    subst hv8
    have H8 := Lib.hid (H3.out.fr F8.out)
    have hs := H8.out.sl
    rw [Hn.out] at hs
    obtain ⟨vf, hfr, hfs, hfo⟩ := hs.from st65 (i + 1) (by omega)
    obtain ⟨Af, cf, hvf, _, _⟩ := hfs.form
    subst hvf
    rw [wfl_drop] at hfs
    have HFR := Lib.hid (show ∀ w' : World, (Instr.sliceAt 65 (.slice A n cap) (some (.int .i64 ((i + 1 : Nat) : Int))) none none).run Try.prog w' = .ok (.slice Af (n - (i + 1)) cf) w' from hfr)
    have HFS := Lib.hid hfs
    clear hfr hfs hfo hs
    have HNW8 := Lib.hid (show N ≤ w8.heap.size by have := HNW.out; have := F8.out.size; omega)
    go_upto_region 5 with (fail)
    have cg := H8.out.line
    iterate 60 (first
      | (have := MK3; clear this)
      | (refine wpList_append_sl rfl _ _ rfl st65 (.slice A8 i c8) i _ rfl S8.out (.slice Af (n - (i + 1)) cf) (n - (i + 1)) _ rfl (HFS.out.src Try.underlying65 (wfl_one _)) (by simp only [maxLen]; omega) (by omega) HNW8.out ?_; intro v9 w9 sl9 gr9 ob9 nil9; have S9 := Lib.hid sl9; have F9 := Lib.hid (fr_of_grown gr9); have OB9 := Lib.hid ob9; clear sl9 gr9 ob9 nil9; have MK3 := Lib.hid True.intro)
      | (refine wpList_slice rfl _ _ rfl rfl (k := i + 1) (by first | rfl | (show Value.int .i64 _ = _; go_num)) HFR.out ?_)
      | go_step)
    clear cg
    obtain ⟨A9, c9, hv9, _, _⟩ := S9.out.form
    subst hv9
    have h8g := S8.out.ne (t := 67) H8.out.blk (by decide)
    have hb9 : w9.heap[g]? = some (.cells #[.slice A n cap] 67) := (F9.out.block g (lt_of_block H8.out.blk) h8g).trans H8.out.blk
    have h9g := S9.out.ne (t := 67) hb9 (by decide)
    have HB9 := Lib.hid hb9
    have H9G := Lib.hid h9g
    have H8G := Lib.hid h8g
    have hc1 := cells_at w9 g [.slice A n cap] 67 hb9 0 _ rfl
    have hz1 := frozen_of_row w9 g 0 _ 67 hb9
    clear h8g hb9 h9g
    go_upto_region 6 with (fail)
    clear hc1 hz1
    go_wp2_with fail
    go_ret
    rw [HE.out.1, HE.out.2]
    have f9 : Fr (fun i => i = g ∨ (Value.slice A n cap).ownBlock = some i) w w9 :=
      (((F1.out.then' F3.out).then' F8.out).upto (S := fun i => i = g ∨ (Value.slice A n cap).ownBlock = some i)).trans F9.out (fun k hk e => by
        have h1 := (S8.out.lt k e).1
        have h2 := OB8.out
        rcases h2 with h2 | h2
        · rw [e] at h2; cases h2
        · rw [e] at h2; injection h2 with h2
          have := F1.out.size; have := F3.out.size
          omega)
    refine ⟨rfl, .slice A9 (i + (n - (i + 1))) c9, ⟨?_, ?_, H9G.out, ?_⟩, f9.setCell _ _ (fun _ => .inl rfl)⟩
    · rw [heap_setCell_same w9 g 0 _ 67 _ HB9.out]; rfl
    · rw [List.length_append, List.length_take, List.length_drop, Hn.out, Nat.min_eq_left (by omega), wfl_app]
      exact S9.out.heap (fun k hk => Below.heap_setCell _ _ _ _ (fun e => H9G.out (by rw [hk]; first | rw [e] | rw [← e])))
    · intro p hp
      rcases List.mem_append.1 hp with hp | hp
      · exact HR.out.ok p (List.mem_of_mem_take hp)
      · exact HR.out.ok p (List.mem_of_mem_drop hp)
end Go.Proofs.Ytcfadmjihccimaa
