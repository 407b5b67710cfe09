/- It is proved that numbers are read back from the bits at which they were written, whatever is written before and behind them, and that results are valid (statement BitsBack), for every input, without conditions. -/
import Derived.Test.YteeamcodapjccaaX3
import Derived.Test.YteeamcodapjccaaBi
namespace Go.Proofs.Yteeamcodapjccaa.Pure
open Go.RowKit Go.Proofs.Yteeamcodapjccaa.X Go.Proofs.YteeamcodapjccaaW.PrintWords Go.Proofs.YteeamcodapjccaaW.PrintLast
open Go.Proofs.Yteeamcodapjccaa.PBitsAnswers Go.Proofs.Yteeamcodapjccaa.Bb Go.Proofs.Yteeamcodapjccaa.Be Go.Proofs.Yteeamcodapjccaa.Bf Go.Proofs.Yteeamcodapjccaa.Bh Go.Proofs.Yteeamcodapjccaa.Bi

/-- What was written: for each number where, how wide and what. -/
def Wrote (ps ws vs : List Int) (bs : List Bool) : Prop := ps.length = ws.length ∧ ps.length = vs.length ∧ ∀ t : Nat, t < ps.length → ∃ (qs cs : List Bool) (v k : Nat), bs = qs ++ bitsOf v k ++ cs ∧ v < 2 ^ k ∧ 1 ≤ k ∧ k ≤ 24 ∧ rd ps (t : Int) = (qs.length : Int) ∧ rd ws (t : Int) = (k : Int) ∧ rd vs (t : Int) = (v : Int)
theorem rd_left {l : List Int} {x : Int} {t : Nat} (h : t < l.length) : rd (l ++ [x]) (t : Int) = rd l (t : Int) := by
  unfold rd; rw [Int.toNat_natCast, List.getD_eq_getElem?_getD, List.getD_eq_getElem?_getD, List.getElem?_append_left h]
theorem rd_last {l : List Int} {x : Int} : rd (l ++ [x]) (l.length : Int) = x := by
  unfold rd; rw [Int.toNat_natCast, List.getD_eq_getElem?_getD]; simp
theorem Wrote.more {ps ws vs : List Int} {bs : List Bool} (h : Wrote ps ws vs bs) {v k : Nat} (hv : v < 2 ^ k) (h1 : 1 ≤ k) (h24 : k ≤ 24) : Wrote (ps ++ [(bs.length : Int)]) (ws ++ [(k : Int)]) (vs ++ [(v : Int)]) (bs ++ bitsOf v k) := by
  obtain ⟨e1, e2, h⟩ := h
  refine ⟨by simp [e1], by simp [e2], fun t ht => ?_⟩
  rw [List.length_append, List.length_singleton] at ht
  rcases Nat.lt_or_ge t ps.length with hl | hl
  · obtain ⟨qs, cs, v', k', g1, g2, g3, g4, g5, g6, g7⟩ := h t hl
    refine ⟨qs, cs ++ bitsOf v k, v', k', by rw [g1]; simp, g2, g3, g4, ?_, ?_, ?_⟩
    · rw [rd_left hl]; exact g5
    · rw [rd_left (by omega)]; exact g6
    · rw [rd_left (by omega)]; exact g7
  · obtain rfl : t = ps.length := by omega
    refine ⟨bs, [], v, k, by simp, hv, h1, h24, ?_, ?_, ?_⟩
    · exact rd_last
    · rw [e1]; exact rd_last
    · rw [e2]; exact rd_last
theorem back_check {ps ws vs : List Int} {bs : List Bool} (h : Wrote ps ws vs bs) (hb : bs.length ≤ 40000) (hp : ps.length ≤ 1000) (d : Nat) : ∀ i : Nat, i + d = ps.length → Ev (fun k => synopticlaw07_BitsBack.l1 k ps ws vs (i : Int) (pack bs) (bs.length : Int)) true := by
  induction d with
  | zero =>
    intro i hi
    refine Ev.succ ⟨0, fun k _ => ?_⟩
    simp only [synopticlaw07_BitsBack.l1]
    rw [if_neg (by omega), awake_true]
    rfl
  | succ d ih =>
    intro i hi
    obtain ⟨qs, cs, v, w, g1, g2, g3, g4, g5, g6, g7⟩ := h.2.2 i (by omega)
    have hr := read_pack (bs := bs) hb (at_ := qs.length) (w := w) g3 g4 (by rw [g1]; simp [bitsOf_length])
    rw [show readV bs qs.length w = v from by rw [g1]; exact readV_back g2] at hr
    obtain ⟨K1, h1⟩ := hr
    obtain ⟨K2, h2⟩ := ih (i + 1) (by omega)
    refine Ev.succ ⟨K1 + K2, fun k hk => ?_⟩
    simp only at h1 h2 ⊢
    simp only [synopticlaw07_BitsBack.l1]
    have := h.1; have := h.2.1
    rw [if_pos (by omega), if_pos (by omega), if_pos (by omega), g5, g6, h1 k (by omega), Option.bind_some]
    simp only [if_true]
    rw [if_pos (by omega), g7, if_pos rfl, show wrap64 ((i : Int) + 1) = ((i + 1 : Nat) : Int) from by unfold wrap64; omega]
    exact h2 k (by omega)
theorem back_loop {s : List Int} (d : Nat) : ∀ (ps ws vs : List Int) (bs : List Bool) (a : Int), Src s a → Wrote ps ws vs bs → ps.length + d ≤ 40 → bs.length + 24 * d ≤ 960 → Ev (fun k => synopticlaw07_BitsBack.l0 k ps ws vs (d : Int) s a (pack bs) (bs.length : Int)) true := by
  induction d with
  | zero =>
    intro ps ws vs bs a hs hw hp hb
    refine Ev.succ (Ev.congr (fun k => ?_) (back_check hw (by omega) (by omega) ps.length 0 (by omega)))
    simp only [synopticlaw07_BitsBack.l0]
    rw [if_neg (by omega)]
    rfl
  | succ d ih =>
    intro ps ws vs bs a hs hw hp hb
    obtain ⟨w, j1, e1, s1, b1, b2⟩ := range_src hs (show (-1000000 : Int) ≤ 1 by omega) (show (1 : Int) ≤ 24 by omega) (by omega)
    obtain ⟨x, j2, e2, s2, b3, b4⟩ := raw_src s1
    obtain ⟨y, j3, e3, s3, b5, b6⟩ := raw_src s2
    obtain ⟨k, rfl⟩ := Int.eq_ofNat_of_zero_le (show 0 ≤ w by omega)
    have hk1 : 1 ≤ k := by omega
    have hk24 : k ≤ 24 := by omega
    have eu : IntKind.u64.wrap (k : Int) = (k : Int) := by rw [IntKind.wrap_u64]; omega
    have hp2 : (2 : Int) ^ k ≤ 2 ^ 24 := by exact_mod_cast Nat.pow_le_pow_right (by omega) hk24
    rw [show (2 : Int) ^ 24 = 16777216 by decide] at hp2
    have hp1 : (1 : Int) ≤ 2 ^ k := by exact_mod_cast Nat.pow_pos (by omega)
    have esh : shl .i64 1 (k : Int) = 2 ^ k := by
      unfold shl
      rw [Int.toNat_natCast, Nat.min_eq_left (show k ≤ IntKind.i64.bits from by show _ ≤ 64; omega), Int.one_mul, IntKind.wrap_i64]
      omega
    have hmod := mod_some (x := wrap64 (wrap64 (x * 31) + y)) (n := 2 ^ k) (by unfold wrap64; omega) hp1 (by omega)
    have hz0 := Int.emod_nonneg (wrap64 (wrap64 (x * 31) + y)) (show (2 : Int) ^ k ≠ 0 by omega)
    have hz1 := Int.emod_lt_of_pos (wrap64 (wrap64 (x * 31) + y)) (show (0 : Int) < 2 ^ k by omega)
    obtain ⟨v, hv⟩ := Int.eq_ofNat_of_zero_le hz0
    rw [hv] at hmod hz1
    have hv2 : v < 2 ^ k := by exact_mod_cast hz1
    have happ := append_pack (bs := bs) (v := v) (k := k) hk1 hk24 hv2 (by omega)
    have hlen : (bs ++ bitsOf v k).length = bs.length + k := by rw [List.length_append, bitsOf_length]
    obtain ⟨K1, h1⟩ := ref_valid_pack (bs := bs ++ bitsOf v k) (by omega)
    obtain ⟨K2, h2⟩ := ih (ps ++ [(bs.length : Int)]) (ws ++ [(k : Int)]) (vs ++ [(v : Int)]) (bs ++ bitsOf v k) j3 s3 (hw.more hv2 hk1 hk24) (by simp; omega) (by omega)
    refine Ev.succ ⟨K1 + K2, fun n hn => ?_⟩
    simp only at h1 h2 ⊢
    simp only [synopticlaw07_BitsBack.l0]
    have := hw.1; have := hw.2.1
    rw [if_pos (by omega), e1, Option.bind_some, e2, Option.bind_some, e3, Option.bind_some]
    simp only [eu, esh]
    rw [if_pos (by omega), hmod, Option.bind_some, if_pos (by omega), if_pos (by omega), if_pos (by omega), happ, Option.bind_some]
    simp only [if_true]
    rw [if_pos (by rw [hlen]; unfold wrap64; omega), h1 n (by omega), Option.bind_some, if_pos rfl, show wrap64 (((d + 1 : Nat) : Int) - 1) = (d : Int) from by unfold wrap64; omega]
    exact h2 n (by omega)
theorem BitsBack : synopticlaw07_BitsBack.Pure := by
  intro l h1 h2 h3
  obtain ⟨r, hr, hs⟩ := new_src h3
  obtain ⟨v, j, hv, hs2, g1, g2⟩ := range_src hs (show (-1000000 : Int) ≤ 1 by omega) (show (1 : Int) ≤ 40 by omega) (by omega)
  obtain ⟨d, rfl⟩ := Int.eq_ofNat_of_zero_le (show 0 ≤ v by omega)
  obtain ⟨K, hK⟩ := back_loop d [] [] [] [] j hs2 ⟨rfl, rfl, fun t ht => absurd ht (by simp)⟩ (by simp; omega) (by simp; omega)
  refine ⟨K, ?_⟩
  unfold synopticlaw07_BitsBack.f
  rw [hr, Option.bind_some, hv, Option.bind_some]
  exact hK K (Nat.le_refl _)

end Go.Proofs.Yteeamcodapjccaa.Pure
