/- The law CertificateLeast: what the printed function comes to, and its walk. -/
import Derived.Test.YteeamcodapjccaaY2
namespace Go.Proofs.Yteeamcodapjccaa.Cd
open Go.RowKit Go.Proofs.YteeamcodapjccaaW.PrintWords Go.Proofs.YteeamcodapjccaaW.PrintLast Go.Proofs.YteeamcodapjccaaW.PrintMore
open Go.Proofs.Yteeamcodapjccaa.PCertificateLeast Go.Proofs.Yteeamcodapjccaa.Cb Go.Proofs.Yteeamcodapjccaa.Y
set_option linter.unusedVariables false
set_option linter.unusedSimpArgs false

theorem wf_range {x : Int} (h : (Lit.int .i64 x).wf = true) : -9223372036854775808 ≤ x ∧ x ≤ 9223372036854775807 := by
  have h2 : IntKind.i64.min ≤ x ∧ x ≤ 9223372036854775807 := by simpa [Lit.wf] using h
  have h3 : IntKind.i64.min = -9223372036854775808 := rfl
  omega
theorem wf_u64 {x : Int} (h : (Lit.int .u64 x).wf = true) : 0 ≤ x ∧ x < 18446744073709551616 := by
  have h2 : IntKind.u64.min ≤ x ∧ x ≤ IntKind.u64.max := by simpa [Lit.wf] using h
  have h3 : IntKind.u64.min = 0 := rfl
  have h4 : IntKind.u64.max = 18446744073709551615 := rfl
  omega
theorem mod_some {x n : Int} (hx : -9223372036854775808 ≤ x ∧ x ≤ 9223372036854775807) (hn : 1 ≤ n) (hn2 : n ≤ 4611686018427387904) : synopticfield_Mod.f x n = some (x % n) := by
  unfold synopticfield_Mod.f
  rw [if_neg (by omega), if_neg (by omega)]
  have hp : 0 < n := by omega
  have h1 := Int.emod_nonneg x (show n ≠ 0 by omega)
  have h2 := Int.emod_lt_of_pos x hp
  have h3 : Int.tmod x n = if 0 ≤ x ∨ x % n = 0 then x % n else x % n - n := by
    rw [Int.tmod_eq_emod]
    by_cases hc : 0 ≤ x ∨ n ∣ x
    · rw [if_pos hc]
      have : 0 ≤ x ∨ x % n = 0 := hc.imp_right Int.emod_eq_zero_of_dvd
      rw [if_pos this]; omega
    · rw [if_neg hc]
      have : ¬ (0 ≤ x ∨ x % n = 0) := fun h => hc (h.imp_right Int.dvd_of_emod_eq_zero)
      rw [if_neg this]; omega
  by_cases hc : 0 ≤ x ∨ x % n = 0
  · rw [if_pos hc] at h3
    rw [h3, if_neg (by omega)]
  · rw [if_neg hc] at h3
    rw [h3, if_pos (by omega)]
    congr 1
    unfold wrap64
    omega
theorem awake_true : synopticlaw26_awake.f = some true := by
  unfold synopticlaw26_awake.f precision_Wide.f
  rw [Option.bind_some]
  have e1 : (10 : Int) / 9223372036854775808 = 0 := by decide
  have e2 : IntKind.u64.wrap 10 = 10 := by decide
  rw [e1, e2]
  unfold certificate_Radius.f
  rw [if_pos (by omega), Option.bind_some, if_pos rfl]
  have hl : IsLeast (0 * 18446744073709551616 + 10) 3 2 := ⟨by decide, by decide⟩
  rw [leastR_eq (by omega) hl]
  rfl
/-- There is a least one. -/
theorem least_exists {sq a : Int} (h : ∃ R : Nat, sq ≤ ((R : Int) * a) * ((R : Int) * a)) : ∃ R, IsLeast sq a R := by
  obtain ⟨R, hR⟩ := h
  induction R using Nat.strongRecOn with
  | _ R ih =>
    by_cases hc : ∃ q : Nat, q < R ∧ sq ≤ ((q : Int) * a) * ((q : Int) * a)
    · obtain ⟨q, hq, hs⟩ := hc
      exact ih q hq hs
    · refine ⟨R, hR, fun q hq => ?_⟩
      have : ¬ sq ≤ ((q : Int) * a) * ((q : Int) * a) := fun h => hc ⟨q, hq, h⟩
      omega
theorem and44 (x : Int) : 0 ≤ Go.bits .and .i64 x 17592186044415 ∧ Go.bits .and .i64 x 17592186044415 < 17592186044416 := by
  have e1 : (BitVec.ofInt 64 (17592186044415 : Int)).toNat = 17592186044415 := by decide
  have h : Go.bits .and .i64 x 17592186044415 = IntKind.i64.wrap ((BitVec.ofInt 64 x &&& BitVec.ofInt 64 (17592186044415 : Int)).toNat : Int) := rfl
  have h2 : (BitVec.ofInt 64 x &&& BitVec.ofInt 64 (17592186044415 : Int)).toNat < 17592186044416 := by
    rw [BitVec.toNat_and, e1, show (17592186044415 : Nat) = 2 ^ 44 - 1 by decide, Nat.and_two_pow_sub_one_eq_mod]
    exact Nat.mod_lt _ (by decide)
  rw [h, IntKind.wrap_i64]
  omega
theorem least_true (a00 a01 a1 : Int) (h1 : 0 ≤ a01 ∧ a01 < 18446744073709551616) (h2 : -9223372036854775808 ≤ a1 ∧ a1 ≤ 9223372036854775807) : ∃ k, synopticlaw26_CertificateLeast.f k a00 a01 a1 = some true := by
  obtain ⟨hi, hhi⟩ : ∃ hi, hi = Go.bits .and .i64 a00 17592186044415 := ⟨_, rfl⟩
  have hb := and44 a00
  rw [← hhi] at hb
  have hm := mod_some h2 (show (1 : Int) ≤ 1000 by omega) (by omega)
  have m0 := Int.emod_nonneg a1 (show (1000 : Int) ≠ 0 by omega)
  have m1 := Int.emod_lt_of_pos a1 (show (0 : Int) < 1000 by omega)
  obtain ⟨k, hk⟩ : ∃ k, k = 1 + a1 % 1000 := ⟨_, rfl⟩
  have hwk : wrap64 (1 + a1 % 1000) = k := by rw [hk]; unfold wrap64; omega
  obtain ⟨sq, hsq⟩ : ∃ sq, sq = hi * 18446744073709551616 + a01 := ⟨_, rfl⟩
  have hsq0 : 0 ≤ sq := by omega
  have hsq1 : sq < 324518553658426726783156020576256 := by omega
  -- the square of 2^54 is enough
  have h54 : sq ≤ ((18014398509481984 : Nat) * k) * ((18014398509481984 : Nat) * k) := by
    have h := sq_mono (show (0 : Int) ≤ 18014398509481984 by omega) (show (18014398509481984 : Int) ≤ ((18014398509481984 : Nat) : Int) * k by omega)
    omega
  obtain ⟨R, hR⟩ := least_exists ⟨18014398509481984, h54⟩
  have hR54 : R ≤ 18014398509481984 := by
    rcases Nat.lt_or_ge 18014398509481984 R with h | h
    · have := hR.2 _ h; omega
    · exact h
  have hrad : certificate_Radius.f hi a01 k = some ((R : Int), 0) := by
    unfold certificate_Radius.f
    rw [if_pos (by omega), ← hsq, leastR_eq (by omega) hR]
  -- the one below
  have hRk : (R : Int) * k ≤ 18014398509482984 := by
    rcases Nat.eq_zero_or_pos R with h0 | h0
    · subst h0; omega
    · have h := hR.2 (R - 1) (by omega)
      have hle : ((R - 1 : Nat) : Int) * k ≤ 18014398509481984 := by
        rcases Int.lt_or_le 18014398509481984 (((R - 1 : Nat) : Int) * k) with hgt | hle
        · have := sq_mono (show (0 : Int) ≤ 18014398509481984 by omega) (Int.le_of_lt hgt)
          omega
        · exact hle
      have he : (R : Int) * k = ((R - 1 : Nat) : Int) * k + k := by
        rw [show (R : Int) = ((R - 1 : Nat) : Int) + 1 by omega, Int.add_mul, Int.one_mul]
      omega
  have hRk0 : 0 ≤ (R : Int) * k := Int.mul_nonneg (by omega) (by omega)
  refine ⟨4, ?_⟩
  unfold synopticlaw26_CertificateLeast.f
  rw [awake_true, Option.bind_some, if_pos rfl, hm, Option.bind_some, ← hhi, hwk, hrad, Option.bind_some]
  simp only [if_true]
  rw [if_neg (by omega), show decide ((R : Int) > 18014398509481984) = false from decide_eq_false (by omega)]
  have hsq2 : ((R : Int) * k) * ((R : Int) * k) = (R : Int) * k * ((R : Int) * k) := rfl
  simp only [synopticlaw26_CertificateLeast.j0]
  rw [if_neg (by simp), show wrap64 ((R : Int) * k) = (R : Int) * k from by unfold wrap64; omega, product_sq hRk0 (by omega), Option.bind_some]
  have hp0 : 0 ≤ (R : Int) * k * ((R : Int) * k) := Int.mul_nonneg hRk0 hRk0
  rw [compare_eq _ _ _ _ 3 (by omega), Option.bind_some]
  have hge := cmp_sq (p := (R : Int) * k * ((R : Int) * k)) (a00 := hi) (a01 := a01) hp0 h1.1 h1.2
  rw [← hsq, decide_eq_true hR.1] at hge
  rw [if_pos (of_decide_eq_true hge)]
  by_cases h0 : (R : Int) = 0
  · rw [if_pos h0]
  · rw [if_neg h0]
    have hle : 0 ≤ ((R - 1 : Nat) : Int) * k := Int.mul_nonneg (by omega) (by omega)
    have he : ((R : Int) - 1) = ((R - 1 : Nat) : Int) := by omega
    have hle2 : ((R - 1 : Nat) : Int) * k ≤ (R : Int) * k := Int.mul_le_mul_of_nonneg_right (by omega) (by omega)
    rw [show wrap64 ((R : Int) - 1) = ((R - 1 : Nat) : Int) from by unfold wrap64; omega, show wrap64 (((R - 1 : Nat) : Int) * k) = ((R - 1 : Nat) : Int) * k from by unfold wrap64; omega, product_sq hle (by omega), Option.bind_some, compare_eq _ _ _ _ 3 (by omega), Option.bind_some]
    have hlt := cmp_sq (p := ((R - 1 : Nat) : Int) * k * (((R - 1 : Nat) : Int) * k)) (a00 := hi) (a01 := a01) (Int.mul_nonneg hle hle) h1.1 h1.2
    have hno := hR.2 (R - 1) (by omega)
    have hd2 : decide (sq ≤ ((R - 1 : Nat) : Int) * k * (((R - 1 : Nat) : Int) * k)) = false := decide_eq_false (by omega)
    rw [← hsq, hd2] at hlt
    have := of_decide_eq_false hlt
    congr 1
    refine decide_eq_true ?_
    simp only
    omega
theorem walk (a00 a01 a1 : Int) (w : World) (w00 : (Lit.int .i64 a00).wf = true) (w01 : (Lit.int .u64 a01).wf = true) (w1 : (Lit.int .i64 a1).wf = true) :
    Calls Try.prog 7 #[.agg #[.int .i64 a00, .int .u64 a01], .int .i64 a1] w fun e w' => e = .returned (.bool true) ∧ Below w.heap.size w w' := by
  obtain ⟨k, hk⟩ := least_true a00 a01 a1 (wf_u64 w01) (wf_range w1)
  exact synopticlaw26_CertificateLeast.calls k a00 a01 a1 true w hk
end Go.Proofs.Yteeamcodapjccaa.Cd
