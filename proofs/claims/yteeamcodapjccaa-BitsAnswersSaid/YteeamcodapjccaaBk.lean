/- The law BitsLimit: its walk for every pair of numbers. -/
import Derived.Test.YteeamcodapjccaaBj
namespace Go.Proofs.Yteeamcodapjccaa.Bk
open Go.RowKit Go.Proofs.YteeamcodapjccaaW.PrintWords Go.Proofs.YteeamcodapjccaaW.PrintLast Go.Proofs.YteeamcodapjccaaW.PrintMore
open Go.Proofs.Yteeamcodapjccaa.PBitsAnswers Go.Proofs.Yteeamcodapjccaa.Bb Go.Proofs.Yteeamcodapjccaa.Be Go.Proofs.Yteeamcodapjccaa.Bf Go.Proofs.Yteeamcodapjccaa.X Go.Proofs.Yteeamcodapjccaa.Bh Go.Proofs.Yteeamcodapjccaa.Bi Go.Proofs.Yteeamcodapjccaa.Bj
set_option linter.unusedVariables false
set_option linter.unusedSimpArgs false

theorem one_bit : ∃ K, synopticref07_Append.f K [] 0 0 1 = some (pack [false], 1, 0) := by
  obtain ⟨K1, h1⟩ := ref_valid_pack (bs := []) (by simp)
  obtain ⟨K2, h2⟩ := of_ev (l := [0]) (by simp)
  refine ⟨K1 + K2 + 10, ?_⟩
  simp only at h1 h2
  have hv : synopticref07_Valid.f (K1 + K2 + 10) [] 0 = some true := h1 _ (by omega)
  unfold synopticref07_Append.f
  rw [hv, Option.bind_some, if_pos rfl]
  have hw : synopticref07_width.f 1 = some true := by decide
  rw [hw, Option.bind_some, if_pos rfl, if_neg (by omega)]
  have eu : IntKind.u64.wrap 1 = 1 := by decide
  rw [eu, if_pos (by omega)]
  rw [show decide ((0 : Int) ≥ shl .i64 1 1) = false by decide]
  show synopticref07_Append.j0 (K1 + K2 + 9 + 1) 0 1 false [] 0 = _
  simp only [synopticref07_Append.j0]
  rw [if_neg (by simp), if_neg (by unfold wrap64; omega)]
  have ha : synopticref07_All.f (K1 + K2 + 9) [] 0 = some [] := by
    unfold synopticref07_All.f
    show synopticref07_All.l0 (K1 + K2 + 8 + 1) [] 0 [] 0 = _
    simp only [synopticref07_All.l0]
    rw [if_neg (by omega)]
  rw [ha, Option.bind_some, show wrap64 (1 - 1) = 0 from by unfold wrap64; omega]
  show synopticref07_Append.l0 (K1 + K2 + 8 + 1) 0 [] 0 = _
  simp only [synopticref07_Append.l0]
  have eu0 : IntKind.u64.wrap 0 = 0 := by decide
  rw [if_pos (by omega), eu0, if_pos (by omega), if_pos (by simp), show Go.bits .and .i64 (shr .i64 0 0) 1 = 0 by decide, show wrap64 (0 - 1) = -1 from by unfold wrap64; omega]
  show synopticref07_Append.l0 (K1 + K2 + 7 + 1) 0 [0] (-1) = _
  simp only [synopticref07_Append.l0]
  rw [if_neg (by omega), h2 _ (by omega)]
  rfl
theorem walk (a0 a1 : Int) (w : World) (w0 : (Lit.int .i64 a0).wf = true) (w1 : (Lit.int .i64 a1).wf = true) :
    Calls Try.prog 6 #[.int .i64 a0, .int .i64 a1] w fun e w' => e = .returned (.bool true) ∧ Below w.heap.size w w' := by
  have r0 := wf_range w0
  have r1 := wf_range w1
  have hm := mod_some r1 (show (1 : Int) ≤ 24 by omega) (by omega)
  have g0 := Int.emod_nonneg a1 (show (24 : Int) ≠ 0 by omega)
  have g1 := Int.emod_lt_of_pos a1 (show (0 : Int) < 24 by omega)
  obtain ⟨k, hk⟩ := Int.eq_ofNat_of_zero_le (show 0 ≤ a1 % 24 + 1 by omega)
  have hk1 : 1 ≤ k := by omega
  have hk2 : k ≤ 24 := by omega
  have hp2 : (2 : Int) ^ k ≤ 2 ^ 24 := by exact_mod_cast Nat.pow_le_pow_right (by omega) hk2
  rw [show (2 : Int) ^ 24 = 16777216 by decide] at hp2
  have hp1 : (1 : Int) ≤ 2 ^ k := by exact_mod_cast Nat.pow_pos (by omega)
  have hm2 := mod_some r0 hp1 (by omega)
  obtain ⟨v, hv⟩ := Int.eq_ofNat_of_zero_le (Int.emod_nonneg a0 (show (2 : Int) ^ k ≠ 0 by omega))
  have hv1 := Int.emod_lt_of_pos a0 (show (0 : Int) < 2 ^ k by omega)
  rw [hv] at hm2 hv1
  have hvk : v < 2 ^ k := by exact_mod_cast hv1
  obtain ⟨cs, hcs⟩ : ∃ cs, cs = List.replicate (40000 - k) false ++ bitsOf v k := ⟨_, rfl⟩
  have hcl : cs.length = 40000 := by rw [hcs, List.length_append, List.length_replicate, bitsOf_length]; omega
  obtain ⟨K1, h1⟩ := read_pack (bs := cs) (by omega) (at_ := 40000 - k) (w := k) hk1 hk2 (by omega)
  have hback := readV_back (ps := List.replicate (40000 - k) false) (cs := []) hvk
  rw [List.append_nil, ← hcs, List.length_replicate] at hback
  obtain ⟨K2, h2⟩ := one_bit
  have h1 := h1 K1 (Nat.le_refl _)
  simp only at h1
  rw [hback, hcl, show (((40000 - k : Nat)) : Int) = 40000 - (k : Int) by omega] at h1
  exact limit_walk a0 a1 k v w hk1 hk2 (by rw [hm]; congr 1; omega) hm2 hvk _ _ cs rfl rfl hcs _ rfl K1 K2 h1 h2
end Go.Proofs.Yteeamcodapjccaa.Bk
