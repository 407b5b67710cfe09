/- Pure facts: the sources of choices, the reference of the layer bits, and its check of examples. -/
import Derived.Test.YteeamcodapjccaaX1
namespace Go.Proofs.Yteeamcodapjccaa.Bh
open Go.RowKit Go.Proofs.YteeamcodapjccaaW.PrintWords Go.Proofs.YteeamcodapjccaaW.PrintLast Go.Proofs.YteeamcodapjccaaW.PrintMore
open Go.Proofs.Yteeamcodapjccaa.PBitsAnswers Go.Proofs.Yteeamcodapjccaa.Bb Go.Proofs.Yteeamcodapjccaa.Be Go.Proofs.Yteeamcodapjccaa.Bf Go.Proofs.Yteeamcodapjccaa.X
set_option linter.unusedVariables false
set_option linter.unusedSimpArgs false

/-- A source of choices that can be read on. -/
def Src (l : List Int) (i : Int) : Prop := l.length ≤ 2000 ∧ (∀ x ∈ l, -9223372036854775808 ≤ x ∧ x ≤ 9223372036854775807) ∧ 0 ≤ i ∧ i ≤ l.length
theorem wf_range {x : Int} (h : (Lit.int .i64 x).wf = true) : -9223372036854775808 ≤ x ∧ x ≤ 9223372036854775807 := by
  have h2 : IntKind.i64.min ≤ x ∧ x ≤ 9223372036854775807 := by simpa [Lit.wf] using h
  have h3 : IntKind.i64.min = -9223372036854775808 := rfl
  omega
theorem new_src {l : List Int} (hwf : ∀ x ∈ l, (Lit.int .i64 x).wf = true) : ∃ r, synoptickeep_New.f l = some (r, 0) ∧ Src r 0 := by
  refine ⟨l.take 2000, ?_, ?_⟩
  · unfold synoptickeep_New.f mn
    by_cases h : 2000 < (l.length : Int)
    · rw [if_pos h, if_pos (by omega), if_pos (by omega)]; rfl
    · rw [if_neg h, if_pos (by omega), if_pos (by omega), Int.toNat_natCast, List.take_of_length_le (by omega), List.take_of_length_le (by omega)]
  · refine ⟨by rw [List.length_take]; omega, fun x hx => wf_range (hwf x (List.mem_of_mem_take hx)), by omega, by omega⟩
theorem raw_src {l : List Int} {i : Int} (h : Src l i) : ∃ v j, synoptickeep_Src_Raw.f l i = some (v, j) ∧ Src l j ∧ -9223372036854775808 ≤ v ∧ v ≤ 9223372036854775807 := by
  obtain ⟨h1, h2, h3, h4⟩ := h
  unfold synoptickeep_Src_Raw.f
  by_cases hi : i ≥ (l.length : Int)
  · rw [if_pos hi]
    exact ⟨0, i, rfl, ⟨h1, h2, h3, h4⟩, by omega, by omega⟩
  · rw [if_neg hi]
    have e : wrap64 (i + 1) = i + 1 := by unfold wrap64; omega
    have e2 : wrap64 (i + 1 - 1) = i := by unfold wrap64; omega
    rw [e, e2, if_pos h3, if_pos (by omega)]
    have hm : rd l i ∈ l := by
      unfold rd
      rw [List.getD_eq_getElem?_getD, List.getElem?_eq_getElem (show i.toNat < l.length by omega)]
      exact List.getElem_mem _
    exact ⟨_, _, rfl, ⟨h1, h2, by omega, by omega⟩, (h2 _ hm).1, (h2 _ hm).2⟩
theorem mod_some {x n : Int} (hx : -9223372036854775808 ≤ x ∧ x ≤ 9223372036854775807) (hn : 1 ≤ n) (hn2 : n ≤ 4611686018427387904) : synoptickeep_Mod.f x n = some (x % n) := by
  unfold synoptickeep_Mod.f
  rw [if_neg (by omega), if_neg (by omega)]
  have hp : 0 < n := by omega
  have h1 := Int.emod_nonneg x (show n ≠ 0 by omega)
  have h2 := Int.emod_lt_of_pos x hp
  have h3 : Int.tmod x n = if 0 ≤ x ∨ x % n = 0 then x % n else x % n - n := by
    rw [Int.tmod_eq_emod]
    by_cases hc : 0 ≤ x ∨ n ∣ x
    · rw [if_pos hc]
      have : 0 ≤ x ∨ x % n = 0 := hc.imp_right Int.emod_eq_zero_of_dvd
      rw [if_pos this]; omega
    · rw [if_neg hc]
      have : ¬ (0 ≤ x ∨ x % n = 0) := fun h => hc (h.imp_right Int.dvd_of_emod_eq_zero)
      rw [if_neg this]; omega
  by_cases hc : 0 ≤ x ∨ x % n = 0
  · rw [if_pos hc] at h3
    rw [h3, if_neg (by omega)]
  · rw [if_neg hc] at h3
    rw [h3, if_pos (by omega)]
    congr 1
    unfold wrap64
    omega
theorem n_src {l : List Int} {i n : Int} (h : Src l i) (hn : 1 ≤ n) (hn2 : n ≤ 4611686018427387904) : ∃ v j, synoptickeep_Src_N.f l i n = some (v, j) ∧ Src l j ∧ 0 ≤ v ∧ v < n := by
  obtain ⟨v, j, e, hs, h1, h2⟩ := raw_src h
  refine ⟨v % n, j, ?_, hs, Int.emod_nonneg v (by omega), Int.emod_lt_of_pos v (by omega)⟩
  unfold synoptickeep_Src_N.f
  rw [e, Option.bind_some, mod_some ⟨h1, h2⟩ hn hn2]
  rfl
theorem range_src {l : List Int} {i a b : Int} (h : Src l i) (ha : -1000000 ≤ a) (hab : a ≤ b) (hb : b ≤ 1000000) : ∃ v j, synoptickeep_Src_Range.f l i a b = some (v, j) ∧ Src l j ∧ a ≤ v ∧ v ≤ b := by
  have e : wrap64 (wrap64 (b - a) + 1) = b - a + 1 := by unfold wrap64; omega
  obtain ⟨v, j, hv, hs, h1, h2⟩ := n_src h (show 1 ≤ b - a + 1 by omega) (by omega)
  refine ⟨a + v, j, ?_, hs, by omega, by omega⟩
  unfold synoptickeep_Src_Range.f
  rw [e, hv, Option.bind_some]
  rw [show wrap64 (a + v) = a + v by unfold wrap64; omega]

/-! ### The reference -/
theorem at_pack {bs : List Bool} {n : Int} {i : Nat} (h : i < 8 * ((bs.length + 7) / 8)) (hb : bs.length ≤ 40000) : synopticref07_At.f (pack bs) n (i : Int) = some ((bn bs i : Nat) : Int) := by
  unfold synopticref07_At.f
  have e1 : wrap64 (Int.tdiv (i : Int) 8) = ((i / 8 : Nat) : Int) := by
    rw [Int.tdiv_eq_ediv_of_nonneg (by omega)]; unfold wrap64; omega
  have e2 : IntKind.u64.wrap (wrap64 (7 - Int.tmod (i : Int) 8)) = ((7 - i % 8 : Nat) : Int) := by
    rw [Int.tmod_eq_emod_of_nonneg (by omega), IntKind.wrap_u64]; unfold wrap64; omega
  rw [e1, e2, if_pos (by omega), if_pos (by rw [pack_length]; omega), if_pos (by omega), rd_pack (by omega)]
  congr 1
  unfold shr
  rw [Int.toNat_natCast, Nat.min_eq_left (show 7 - i % 8 ≤ IntKind.u8.bits from by show _ ≤ 8; omega)]
  have h3 : (((byteAt bs (i / 8) : Nat) : Int)) / 2 ^ (7 - i % 8) = ((byteAt bs (i / 8) / 2 ^ (7 - i % 8) : Nat) : Int) := by norm_cast
  have h4 : byteAt bs (i / 8) / 2 ^ (7 - i % 8) < 256 := Nat.lt_of_le_of_lt (Nat.div_le_self _ _) (byteAt_lt _ _)
  rw [h3, ← byte_bit]
  generalize byteAt bs (i / 8) / 2 ^ (7 - i % 8) = z at *
  rw [show wrap64 ((z : Nat) : Int) = ((z : Nat) : Int) from by unfold wrap64; omega, Bc.and_one _ (by omega)]
theorem same_refl (l : List Int) (n : Int) : synopticref07_Same.f l n l n = some true := by
  unfold synopticref07_Same.f
  rw [if_pos rfl]
  simp
theorem append_pack {bs : List Bool} {v k : Nat} (hk : 1 ≤ k) (hk2 : k ≤ 24) (hv : v < 2 ^ k) (hl : bs.length + k ≤ 40000) : bits_Append.f (pack bs) (bs.length : Int) (v : Int) (k : Int) = some (pack (bs ++ bitsOf v k), (((bs ++ bitsOf v k).length : Nat) : Int), 0) := by
  unfold bits_Append.f
  rw [if_pos (okLb_pack bs), if_pos (valid_pack (by omega)), if_pos ⟨by omega, by omega, by omega, by rw [Int.toNat_natCast]; exact_mod_cast hv⟩, if_neg (by omega), Int.toNat_natCast, Int.toNat_natCast, Int.toNat_natCast, unpack_pack, List.length_append, bitsOf_length]
  simp
theorem pad_pack {bs : List Bool} (h : bs.length ≤ 40000) : bits_Pad.f (pack bs) (bs.length : Int) = some (pack bs, (((bs.length + 7) / 8 * 8 : Nat) : Int), 0) := by
  unfold bits_Pad.f
  rw [if_pos (okLb_pack bs), if_pos (valid_pack h), Int.toNat_natCast]
  simp
theorem join_pack {bs cs : List Bool} (h : bs.length + cs.length ≤ 40000) : bits_Join.f (pack bs) (bs.length : Int) (pack cs) (cs.length : Int) = some (pack (bs ++ cs), (((bs ++ cs).length : Nat) : Int), 0) := by
  unfold bits_Join.f
  rw [if_pos ⟨okLb_pack bs, okLb_pack cs⟩, if_pos ⟨valid_pack (by omega), valid_pack (by omega)⟩, if_neg (by omega), Int.toNat_natCast, Int.toNat_natCast, unpack_pack, unpack_pack, List.length_append]
  simp
theorem awake_true : synopticlaw07_awake.f = some true := by
  unfold synopticlaw07_awake.f
  have h1 := append_pack (bs := []) (v := 5) (k := 3) (by omega) (by omega) (by omega) (by simp)
  have h2 := append_pack (bs := bitsOf 5 3) (v := 1) (k := 6) (by omega) (by omega) (by omega) (by simp [bitsOf_length])
  rw [show bits_Append.f ([] : List Int) 0 5 3 = _ from h1, Option.bind_some]
  simp only [List.nil_append]
  rw [show bits_Append.f (pack (bitsOf 5 3)) (((bitsOf 5 3).length : Nat) : Int) 1 6 = _ from h2, Option.bind_some]
  rw [if_pos rfl]
  simp only [if_true]
  rw [show pack (bitsOf 5 3) = [160] by decide, show (((bitsOf 5 3).length : Nat) : Int) = 3 by decide, same_refl, Option.bind_some, if_pos rfl]
  rw [show pack (bitsOf 5 3 ++ bitsOf 1 6) = [160, 128] by decide, show (((bitsOf 5 3 ++ bitsOf 1 6).length : Nat) : Int) = 9 by decide, same_refl]
  rfl
end Go.Proofs.Yteeamcodapjccaa.Bh
