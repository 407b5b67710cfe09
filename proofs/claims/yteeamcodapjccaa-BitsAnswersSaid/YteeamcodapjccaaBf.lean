/- Pure facts: what the printed functions of the layer bits come to on lists of bits. -/
import Derived.Test.YteeamcodapjccaaBe
namespace Go.Proofs.Yteeamcodapjccaa.Bf
open Go.RowKit Go.Proofs.YteeamcodapjccaaW.PrintWords Go.Proofs.YteeamcodapjccaaW.PrintLast Go.Proofs.YteeamcodapjccaaW.PrintMore
open Go.Proofs.Yteeamcodapjccaa.PBitsAnswers Go.Proofs.Yteeamcodapjccaa.Bb Go.Proofs.Yteeamcodapjccaa.Be
set_option linter.unusedVariables false
set_option linter.unusedSimpArgs false

/-- All elements are bytes. -/
def okL (l : List Int) : Prop := ∀ x ∈ l, 0 ≤ x ∧ x < 256
def bitAt (l : List Int) (i : Nat) : Bool := decide (rd l ((i / 8 : Nat) : Int) / 2 ^ (7 - i % 8) % 2 = 1)
def unpack (l : List Int) (n : Nat) : List Bool := (List.range n).map (bitAt l)
theorem unpack_length (l : List Int) (n : Nat) : (unpack l n).length = n := by simp [unpack]
theorem okL_pack (bs : List Bool) : okL (pack bs) := by
  intro x hx
  unfold pack at hx
  obtain ⟨i, _, rfl⟩ := List.mem_map.1 hx
  have := byteAt_lt bs i
  omega
theorem byte_bit {bs : List Bool} {i : Nat} : byteAt bs (i / 8) / 2 ^ (7 - i % 8) % 2 = bn bs i := by
  obtain ⟨q, r, hq, hr⟩ : ∃ q r, i = 8 * q + r ∧ r < 8 := ⟨i / 8, i % 8, by omega, by omega⟩
  have hq' : i / 8 = q := by omega
  have hr' : i % 8 = r := by omega
  rw [hq', hr', hq]
  unfold byteAt
  have h0 := bn_le bs (8 * q + 0); have h1 := bn_le bs (8 * q + 1); have h2 := bn_le bs (8 * q + 2); have h3 := bn_le bs (8 * q + 3)
  have h4 := bn_le bs (8 * q + 4); have h5 := bn_le bs (8 * q + 5); have h6 := bn_le bs (8 * q + 6); have h7 := bn_le bs (8 * q + 7)
  clear hq hq' hr'
  generalize bn bs = f at *
  obtain h | h | h | h | h | h | h | h : r = 0 ∨ r = 1 ∨ r = 2 ∨ r = 3 ∨ r = 4 ∨ r = 5 ∨ r = 6 ∨ r = 7 := by omega
  all_goals (subst h; simp only [Nat.reduceSub, Nat.reducePow]; omega)
theorem rd_byte {bs : List Bool} {i : Nat} (h : i < bs.length) : rd (pack bs) ((i / 8 : Nat) : Int) = ((byteAt bs (i / 8) : Nat) : Int) := rd_pack (by omega)
theorem bitAt_pack {bs : List Bool} {i : Nat} (h : i < bs.length) : bitAt (pack bs) i = bs[i] := by
  unfold bitAt
  rw [rd_byte h]
  have h1 : (((byteAt bs (i / 8) : Nat) : Int)) / 2 ^ (7 - i % 8) % 2 = ((bn bs i : Nat) : Int) := by
    rw [← byte_bit]; norm_cast
  rw [h1]
  unfold bn
  rw [List.getD_eq_getElem?_getD, List.getElem?_eq_getElem h]
  cases bs[i] <;> rfl
theorem unpack_pack (bs : List Bool) : unpack (pack bs) bs.length = bs := by
  refine List.ext_getElem (by simp [unpack]) (fun i h1 h2 => ?_)
  simp only [unpack, List.getElem_map, List.getElem_range]
  exact bitAt_pack h2
theorem bit_pack {bs : List Bool} {i : Nat} (h : i < bs.length) (hb : bs.length ≤ 40000) : bits_bit.f (pack bs) (bs.length : Int) (i : Int) = some ((bn bs i : Nat) : Int) := by
  unfold bits_bit.f
  have e1 : wrap64 (Int.tdiv (i : Int) 8) = ((i / 8 : Nat) : Int) := by
    rw [Int.tdiv_eq_ediv_of_nonneg (by omega)]; unfold wrap64; omega
  have e2 : wrap64 (7 - Int.tmod (i : Int) 8) = ((7 - i % 8 : Nat) : Int) := by
    rw [Int.tmod_eq_emod_of_nonneg (by omega)]; unfold wrap64; omega
  rw [e1, e2, if_pos (by omega), if_pos (by rw [pack_length]; omega), if_pos (by omega), rd_byte h]
  congr 1
  unfold shr
  rw [Int.toNat_natCast, Nat.min_eq_left (show 7 - i % 8 ≤ IntKind.u8.bits from by show _ ≤ 8; omega)]
  have h3 : (((byteAt bs (i / 8) : Nat) : Int)) / 2 ^ (7 - i % 8) = ((byteAt bs (i / 8) / 2 ^ (7 - i % 8) : Nat) : Int) := by norm_cast
  have h4 : byteAt bs (i / 8) / 2 ^ (7 - i % 8) < 256 := Nat.lt_of_le_of_lt (Nat.div_le_self _ _) (byteAt_lt _ _)
  rw [h3, ← byte_bit]
  generalize byteAt bs (i / 8) / 2 ^ (7 - i % 8) = z at *
  rw [show wrap64 ((z : Nat) : Int) = ((z : Nat) : Int) from by unfold wrap64; omega, Bc.and_one _ (by omega)]
theorem and_fin : ∀ x : Fin 256, ∀ s : Fin 8, Go.bits .and .u8 (x.val : Int) (((shl .u8 1 (s.val : Int)) - 1) % 256) = ((x.val % 2 ^ s.val : Nat) : Int) := by decide +kernel
theorem valid_eq {l : List Int} (hl : okL l) (n : Int) : bits_Valid.f l n = some (decide (0 ≤ n ∧ n ≤ 40000 ∧ (l.length : Int) = (n + 7) / 8 ∧ (n % 8 = 0 ∨ rd l (n / 8) % 2 ^ (8 - n % 8).toNat = 0))) := by
  unfold bits_Valid.f
  by_cases h0 : n < 0
  · rw [if_pos h0]; simp; omega
  rw [if_neg h0]
  by_cases h1 : n > 40000
  · rw [if_pos h1]; simp; omega
  rw [if_neg h1]
  obtain ⟨m, rfl⟩ := Int.eq_ofNat_of_zero_le (show 0 ≤ n by omega)
  rw [size_nat (by omega), Option.bind_some]
  by_cases h2 : (l.length : Int) = (((m + 7) / 8 : Nat) : Int)
  · rw [if_pos h2]
    have e1 : wrap64 (wrap64 (8 * (l.length : Int)) - (m : Int)) = ((8 * l.length - m : Nat) : Int) := by unfold wrap64; omega
    rw [e1]
    by_cases h3 : m % 8 = 0
    · rw [if_pos (by omega)]
      congr 1
      symm
      rw [decide_eq_true_iff]
      refine ⟨by omega, by omega, by omega, .inl (by omega)⟩
    · rw [if_neg (by omega)]
      have e2 : wrap64 ((l.length : Int) - 1) = ((m / 8 : Nat) : Int) := by unfold wrap64; omega
      rw [e2, if_pos (by omega), if_pos (by omega), if_pos (by omega)]
      have hx : 0 ≤ rd l ((m / 8 : Nat) : Int) ∧ rd l ((m / 8 : Nat) : Int) < 256 := by
        unfold rd
        rw [Int.toNat_natCast, List.getD_eq_getElem?_getD, List.getElem?_eq_getElem (show m / 8 < l.length by omega)]
        exact hl _ (List.getElem_mem _)
      have hd : ((m : Int) / 8) = ((m / 8 : Nat) : Int) := by omega
      rw [hd]
      obtain ⟨x, hxx⟩ := Int.eq_ofNat_of_zero_le hx.1
      rw [hxx] at hx ⊢
      have hs : 8 * l.length - m = 8 - m % 8 := by omega
      have hf := and_fin ⟨x, by omega⟩ ⟨8 - m % 8, by omega⟩
      simp only at hf
      rw [hs, hf]
      have ht : (8 - (m : Int) % 8).toNat = 8 - m % 8 := by omega
      rw [ht]
      have hc : (x : Int) % 2 ^ (8 - m % 8) = ((x % 2 ^ (8 - m % 8) : Nat) : Int) := by norm_cast
      rw [hc]
      generalize x % 2 ^ (8 - m % 8) = y
      congr 1
      rw [Bool.eq_iff_iff, beq_iff_eq, decide_eq_true_iff]
      constructor
      · intro h; exact ⟨by omega, by omega, by omega, .inr h⟩
      · rintro ⟨_, _, _, h | h⟩
        · omega
        · exact h
  · rw [if_neg h2]; simp; omega
theorem valid_pack {bs : List Bool} (h : bs.length ≤ 40000) : bits_Valid.f (pack bs) (bs.length : Int) = some true := by
  rw [valid_eq (okL_pack bs)]
  congr 1
  rw [decide_eq_true_iff]
  refine ⟨by omega, by omega, by rw [pack_length]; omega, ?_⟩
  by_cases h8 : bs.length % 8 = 0
  · exact .inl (by omega)
  · refine .inr ?_
    have hd : ((bs.length : Int) / 8) = ((bs.length / 8 : Nat) : Int) := by omega
    rw [hd, rd_pack (by omega)]
    have ht : (8 - (bs.length : Int) % 8).toNat = 8 - bs.length % 8 := by omega
    rw [ht]
    have := byteAt_low bs
    have hc : (((byteAt bs (bs.length / 8) : Nat) : Int)) % 2 ^ (8 - bs.length % 8) = ((byteAt bs (bs.length / 8) % 2 ^ (8 - bs.length % 8) : Nat) : Int) := by norm_cast
    rw [hc, this]
    rfl
theorem sum_bits (x : Nat) (hx : x < 256) : 128 * (x / 2 ^ 7 % 2) + 64 * (x / 2 ^ 6 % 2) + 32 * (x / 2 ^ 5 % 2) + 16 * (x / 2 ^ 4 % 2) + 8 * (x / 2 ^ 3 % 2) + 4 * (x / 2 ^ 2 % 2) + 2 * (x / 2 ^ 1 % 2) + x / 2 ^ 0 % 2 = x := by omega
theorem low_fin : ∀ x : Fin 256, ∀ r : Fin 8, ∀ j : Fin 8, r.val ≤ j.val → x.val % 2 ^ (8 - r.val) = 0 → x.val / 2 ^ (7 - j.val) % 2 = 0 := by decide +kernel
theorem bn_unpack {l : List Int} {m x q j : Nat} (hx : rd l (q : Int) = (x : Int)) (hx8 : x < 256) (hj : j < 8) (hlow : m ≤ 8 * q + j → 8 * q ≤ m → x % 2 ^ (8 - (m - 8 * q)) = 0) (hq : 8 * q < m) : bn (unpack l m) (8 * q + j) = x / 2 ^ (7 - j) % 2 := by
  unfold bn
  rw [List.getD_eq_getElem?_getD]
  rcases Nat.lt_or_ge (8 * q + j) m with h | h
  · have hb : (unpack l m)[8 * q + j]? = some (bitAt l (8 * q + j)) := by
      unfold unpack; rw [List.getElem?_map, List.getElem?_range h]; rfl
    rw [hb]
    simp only [Option.getD_some]
    unfold bitAt
    rw [show (8 * q + j) / 8 = q by omega, show (8 * q + j) % 8 = j by omega, hx]
    have hc : (x : Int) / 2 ^ (7 - j) % 2 = ((x / 2 ^ (7 - j) % 2 : Nat) : Int) := by norm_cast
    rw [hc]
    have := Nat.mod_lt (x / 2 ^ (7 - j)) (show 0 < 2 by omega)
    generalize x / 2 ^ (7 - j) % 2 = y at *
    by_cases hy : y = 1
    · subst hy; rfl
    · obtain rfl : y = 0 := by omega
      rfl
  · rw [List.getElem?_eq_none (by rw [unpack_length]; omega)]
    have h1 := hlow h (by omega)
    have h2 := low_fin ⟨x, hx8⟩ ⟨m - 8 * q, by omega⟩ ⟨j, hj⟩ (by simp only; omega) h1
    simp only at h2
    rw [h2]
    rfl
theorem valid_unpack {l : List Int} (hl : okL l) {n : Int} (h : bits_Valid.f l n = some true) : 0 ≤ n ∧ n ≤ 40000 ∧ l = pack (unpack l n.toNat) ∧ ((unpack l n.toNat).length : Int) = n := by
  rw [valid_eq hl] at h
  have h := of_decide_eq_true (Option.some.inj h)
  obtain ⟨h0, h1, h2, h3⟩ := h
  refine ⟨h0, h1, ?_, by rw [unpack_length]; omega⟩
  obtain ⟨m, rfl⟩ := Int.eq_ofNat_of_zero_le h0
  rw [Int.toNat_natCast]
  have hlen : l.length = (m + 7) / 8 := by omega
  refine List.ext_getElem (by rw [pack_length, unpack_length]; exact hlen) (fun q hq hq2 => ?_)
  have hp := pack_get (bs := unpack l m) (i := q) (by rw [unpack_length]; omega)
  rw [List.getElem?_eq_getElem hq2] at hp
  rw [Option.some.inj hp]
  have hxr := hl _ (List.getElem_mem hq)
  obtain ⟨x, hx⟩ := Int.eq_ofNat_of_zero_le hxr.1
  have hx8 : x < 256 := by omega
  have hrd : rd l (q : Int) = (x : Int) := by
    unfold rd; rw [Int.toNat_natCast, List.getD_eq_getElem?_getD, List.getElem?_eq_getElem hq]; exact hx
  have hq8 : 8 * q < m := by omega
  have hlow : ∀ j, m ≤ 8 * q + j → j < 8 → x % 2 ^ (8 - (m - 8 * q)) = 0 := by
    intro j hj hj8
    have hqd : (m : Int) / 8 = (q : Int) := by omega
    rcases h3 with h3 | h3
    · omega
    · rw [hqd, hrd, show (8 - (m : Int) % 8).toNat = 8 - (m - 8 * q) by omega] at h3
      have hc : (x : Int) % 2 ^ (8 - (m - 8 * q)) = ((x % 2 ^ (8 - (m - 8 * q)) : Nat) : Int) := by norm_cast
      rw [hc] at h3
      exact_mod_cast h3
  have e := fun j (hj : j < 8) => bn_unpack (l := l) (m := m) (x := x) (q := q) (j := j) hrd hx8 hj (fun h _ => hlow j h hj) hq8
  rw [hx]
  unfold byteAt
  rw [e 0 (by omega), e 1 (by omega), e 2 (by omega), e 3 (by omega), e 4 (by omega), e 5 (by omega), e 6 (by omega), e 7 (by omega)]
  rw [sum_bits x hx8]
end Go.Proofs.Yteeamcodapjccaa.Bf
