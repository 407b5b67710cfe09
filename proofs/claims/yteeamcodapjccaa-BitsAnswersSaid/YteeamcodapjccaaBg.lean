/- The contracts of bits.Append, Join and Pad in the form that the printed texts have. -/
import Derived.Test.YteeamcodapjccaaBf
namespace Go.Proofs.Yteeamcodapjccaa.PBitsAnswers
open Go.RowKit Go.Proofs.YteeamcodapjccaaW.PrintWords Go.Proofs.YteeamcodapjccaaW.PrintLast Go.Proofs.YteeamcodapjccaaW.PrintMore
open Go.Proofs.Yteeamcodapjccaa.Bb Go.Proofs.Yteeamcodapjccaa.Be Go.Proofs.Yteeamcodapjccaa.Bf
set_option linter.unusedVariables false
set_option linter.unusedSimpArgs false

def okLb (l : List Int) : Bool := l.all fun x => decide (0 ≤ x) && decide (x < 256)
theorem okL_of {l : List Int} (h : okLb l = true) : okL l := by
  intro x hx
  have := List.all_eq_true.1 h x hx
  simpa using this
theorem okLb_pack (bs : List Bool) : okLb (pack bs) = true := by
  unfold okLb
  rw [List.all_eq_true]
  intro x hx
  have := okL_pack bs x hx
  simpa using this
def bits_Append.f (l0_0 : List Int) (a0_1 : Int) (a1 : Int) (a2 : Int) : Option (List Int × Int × Int) :=
  if okLb l0_0 = true then (if bits_Valid.f l0_0 a0_1 = some true then (if 1 ≤ a2 ∧ a2 ≤ 24 ∧ 0 ≤ a1 ∧ a1 < 2 ^ a2.toNat then (if a0_1 + a2 > 40000 then some ([], 0, 2) else some (pack (unpack l0_0 a0_1.toNat ++ bitsOf a1.toNat a2.toNat), a0_1 + a2, 0)) else some ([], 0, 1)) else some ([], 0, 7)) else none
theorem wrap_pow {k : Nat} (h : k ≤ 24) : wrap64 ((2 : Int) ^ k) = 2 ^ k := by
  have h1 : (2 : Int) ^ k ≤ 2 ^ 24 := by exact_mod_cast Nat.pow_le_pow_right (by omega) h
  have h2 : (0 : Int) < 2 ^ k := by exact_mod_cast Nat.pow_pos (by omega)
  rw [show (2 : Int) ^ 24 = 16777216 by decide] at h1
  unfold wrap64
  omega
theorem valid_false {l : List Int} (hl : okL l) {n : Int} (h : ¬ bits_Valid.f l n = some true) : bits_Valid.f l n = some false := by
  rw [valid_eq hl] at h ⊢
  congr 1
  cases hb : decide (0 ≤ n ∧ n ≤ 40000 ∧ (l.length : Int) = (n + 7) / 8 ∧ (n % 8 = 0 ∨ rd l (n / 8) % 2 ^ (8 - n % 8).toNat = 0)) with
  | false => rfl
  | true => rw [hb] at h; exact absurd rfl h
theorem bits_Append.calls (A0_0 : Option Addr) (c0_0 : Nat) (l0_0 : List Int) (a0_1 : Int) (a1 : Int) (a2 : Int) (r1 : List Int) (r2 : Int) (r3 : Int) (w : World) (hr0_0 : Kd.C (Kd.int .u8) w A0_0 l0_0.length l0_0) (hc0_0 : l0_0.length ≤ c0_0) (h : bits_Append.f l0_0 a0_1 a1 a2 = some (r1, r2, r3)) :
    Calls Try.prog 18 #[.agg #[.slice A0_0 l0_0.length c0_0, .int .i64 a0_1], .int .i64 a1, .int .i64 a2] w fun e w' => ∃ v0_ : Value, e = .returned (.tuple #[.agg #[v0_, .int .i64 r2], .int .i64 r3]) ∧ Kd.R (Kd.int .u8) 5 w' w.heap.size (fun _ => True) v0_ r1 ∧ Below w.heap.size w w' := by
  unfold bits_Append.f at h
  by_cases hok : okLb l0_0 = true
  · rw [if_pos hok] at h
    have hl := okL_of hok
    by_cases hv : bits_Valid.f l0_0 a0_1 = some true
    · rw [if_pos hv] at h
      obtain ⟨h0, h1, h2, h3⟩ := valid_unpack hl hv
      by_cases hr : 1 ≤ a2 ∧ a2 ≤ 24 ∧ 0 ≤ a1 ∧ a1 < 2 ^ a2.toNat
      · rw [if_pos hr] at h
        obtain ⟨g0, g1, g2, g3⟩ := hr
        obtain ⟨k, rfl⟩ := Int.eq_ofNat_of_zero_le (show 0 ≤ a2 by omega)
        obtain ⟨val, rfl⟩ := Int.eq_ofNat_of_zero_le g2
        simp only [Int.toNat_natCast] at h g3
        have hk : k ≤ 24 := by omega
        have hw : bits_width.f (k : Int) = some true := by unfold bits_width.f; rw [if_pos (by omega)]; simp; omega
        have hx : decide ((val : Int) < 0) = false := decide_eq_false (by omega)
        have hy : decide (wrap64 ((2 : Int) ^ k) ≤ (val : Int)) = false := decide_eq_false (by rw [wrap_pow hk]; omega)
        have hp : (2 : Int) ^ k ≤ 2 ^ 24 := by exact_mod_cast Nat.pow_le_pow_right (by omega) hk
        rw [show (2 : Int) ^ 24 = 16777216 by decide] at hp
        by_cases hz : a0_1 + (k : Int) > 40000
        · rw [if_pos hz] at h
          simp only [Option.some.injEq, Prod.mk.injEq] at h
          obtain ⟨rfl, rfl, rfl⟩ := h
          exact append_limit A0_0 c0_0 l0_0 a0_1 val k w hr0_0 hc0_0 k rfl hk hv hw hx hy h0 h1 (decide_eq_true (by omega))
        · rw [if_neg hz] at h
          simp only [Option.some.injEq, Prod.mk.injEq] at h
          obtain ⟨rfl, rfl, rfl⟩ := h
          generalize unpack l0_0 a0_1.toNat = bs at *
          subst h2 h3
          have hq := append_ok A0_0 c0_0 bs _ val k rfl w hr0_0 hc0_0 hv hk (by omega) (by omega) hy (by omega)
          rw [show (((bs ++ bitsOf val k).length : Nat) : Int) = (bs.length : Int) + (k : Int) by rw [List.length_append, bitsOf_length]; omega] at hq
          exact hq
      · rw [if_neg hr] at h
        simp only [Option.some.injEq, Prod.mk.injEq] at h
        obtain ⟨rfl, rfl, rfl⟩ := h
        by_cases hw : bits_width.f a2 = some true
        · have hw2 : 1 ≤ a2 ∧ a2 ≤ 24 := by
            unfold bits_width.f at hw
            by_cases hh : a2 ≥ 1
            · rw [if_pos hh] at hw; simp at hw; omega
            · rw [if_neg hh] at hw; simp at hw
          obtain ⟨k, rfl⟩ := Int.eq_ofNat_of_zero_le (show 0 ≤ a2 by omega)
          by_cases hx : a1 < 0
          · exact append_less A0_0 c0_0 l0_0 a0_1 a1 k w hr0_0 hc0_0 hv hw (decide_eq_true hx)
          · refine append_more A0_0 c0_0 l0_0 a0_1 a1 k w hr0_0 hc0_0 k rfl (by omega) hv hw (decide_eq_false hx) (decide_eq_true ?_)
            rw [wrap_pow (by omega)]
            simp only [Int.toNat_natCast] at hr
            omega
        · refine append_width A0_0 c0_0 l0_0 a0_1 a1 a2 w hr0_0 hc0_0 hv ?_
          unfold bits_width.f at hw ⊢
          by_cases hh : a2 ≥ 1
          · rw [if_pos hh] at hw ⊢; simp at hw ⊢; omega
          · rw [if_neg hh]
    · rw [if_neg hv] at h
      simp only [Option.some.injEq, Prod.mk.injEq] at h
      obtain ⟨rfl, rfl, rfl⟩ := h
      exact append_state A0_0 c0_0 l0_0 a0_1 a1 a2 w hr0_0 hc0_0 (valid_false hl hv)
  · rw [if_neg hok] at h; cases h

def bits_Pad.f (l0_0 : List Int) (a0_1 : Int) : Option (List Int × Int × Int) :=
  if okLb l0_0 = true then (if bits_Valid.f l0_0 a0_1 = some true then some (l0_0, ((((a0_1.toNat + 7) / 8 : Nat) : Int) * 8), 0) else some ([], 0, 7)) else none
theorem bits_Pad.calls (A0_0 : Option Addr) (c0_0 : Nat) (l0_0 : List Int) (a0_1 : Int) (r1 : List Int) (r2 : Int) (r3 : Int) (w : World) (hr0_0 : Kd.C (Kd.int .u8) w A0_0 l0_0.length l0_0) (hc0_0 : l0_0.length ≤ c0_0) (h : bits_Pad.f l0_0 a0_1 = some (r1, r2, r3)) :
    Calls Try.prog 12 #[.agg #[.slice A0_0 l0_0.length c0_0, .int .i64 a0_1]] w fun e w' => ∃ v0_ : Value, e = .returned (.tuple #[.agg #[v0_, .int .i64 r2], .int .i64 r3]) ∧ Kd.R (Kd.int .u8) 5 w' w.heap.size (fun _ => True) v0_ r1 ∧ Below w.heap.size w w' := by
  unfold bits_Pad.f at h
  by_cases hok : okLb l0_0 = true
  · rw [if_pos hok] at h
    have hl := okL_of hok
    by_cases hv : bits_Valid.f l0_0 a0_1 = some true
    · rw [if_pos hv] at h
      obtain ⟨h0, h1, h2, h3⟩ := valid_unpack hl hv
      simp only [Option.some.injEq, Prod.mk.injEq] at h
      obtain ⟨rfl, rfl, rfl⟩ := h
      generalize unpack l0_0 a0_1.toNat = bs at *
      subst h2 h3
      rw [Int.toNat_natCast]
      exact pad_ok A0_0 c0_0 bs w hr0_0 hc0_0 hv (by omega) _ rfl
    · rw [if_neg hv] at h
      simp only [Option.some.injEq, Prod.mk.injEq] at h
      obtain ⟨rfl, rfl, rfl⟩ := h
      exact pad_state A0_0 c0_0 l0_0 a0_1 w hr0_0 hc0_0 _ rfl (valid_false hl hv)
  · rw [if_neg hok] at h; cases h

def bits_Join.f (l0_0 : List Int) (a0_1 : Int) (l1_0 : List Int) (a1_1 : Int) : Option (List Int × Int × Int) :=
  if okLb l0_0 = true ∧ okLb l1_0 = true then (if bits_Valid.f l0_0 a0_1 = some true ∧ bits_Valid.f l1_0 a1_1 = some true then (if a0_1 + a1_1 > 40000 then some ([], 0, 2) else some (pack (unpack l0_0 a0_1.toNat ++ unpack l1_0 a1_1.toNat), a0_1 + a1_1, 0)) else some ([], 0, 7)) else none
theorem bits_Join.calls (A0_0 : Option Addr) (c0_0 : Nat) (l0_0 : List Int) (a0_1 : Int) (A1_0 : Option Addr) (c1_0 : Nat) (l1_0 : List Int) (a1_1 : Int) (r1 : List Int) (r2 : Int) (r3 : Int) (w : World) (hr0_0 : Kd.C (Kd.int .u8) w A0_0 l0_0.length l0_0) (hc0_0 : l0_0.length ≤ c0_0) (hr1_0 : Kd.C (Kd.int .u8) w A1_0 l1_0.length l1_0) (hc1_0 : l1_0.length ≤ c1_0) (h : bits_Join.f l0_0 a0_1 l1_0 a1_1 = some (r1, r2, r3)) :
    Calls Try.prog 17 #[.agg #[.slice A0_0 l0_0.length c0_0, .int .i64 a0_1], .agg #[.slice A1_0 l1_0.length c1_0, .int .i64 a1_1]] w fun e w' => ∃ v0_ : Value, e = .returned (.tuple #[.agg #[v0_, .int .i64 r2], .int .i64 r3]) ∧ Kd.R (Kd.int .u8) 5 w' w.heap.size (fun _ => True) v0_ r1 ∧ Below w.heap.size w w' := by
  unfold bits_Join.f at h
  by_cases hok : okLb l0_0 = true ∧ okLb l1_0 = true
  · rw [if_pos hok] at h
    have hl := okL_of hok.1
    have hl1 := okL_of hok.2
    by_cases hv : bits_Valid.f l0_0 a0_1 = some true ∧ bits_Valid.f l1_0 a1_1 = some true
    · rw [if_pos hv] at h
      obtain ⟨hv, hv1⟩ := hv
      obtain ⟨h0, h1, h2, h3⟩ := valid_unpack hl hv
      obtain ⟨g0, g1, g2, g3⟩ := valid_unpack hl1 hv1
      by_cases hz : a0_1 + a1_1 > 40000
      · rw [if_pos hz] at h
        simp only [Option.some.injEq, Prod.mk.injEq] at h
        obtain ⟨rfl, rfl, rfl⟩ := h
        exact join_limit A0_0 c0_0 l0_0 a0_1 A1_0 c1_0 l1_0 a1_1 w hr0_0 hc0_0 hr1_0 hc1_0 hv hv1 h0 h1 g0 g1 (decide_eq_true (by omega))
      · rw [if_neg hz] at h
        simp only [Option.some.injEq, Prod.mk.injEq] at h
        obtain ⟨rfl, rfl, rfl⟩ := h
        generalize unpack l0_0 a0_1.toNat = bs at *
        generalize unpack l1_0 a1_1.toNat = cs at *
        subst h2 h3 g2 g3
        have hq := join_ok A0_0 c0_0 bs A1_0 c1_0 cs w hr0_0 hc0_0 hr1_0 hc1_0 hv hv1 (by omega) (fun i hi => bit_pack hi (by omega))
        rw [show (((bs ++ cs).length : Nat) : Int) = (bs.length : Int) + (cs.length : Int) by rw [List.length_append]; omega] at hq
        exact hq
    · rw [if_neg hv] at h
      simp only [Option.some.injEq, Prod.mk.injEq] at h
      obtain ⟨rfl, rfl, rfl⟩ := h
      by_cases hv0 : bits_Valid.f l0_0 a0_1 = some true
      · exact join_second A0_0 c0_0 l0_0 a0_1 A1_0 c1_0 l1_0 a1_1 w hr0_0 hc0_0 hr1_0 hc1_0 hv0 (valid_false hl1 (fun h => hv ⟨hv0, h⟩))
      · exact join_first A0_0 c0_0 l0_0 a0_1 A1_0 c1_0 l1_0 a1_1 w hr0_0 hc0_0 hr1_0 hc1_0 (valid_false hl hv0)
  · rw [if_neg hok] at h; cases h
end Go.Proofs.Yteeamcodapjccaa.PBitsAnswers
