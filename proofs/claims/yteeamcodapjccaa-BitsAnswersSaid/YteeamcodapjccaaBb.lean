/- Bits as lists: pure words for the layer bits. -/
import Derived.Test.YteeamcodapjccaaPBitsAnswersx0
namespace Go.Proofs.Yteeamcodapjccaa.Bb
open Go.RowKit Go.Proofs.YteeamcodapjccaaW.PrintWords Go.Proofs.YteeamcodapjccaaW.PrintLast Go.Proofs.YteeamcodapjccaaW.PrintMore
set_option linter.unusedVariables false
set_option linter.unusedSimpArgs false

/-- A bit as a number; 0 behind the end. -/
def bn (bs : List Bool) (i : Nat) : Nat := if bs.getD i false then 1 else 0
theorem bn_le (bs : List Bool) (i : Nat) : bn bs i ≤ 1 := by unfold bn; split <;> omega
theorem bn_ge {bs : List Bool} {i : Nat} (h : bs.length ≤ i) : bn bs i = 0 := by
  unfold bn; rw [List.getD_eq_getElem?_getD, List.getElem?_eq_none h]; rfl
theorem bn_snoc_lt {bs : List Bool} {b : Bool} {i : Nat} (h : i < bs.length) : bn (bs ++ [b]) i = bn bs i := by
  unfold bn; simp only [List.getD_eq_getElem?_getD]; rw [List.getElem?_append_left h]
theorem bn_snoc_eq {bs : List Bool} {b : Bool} : bn (bs ++ [b]) bs.length = if b then 1 else 0 := by
  unfold bn; simp
theorem bn_snoc_gt {bs : List Bool} {b : Bool} {i : Nat} (h : bs.length < i) : bn (bs ++ [b]) i = bn bs i := by
  rw [bn_ge (by simp; omega), bn_ge (by omega)]

def byteAt (bs : List Bool) (i : Nat) : Nat :=
  128 * bn bs (8 * i + 0) + 64 * bn bs (8 * i + 1) + 32 * bn bs (8 * i + 2) + 16 * bn bs (8 * i + 3) + 8 * bn bs (8 * i + 4) + 4 * bn bs (8 * i + 5) + 2 * bn bs (8 * i + 6) + bn bs (8 * i + 7)
def pack (bs : List Bool) : List Int := (List.range ((bs.length + 7) / 8)).map fun i => ((byteAt bs i : Nat) : Int)
theorem pack_length (bs : List Bool) : (pack bs).length = (bs.length + 7) / 8 := by simp [pack]
theorem pack_get {bs : List Bool} {i : Nat} (h : i < (bs.length + 7) / 8) : (pack bs)[i]? = some ((byteAt bs i : Nat) : Int) := by
  unfold pack; rw [List.getElem?_map, List.getElem?_range h]; rfl
theorem rd_pack {bs : List Bool} {i : Nat} (h : i < (bs.length + 7) / 8) : rd (pack bs) (i : Int) = ((byteAt bs i : Nat) : Int) := by
  unfold rd; rw [Int.toNat_natCast, List.getD_eq_getElem?_getD, pack_get h]; rfl
theorem byteAt_lt (bs : List Bool) (i : Nat) : byteAt bs i < 256 := by
  unfold byteAt
  have := bn_le bs (8 * i + 0); have := bn_le bs (8 * i + 1); have := bn_le bs (8 * i + 2); have := bn_le bs (8 * i + 3)
  have := bn_le bs (8 * i + 4); have := bn_le bs (8 * i + 5); have := bn_le bs (8 * i + 6); have := bn_le bs (8 * i + 7)
  omega
theorem byteAt_snoc_ne {bs : List Bool} {b : Bool} {i : Nat} (h : i ≠ bs.length / 8) : byteAt (bs ++ [b]) i = byteAt bs i := by
  have e : ∀ k, k ≠ bs.length → bn (bs ++ [b]) k = bn bs k := fun k hk => by
    rcases Nat.lt_or_ge k bs.length with h1 | h1
    · exact bn_snoc_lt h1
    · exact bn_snoc_gt (by omega)
  unfold byteAt
  rw [e _ (by omega), e _ (by omega), e _ (by omega), e _ (by omega), e _ (by omega), e _ (by omega), e _ (by omega), e _ (by omega)]
theorem byteAt_snoc {bs : List Bool} {b : Bool} : byteAt (bs ++ [b]) (bs.length / 8) = byteAt bs (bs.length / 8) + (if b then 1 else 0) * 2 ^ (7 - bs.length % 8) := by
  obtain ⟨q, r, hq, hr⟩ : ∃ q r, bs.length = 8 * q + r ∧ r < 8 := ⟨bs.length / 8, bs.length % 8, by omega, by omega⟩
  have hq' : bs.length / 8 = q := by omega
  have hr' : bs.length % 8 = r := by omega
  rw [hq', hr']
  have lo : ∀ j, j < r → bn (bs ++ [b]) (8 * q + j) = bn bs (8 * q + j) := fun j hj => bn_snoc_lt (by omega)
  have mid : bn (bs ++ [b]) (8 * q + r) = if b then 1 else 0 := by rw [← hq]; exact bn_snoc_eq
  have hi : ∀ j, r < j → bn (bs ++ [b]) (8 * q + j) = 0 := fun j hj => bn_ge (by simp; omega)
  have hj : ∀ j, r ≤ j → bn bs (8 * q + j) = 0 := fun j hj => bn_ge (by omega)
  clear hq hq' hr'
  generalize (if b then 1 else 0 : Nat) = x at mid ⊢
  unfold byteAt
  generalize bn (bs ++ [b]) = f at *
  generalize bn bs = g at *
  obtain h | h | h | h | h | h | h | h : r = 0 ∨ r = 1 ∨ r = 2 ∨ r = 3 ∨ r = 4 ∨ r = 5 ∨ r = 6 ∨ r = 7 := by omega
  · subst h
    rw [mid, hi 1 (by decide), hi 2 (by decide), hi 3 (by decide), hi 4 (by decide), hi 5 (by decide), hi 6 (by decide), hi 7 (by decide), hj 0 (by decide), hj 1 (by decide), hj 2 (by decide), hj 3 (by decide), hj 4 (by decide), hj 5 (by decide), hj 6 (by decide), hj 7 (by decide)]
    first | done | (simp only [Nat.reduceSub, Nat.reducePow]; first | done | omega)
  · subst h
    rw [lo 0 (by decide), mid, hi 2 (by decide), hi 3 (by decide), hi 4 (by decide), hi 5 (by decide), hi 6 (by decide), hi 7 (by decide), hj 1 (by decide), hj 2 (by decide), hj 3 (by decide), hj 4 (by decide), hj 5 (by decide), hj 6 (by decide), hj 7 (by decide)]
    first | done | (simp only [Nat.reduceSub, Nat.reducePow]; first | done | omega)
  · subst h
    rw [lo 0 (by decide), lo 1 (by decide), mid, hi 3 (by decide), hi 4 (by decide), hi 5 (by decide), hi 6 (by decide), hi 7 (by decide), hj 2 (by decide), hj 3 (by decide), hj 4 (by decide), hj 5 (by decide), hj 6 (by decide), hj 7 (by decide)]
    first | done | (simp only [Nat.reduceSub, Nat.reducePow]; first | done | omega)
  · subst h
    rw [lo 0 (by decide), lo 1 (by decide), lo 2 (by decide), mid, hi 4 (by decide), hi 5 (by decide), hi 6 (by decide), hi 7 (by decide), hj 3 (by decide), hj 4 (by decide), hj 5 (by decide), hj 6 (by decide), hj 7 (by decide)]
    first | done | (simp only [Nat.reduceSub, Nat.reducePow]; first | done | omega)
  · subst h
    rw [lo 0 (by decide), lo 1 (by decide), lo 2 (by decide), lo 3 (by decide), mid, hi 5 (by decide), hi 6 (by decide), hi 7 (by decide), hj 4 (by decide), hj 5 (by decide), hj 6 (by decide), hj 7 (by decide)]
    first | done | (simp only [Nat.reduceSub, Nat.reducePow]; first | done | omega)
  · subst h
    rw [lo 0 (by decide), lo 1 (by decide), lo 2 (by decide), lo 3 (by decide), lo 4 (by decide), mid, hi 6 (by decide), hi 7 (by decide), hj 5 (by decide), hj 6 (by decide), hj 7 (by decide)]
    first | done | (simp only [Nat.reduceSub, Nat.reducePow]; first | done | omega)
  · subst h
    rw [lo 0 (by decide), lo 1 (by decide), lo 2 (by decide), lo 3 (by decide), lo 4 (by decide), lo 5 (by decide), mid, hi 7 (by decide), hj 6 (by decide), hj 7 (by decide)]
    first | done | (simp only [Nat.reduceSub, Nat.reducePow]; first | done | omega)
  · subst h
    rw [lo 0 (by decide), lo 1 (by decide), lo 2 (by decide), lo 3 (by decide), lo 4 (by decide), lo 5 (by decide), lo 6 (by decide), mid, hj 7 (by decide)]
    first | done | (simp only [Nat.reduceSub, Nat.reducePow]; first | done | omega)
/-- Behind the end of the list a byte has no bits. -/
theorem byteAt_low (bs : List Bool) : byteAt bs (bs.length / 8) % 2 ^ (8 - bs.length % 8) = 0 := by
  obtain ⟨q, r, hq, hr⟩ : ∃ q r, bs.length = 8 * q + r ∧ r < 8 := ⟨bs.length / 8, bs.length % 8, by omega, by omega⟩
  have hq' : bs.length / 8 = q := by omega
  have hr' : bs.length % 8 = r := by omega
  rw [hq', hr']
  have hj : ∀ j, r ≤ j → bn bs (8 * q + j) = 0 := fun j hj => bn_ge (by omega)
  clear hq hq' hr'
  unfold byteAt
  generalize bn bs = g at *
  obtain h | h | h | h | h | h | h | h : r = 0 ∨ r = 1 ∨ r = 2 ∨ r = 3 ∨ r = 4 ∨ r = 5 ∨ r = 6 ∨ r = 7 := by omega
  · subst h
    rw [hj 0 (by decide), hj 1 (by decide), hj 2 (by decide), hj 3 (by decide), hj 4 (by decide), hj 5 (by decide), hj 6 (by decide), hj 7 (by decide)]
    first | done | (simp only [Nat.reduceSub, Nat.reducePow]; first | done | omega)
  · subst h
    rw [hj 1 (by decide), hj 2 (by decide), hj 3 (by decide), hj 4 (by decide), hj 5 (by decide), hj 6 (by decide), hj 7 (by decide)]
    first | done | (simp only [Nat.reduceSub, Nat.reducePow]; first | done | omega)
  · subst h
    rw [hj 2 (by decide), hj 3 (by decide), hj 4 (by decide), hj 5 (by decide), hj 6 (by decide), hj 7 (by decide)]
    first | done | (simp only [Nat.reduceSub, Nat.reducePow]; first | done | omega)
  · subst h
    rw [hj 3 (by decide), hj 4 (by decide), hj 5 (by decide), hj 6 (by decide), hj 7 (by decide)]
    first | done | (simp only [Nat.reduceSub, Nat.reducePow]; first | done | omega)
  · subst h
    rw [hj 4 (by decide), hj 5 (by decide), hj 6 (by decide), hj 7 (by decide)]
    first | done | (simp only [Nat.reduceSub, Nat.reducePow]; first | done | omega)
  · subst h
    rw [hj 5 (by decide), hj 6 (by decide), hj 7 (by decide)]
    first | done | (simp only [Nat.reduceSub, Nat.reducePow]; first | done | omega)
  · subst h
    rw [hj 6 (by decide), hj 7 (by decide)]
    first | done | (simp only [Nat.reduceSub, Nat.reducePow]; first | done | omega)
  · subst h
    rw [hj 7 (by decide)]
    first | done | (simp only [Nat.reduceSub, Nat.reducePow]; first | done | omega)
theorem or_fin : ∀ x : Fin 256, ∀ s : Fin 8, ∀ b : Fin 2, x.val % 2 ^ (s.val + 1) = 0 → Go.bits .or .u8 (x.val : Int) (shl .u8 (b.val : Int) (s.val : Int)) = ((x.val + b.val * 2 ^ s.val : Nat) : Int) := by decide +kernel
theorem or_byte {x s b : Nat} (hx : x < 256) (hs : s < 8) (hb : b < 2) (h : x % 2 ^ (s + 1) = 0) : Go.bits .or .u8 (x : Int) (shl .u8 (b : Int) (s : Int)) = ((x + b * 2 ^ s : Nat) : Int) :=
  or_fin ⟨x, hx⟩ ⟨s, hs⟩ ⟨b, hb⟩ h
theorem pack_nil : pack [] = [] := rfl
/-- A bit behind a whole byte. -/
theorem pack_snoc_new {bs : List Bool} {b : Bool} (h : bs.length % 8 = 0) :
    pack (bs ++ [b]) = (pack bs ++ [0]).set (bs.length / 8) ((byteAt (bs ++ [b]) (bs.length / 8) : Nat) : Int) := by
  refine List.ext_getElem? (fun i => ?_)
  rw [List.getElem?_set]
  have hl := pack_length bs
  by_cases hi : bs.length / 8 = i
  · rw [if_pos hi, if_pos (by simp; omega), pack_get (by simp; omega), hi]
  · rw [if_neg hi]
    rcases Nat.lt_or_ge i (bs.length / 8) with h1 | h1
    · rw [pack_get (by simp; omega), List.getElem?_append_left (by omega), pack_get (by omega), byteAt_snoc_ne (by omega)]
    · rw [List.getElem?_eq_none (by rw [pack_length]; simp; omega), List.getElem?_eq_none (by simp; omega)]
theorem pack_snoc_old {bs : List Bool} {b : Bool} (h : bs.length % 8 ≠ 0) :
    pack (bs ++ [b]) = (pack bs).set (bs.length / 8) ((byteAt (bs ++ [b]) (bs.length / 8) : Nat) : Int) := by
  refine List.ext_getElem? (fun i => ?_)
  rw [List.getElem?_set]
  have hl := pack_length bs
  by_cases hi : bs.length / 8 = i
  · rw [if_pos hi, if_pos (by omega), pack_get (by simp; omega), hi]
  · rw [if_neg hi]
    rcases Nat.lt_or_ge i ((bs.length + 7) / 8) with h1 | h1
    · rw [pack_get (by simp; omega), pack_get h1, byteAt_snoc_ne (by omega)]
    · rw [List.getElem?_eq_none (by rw [pack_length]; simp; omega), List.getElem?_eq_none (by omega)]
/-- The bits of a number, the most significant of k first. -/
def bitsOf (v : Nat) : Nat → List Bool
  | 0 => []
  | k + 1 => decide (v / 2 ^ k % 2 = 1) :: bitsOf v k
theorem bitsOf_length (v k : Nat) : (bitsOf v k).length = k := by
  induction k with
  | zero => rfl
  | succ k ih => simp [bitsOf, ih]
end Go.Proofs.Yteeamcodapjccaa.Bb
