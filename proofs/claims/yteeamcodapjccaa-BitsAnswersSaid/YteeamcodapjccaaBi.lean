/- Pure facts: Of, Valid and Read on lists of bits. -/
import Derived.Test.YteeamcodapjccaaBh
namespace Go.Proofs.Yteeamcodapjccaa.Bi
open Go.RowKit Go.Proofs.YteeamcodapjccaaW.PrintWords Go.Proofs.YteeamcodapjccaaW.PrintLast Go.Proofs.YteeamcodapjccaaW.PrintMore
open Go.Proofs.Yteeamcodapjccaa.PBitsAnswers Go.Proofs.Yteeamcodapjccaa.Bb Go.Proofs.Yteeamcodapjccaa.Be Go.Proofs.Yteeamcodapjccaa.Bf Go.Proofs.Yteeamcodapjccaa.X Go.Proofs.Yteeamcodapjccaa.Bh
set_option linter.unusedVariables false
set_option linter.unusedSimpArgs false

def packW (bs : List Bool) (m : Nat) : List Int := (List.range m).map fun i => ((byteAt bs i : Nat) : Int)
theorem packW_length (bs : List Bool) (m : Nat) : (packW bs m).length = m := by simp [packW]
theorem packW_get {bs : List Bool} {m i : Nat} (h : i < m) : (packW bs m)[i]? = some ((byteAt bs i : Nat) : Int) := by
  unfold packW; rw [List.getElem?_map, List.getElem?_range h]; rfl
theorem packW_pack (bs : List Bool) : packW bs ((bs.length + 7) / 8) = pack bs := rfl
theorem packW_rd {bs : List Bool} {m i : Nat} (h : i < m) : rd (packW bs m) (i : Int) = ((byteAt bs i : Nat) : Int) := by
  unfold rd; rw [Int.toNat_natCast, List.getD_eq_getElem?_getD, packW_get h]; rfl
theorem packW_false (bs : List Bool) (m : Nat) : packW (bs ++ [false]) m = packW bs m := by
  unfold packW
  refine List.map_congr_left (fun i hi => ?_)
  by_cases h : i = bs.length / 8
  · subst h; rw [byteAt_snoc]; simp
  · rw [byteAt_snoc_ne h]
theorem packW_true {bs : List Bool} {m : Nat} (h : bs.length / 8 < m) : (packW bs m).set (bs.length / 8) (Go.bits .or .u8 (rd (packW bs m) ((bs.length / 8 : Nat) : Int)) (shl .u8 1 ((7 - bs.length % 8 : Nat) : Int))) = packW (bs ++ [true]) m := by
  rw [packW_rd h]
  have hlow : byteAt bs (bs.length / 8) % 2 ^ (7 - bs.length % 8 + 1) = 0 := by
    have := byteAt_low bs
    rwa [show 8 - bs.length % 8 = 7 - bs.length % 8 + 1 by omega] at this
  have ho := or_byte (byteAt_lt bs (bs.length / 8)) (show 7 - bs.length % 8 < 8 by omega) (show 1 < 2 by omega) hlow
  rw [show ((1 : Nat) : Int) = 1 from rfl] at ho
  rw [ho]
  refine List.ext_getElem? (fun i => ?_)
  rw [List.getElem?_set]
  by_cases hi : bs.length / 8 = i
  · rw [if_pos hi, if_pos (by rw [packW_length]; exact h), packW_get (by omega), ← hi, byteAt_snoc]
    rfl
  · rw [if_neg hi]
    rcases Nat.lt_or_ge i m with h1 | h1
    · rw [packW_get h1, packW_get h1, byteAt_snoc_ne (by omega)]
    · rw [List.getElem?_eq_none (by rw [packW_length]; exact h1), List.getElem?_eq_none (by rw [packW_length]; exact h1)]
def ones (l : List Int) : List Bool := l.map fun x => decide (x = 1)
theorem ones_length (l : List Int) : (ones l).length = l.length := by simp [ones]
theorem ones_snoc (l : List Int) (x : Int) : ones (l ++ [x]) = ones l ++ [decide (x = 1)] := by simp [ones]
theorem Ev.succ {α : Type} {g : Nat → Option α} {r : α} (h : Ev (fun k => g (k + 1)) r) : Ev g r := Ev.step (fun _ => rfl) h
theorem of_loop {l : List Int} (hl : l.length ≤ 1000000) (d : Nat) : ∀ i : Nat, i + d = l.length → Ev (fun k => synopticref07_Of.l0 k l (i : Int) (packW (ones (l.take i)) ((l.length + 7) / 8)) (l.length : Int)) (packW (ones l) ((l.length + 7) / 8), (l.length : Int)) := by
  induction d with
  | zero =>
    intro i hi
    refine Ev.succ ?_
    refine ⟨0, fun k _ => ?_⟩
    simp only [synopticref07_Of.l0]
    rw [if_neg (by omega), List.take_of_length_le (by omega)]
  | succ d ih =>
    intro i hi
    refine Ev.succ ?_
    simp only [synopticref07_Of.l0]
    have e0 : wrap64 ((i : Int) + 1) = ((i + 1 : Nat) : Int) := by unfold wrap64; omega
    have e1 : wrap64 (Int.tdiv (i : Int) 8) = ((i / 8 : Nat) : Int) := by
      rw [Int.tdiv_eq_ediv_of_nonneg (by omega)]; unfold wrap64; omega
    have e2 : IntKind.u64.wrap (wrap64 (7 - Int.tmod (i : Int) 8)) = ((7 - i % 8 : Nat) : Int) := by
      rw [Int.tmod_eq_emod_of_nonneg (by omega), IntKind.wrap_u64]; unfold wrap64; omega
    have hx : rd l (i : Int) = l[i] := by
      unfold rd; rw [Int.toNat_natCast, List.getD_eq_getElem?_getD, List.getElem?_eq_getElem (show i < l.length by omega)]; rfl
    have hi2 := ih (i + 1) (by omega)
    rw [List.take_succ_eq_append_getElem (show i < l.length by omega), ones_snoc] at hi2
    have hlen : (ones (l.take i)).length = i := by rw [ones_length, List.length_take]; omega
    simp only [if_pos (show (i : Int) < (l.length : Int) by omega), if_pos (show (0 : Int) ≤ (i : Int) by omega), hx, e0, e1, e2, Int.toNat_natCast]
    by_cases h1 : l[i] = 1
    · simp only [if_pos h1]
      rw [h1] at hi2
      simp only [decide_true] at hi2
      have ht := packW_true (bs := ones (l.take i)) (m := (l.length + 7) / 8) (by rw [hlen]; omega)
      rw [hlen] at ht
      refine Ev.congr (fun k => ?_) hi2
      rw [if_pos (by omega), if_pos (by rw [packW_length]; omega), if_pos (by omega), ht]
    · simp only [if_neg h1]
      rw [show decide (l[i] = 1) = false from decide_eq_false h1, packW_false] at hi2
      exact hi2
theorem of_ev {l : List Int} (hl : l.length ≤ 1000000) : Ev (fun k => synopticref07_Of.f k l) (pack (ones l), (l.length : Int)) := by
  have e : wrap64 (Int.tdiv (wrap64 ((l.length : Int) + 7)) 8) = (((l.length + 7) / 8 : Nat) : Int) := by
    rw [show wrap64 ((l.length : Int) + 7) = ((l.length + 7 : Nat) : Int) from by unfold wrap64; omega, Int.tdiv_eq_ediv_of_nonneg (by omega)]
    unfold wrap64; omega
  have h := of_loop hl l.length 0 (by omega)
  rw [show packW (ones l) ((l.length + 7) / 8) = pack (ones l) from by rw [← packW_pack, ones_length]] at h
  refine Ev.congr (fun k => ?_) h
  unfold synopticref07_Of.f
  rw [e, if_pos (by omega), Int.toNat_natCast, if_pos (by omega)]
  congr 1
  refine List.ext_getElem (by simp [packW]) (fun i h1 h2 => ?_)
  simp [packW, ones, byteAt, bn]

/-! ### Valid of the reference -/
theorem bits_low : ∀ x : Fin 256, ∀ r : Fin 8, (∀ j : Fin 8, r.val ≤ j.val → x.val / 2 ^ (7 - j.val) % 2 = 0) → x.val % 2 ^ (8 - r.val) = 0 := by decide +kernel
theorem at_byte {l : List Int} (hl : okL l) {n : Int} {i : Nat} (h : i < 8 * l.length) (hb : l.length ≤ 1000000) : ∃ x : Nat, x < 256 ∧ rd l ((i / 8 : Nat) : Int) = (x : Int) ∧ synopticref07_At.f l n (i : Int) = some ((x / 2 ^ (7 - i % 8) % 2 : Nat) : Int) := by
  have hm : rd l ((i / 8 : Nat) : Int) ∈ l := by
    unfold rd
    rw [Int.toNat_natCast, List.getD_eq_getElem?_getD, List.getElem?_eq_getElem (show i / 8 < l.length by omega)]
    exact List.getElem_mem _
  obtain ⟨x, hx⟩ := Int.eq_ofNat_of_zero_le (hl _ hm).1
  have hx8 : x < 256 := by have := (hl _ hm).2; omega
  refine ⟨x, hx8, hx, ?_⟩
  unfold synopticref07_At.f
  have e1 : wrap64 (Int.tdiv (i : Int) 8) = ((i / 8 : Nat) : Int) := by
    rw [Int.tdiv_eq_ediv_of_nonneg (by omega)]; unfold wrap64; omega
  have e2 : IntKind.u64.wrap (wrap64 (7 - Int.tmod (i : Int) 8)) = ((7 - i % 8 : Nat) : Int) := by
    rw [Int.tmod_eq_emod_of_nonneg (by omega), IntKind.wrap_u64]; unfold wrap64; omega
  rw [e1, e2, if_pos (by omega), if_pos (by omega), if_pos (by omega), hx]
  congr 1
  unfold shr
  rw [Int.toNat_natCast, Nat.min_eq_left (show 7 - i % 8 ≤ IntKind.u8.bits from by show _ ≤ 8; omega)]
  have h3 : (x : Int) / 2 ^ (7 - i % 8) = ((x / 2 ^ (7 - i % 8) : Nat) : Int) := by norm_cast
  have h4 : x / 2 ^ (7 - i % 8) < 256 := Nat.lt_of_le_of_lt (Nat.div_le_self _ _) hx8
  rw [h3]
  generalize x / 2 ^ (7 - i % 8) = z at *
  rw [show wrap64 ((z : Nat) : Int) = ((z : Nat) : Int) from by unfold wrap64; omega, Bc.and_one _ (by omega)]
def zeroFrom (l : List Int) (i d : Nat) : Prop := ∀ j, i ≤ j → j < i + d → ∀ x : Nat, rd l ((j / 8 : Nat) : Int) = (x : Int) → x / 2 ^ (7 - j % 8) % 2 = 0
theorem valid_loop {l : List Int} (hl : okL l) (hb : l.length ≤ 100000) (n : Int) (d : Nat) : ∀ i : Nat, i + d = 8 * l.length → (zeroFrom l i d ∧ Ev (fun k => synopticref07_Valid.l0 k (i : Int) l n) true) ∨ (¬ zeroFrom l i d ∧ Ev (fun k => synopticref07_Valid.l0 k (i : Int) l n) false) := by
  induction d with
  | zero =>
    intro i hi
    refine .inl ⟨fun j h1 h2 => by omega, Ev.succ ⟨0, fun k _ => ?_⟩⟩
    simp only [synopticref07_Valid.l0]
    rw [if_neg (by unfold wrap64; omega)]
  | succ d ih =>
    intro i hi
    have hc : (i : Int) < wrap64 (8 * (l.length : Int)) := by unfold wrap64; omega
    have e0 : wrap64 ((i : Int) + 1) = ((i + 1 : Nat) : Int) := by unfold wrap64; omega
    obtain ⟨x, hx, hr, ha⟩ := at_byte hl (n := n) (i := i) (by omega) (by omega)
    have hstep : ∀ r, (if x / 2 ^ (7 - i % 8) % 2 = 0 then Ev (fun k => synopticref07_Valid.l0 k ((i + 1 : Nat) : Int) l n) r else r = false) → Ev (fun k => synopticref07_Valid.l0 k (i : Int) l n) r := by
      intro r hr2
      refine Ev.succ ?_
      by_cases hz : x / 2 ^ (7 - i % 8) % 2 = 0
      · rw [if_pos hz] at hr2
        refine Ev.congr (fun k => ?_) hr2
        simp only [synopticref07_Valid.l0]
        rw [if_pos hc, ha, Option.bind_some, if_pos (by omega), e0]
      · rw [if_neg hz] at hr2
        subst hr2
        refine ⟨0, fun k _ => ?_⟩
        simp only [synopticref07_Valid.l0]
        rw [if_pos hc, ha, Option.bind_some, if_neg (by omega)]
    by_cases hz : x / 2 ^ (7 - i % 8) % 2 = 0
    · rcases ih (i + 1) (by omega) with ⟨h1, h2⟩ | ⟨h1, h2⟩
      · refine .inl ⟨fun j hj1 hj2 y hy => ?_, hstep true (by rw [if_pos hz]; exact h2)⟩
        by_cases hji : j = i
        · subst hji
          obtain rfl : x = y := by rw [hr] at hy; omega
          exact hz
        · exact h1 j (by omega) (by omega) y hy
      · exact .inr ⟨fun hall => h1 (fun j hj1 hj2 y hy => hall j (by omega) (by omega) y hy), hstep false (by rw [if_pos hz]; exact h2)⟩
    · exact .inr ⟨fun hall => hz (hall i (by omega) (by omega) x hr), hstep false (by rw [if_neg hz])⟩
theorem ref_valid {l : List Int} (hl : okL l) (n : Int) : ∃ b, bits_Valid.f l n = some b ∧ Ev (fun k => synopticref07_Valid.f k l n) b := by
  rw [valid_eq hl]
  have hj : ∀ r b, (if b = true then r = false else Ev (fun k => synopticref07_Valid.l0 k n l n) r) → Ev (fun k => synopticref07_Valid.j0 k b l n) r := by
    intro r b hr
    refine Ev.succ ?_
    cases b with
    | true =>
      simp only [if_true] at hr
      subst hr
      exact ⟨0, fun k _ => by simp only [synopticref07_Valid.j0, if_true]⟩
    | false =>
      simp only [Bool.false_eq_true, if_false] at hr
      refine Ev.congr (fun k => ?_) hr
      simp only [synopticref07_Valid.j0]
      rw [if_neg (by simp)]
  by_cases h0 : n < 0
  · refine ⟨false, by simp; omega, Ev.congr (fun k => ?_) (hj false true (by simp))⟩
    unfold synopticref07_Valid.f
    rw [if_pos h0]
  by_cases h1 : n > 40000
  · refine ⟨false, by simp; omega, Ev.congr (fun k => ?_) (hj false true (by simp))⟩
    unfold synopticref07_Valid.f
    rw [if_neg h0, if_pos h1]
  obtain ⟨m, rfl⟩ := Int.eq_ofNat_of_zero_le (show 0 ≤ n by omega)
  have es : wrap64 (Int.tdiv (wrap64 ((m : Int) + 7)) 8) = (((m + 7) / 8 : Nat) : Int) := by
    rw [show wrap64 ((m : Int) + 7) = ((m + 7 : Nat) : Int) from by unfold wrap64; omega, Int.tdiv_eq_ediv_of_nonneg (by omega)]
    unfold wrap64; omega
  by_cases h2 : (l.length : Int) = (((m + 7) / 8 : Nat) : Int)
  · have hf : ∀ r, Ev (fun k => synopticref07_Valid.l0 k (m : Int) l (m : Int)) r → Ev (fun k => synopticref07_Valid.f k l (m : Int)) r := by
      intro r hr
      refine Ev.congr (fun k => ?_) (hj r false (by simpa using hr))
      unfold synopticref07_Valid.f
      rw [if_neg h0, if_neg h1, es, h2]
      simp
    have hlm : l.length = (m + 7) / 8 := by omega
    have hkey : zeroFrom l m (8 * l.length - m) ↔ ((m : Int) % 8 = 0 ∨ rd l ((m : Int) / 8) % 2 ^ (8 - (m : Int) % 8).toNat = 0) := by
      by_cases h8 : m % 8 = 0
      · exact ⟨fun _ => .inl (by omega), fun _ j hj1 hj2 => by omega⟩
      · obtain ⟨x, hx, hr, _⟩ := at_byte hl (n := 0) (i := m) (by omega) (by omega)
        have hd : ((m : Int) / 8) = ((m / 8 : Nat) : Int) := by omega
        have ht : (8 - (m : Int) % 8).toNat = 8 - m % 8 := by omega
        rw [hd, hr, ht]
        have hc : (x : Int) % 2 ^ (8 - m % 8) = ((x % 2 ^ (8 - m % 8) : Nat) : Int) := by norm_cast
        rw [hc]
        constructor
        · intro hz
          refine .inr ?_
          have := bits_low ⟨x, hx⟩ ⟨m % 8, by omega⟩ (fun j hj => by
            have hj2 : m % 8 ≤ j.val := hj
            have h := hz (8 * (m / 8) + j.val) (by omega) (by omega) x (by rw [show (8 * (m / 8) + j.val) / 8 = m / 8 by omega]; exact hr)
            rw [show (8 * (m / 8) + j.val) % 8 = j.val by omega] at h
            exact h)
          simp only at this
          omega
        · rintro (h | h)
          · omega
          · intro j hj1 hj2 y hy
            have hjd : j / 8 = m / 8 := by omega
            rw [hjd, hr] at hy
            obtain rfl : x = y := by omega
            exact low_fin ⟨x, hx⟩ ⟨m % 8, by omega⟩ ⟨j % 8, by omega⟩ (by simp only; omega) (by simp only; exact_mod_cast h)
    rcases valid_loop hl (by omega) (m : Int) (8 * l.length - m) m (by omega) with ⟨hz, he⟩ | ⟨hz, he⟩
    · exact ⟨true, by congr 1; rw [decide_eq_true_iff]; exact ⟨by omega, by omega, by omega, hkey.1 hz⟩, hf true he⟩
    · exact ⟨false, by congr 1; rw [decide_eq_false_iff_not]; rintro ⟨_, _, _, h⟩; exact hz (hkey.2 h), hf false he⟩
  · refine ⟨false, by simp; omega, Ev.congr (fun k => ?_) (hj false true (by simp))⟩
    unfold synopticref07_Valid.f
    rw [if_neg h0, if_neg h1, es]
    congr 1
    simpa using h2
theorem ref_valid_pack {bs : List Bool} (h : bs.length ≤ 40000) : Ev (fun k => synopticref07_Valid.f k (pack bs) (bs.length : Int)) true := by
  obtain ⟨b, h1, h2⟩ := ref_valid (okL_pack bs) (bs.length : Int)
  rw [valid_pack h] at h1
  cases h1
  exact h2

/-! ### Read -/
def readV (bs : List Bool) (at_ : Nat) : Nat → Nat
  | 0 => 0
  | j + 1 => 2 * readV bs at_ j + bn bs (at_ + j)
theorem readV_succ (bs : List Bool) (at_ j : Nat) : readV bs at_ (j + 1) = 2 * readV bs at_ j + bn bs (at_ + j) := rfl
theorem wrap_two {x b : Nat} (hx : x < 16777216) (hb : b ≤ 1) : wrap64 (wrap64 (2 * (x : Int)) + (b : Int)) = ((2 * x + b : Nat) : Int) := by unfold wrap64; omega
theorem readV_lt (bs : List Bool) (at_ j : Nat) : readV bs at_ j < 2 ^ j := by
  induction j with
  | zero => simp [readV]
  | succ j ih => have := bn_le bs (at_ + j); rw [readV, Nat.pow_succ]; omega
theorem read_loop {bs : List Bool} (hb : bs.length ≤ 40000) {at_ w : Nat} (hw : w ≤ 24) (ha : at_ + w ≤ bs.length) (d : Nat) : ∀ j : Nat, j + d = w → Ev (fun k => bits_Read.l0 k (at_ : Int) (w : Int) ((readV bs at_ j : Nat) : Int) ((at_ + j : Nat) : Int) (pack bs) (bs.length : Int)) (((readV bs at_ w : Nat) : Int), 0) := by
  have e1 : wrap64 ((at_ : Int) + (w : Int)) = ((at_ + w : Nat) : Int) := by unfold wrap64; omega
  induction d with
  | zero =>
    intro j hj
    refine Ev.succ ⟨0, fun k _ => ?_⟩
    simp only [bits_Read.l0]
    rw [e1, if_neg (by omega), show j = w by omega]
  | succ d ih =>
    intro j hj
    refine Ev.succ ?_
    refine Ev.congr (fun k => ?_) (ih (j + 1) (by omega))
    simp only [bits_Read.l0]
    have h1 := readV_lt bs at_ j
    have h2 : 2 ^ j ≤ 2 ^ 24 := Nat.pow_le_pow_right (by omega) (by omega)
    have h3 := bn_le bs (at_ + j)
    rw [e1, if_pos (by omega), bit_pack (by omega) hb, Option.bind_some]
    rw [wrap_two (Nat.lt_of_lt_of_le h1 h2) h3, ← readV_succ]
    rw [show wrap64 (((at_ + j : Nat) : Int) + 1) = ((at_ + (j + 1) : Nat) : Int) from by unfold wrap64; omega]
theorem read_pack {bs : List Bool} (hb : bs.length ≤ 40000) {at_ w : Nat} (hw1 : 1 ≤ w) (hw : w ≤ 24) (ha : at_ + w ≤ bs.length) : Ev (fun k => bits_Read.f k (pack bs) (bs.length : Int) (at_ : Int) (w : Int)) (((readV bs at_ w : Nat) : Int), 0) := by
  have hwd : bits_width.f (w : Int) = some true := by unfold bits_width.f; rw [if_pos (by omega)]; simp; omega
  have h := read_loop hb hw ha w 0 (by omega)
  have hj : Ev (fun k => bits_Read.j0 k (at_ : Int) (w : Int) (decide ((at_ : Int) < 0)) (pack bs) (bs.length : Int)) (((readV bs at_ w : Nat) : Int), 0) := by
    refine Ev.succ (Ev.congr (fun k => ?_) h)
    simp only [bits_Read.j0]
    rw [if_neg (by simp), if_neg (by unfold wrap64; omega)]
    rw [readV, Nat.add_zero]
    congr 1
  refine Ev.congr (fun k => ?_) hj
  unfold bits_Read.f
  rw [valid_pack hb, Option.bind_some, if_pos rfl, hwd, Option.bind_some, if_pos rfl]
theorem bn_mid {ps qs cs : List Bool} {j : Nat} (h : j < qs.length) : bn (ps ++ qs ++ cs) (ps.length + j) = bn qs j := by
  unfold bn
  simp only [List.getD_eq_getElem?_getD]
  rw [List.append_assoc, List.getElem?_append_right (by omega), List.getElem?_append_left (by omega), Nat.add_sub_cancel_left]
theorem bn_bitsOf (v k : Nat) : ∀ j, j < k → bn (bitsOf v k) j = v / 2 ^ (k - 1 - j) % 2 := by
  induction k with
  | zero => intro j hj; omega
  | succ k ih =>
    intro j hj
    cases j with
    | zero =>
      unfold bn bitsOf
      simp only [List.getD_cons_zero, Nat.add_sub_cancel, Nat.sub_zero]
      have := Nat.mod_lt (v / 2 ^ k) (show 0 < 2 by omega)
      generalize v / 2 ^ k % 2 = y at *
      by_cases hy : y = 1
      · subst hy; rfl
      · obtain rfl : y = 0 := by omega
        rfl
    | succ j =>
      have := ih j (by omega)
      have e : bn (bitsOf v (k + 1)) (j + 1) = bn (bitsOf v k) j := by
        unfold bn
        rw [show bitsOf v (k + 1) = decide (v / 2 ^ k % 2 = 1) :: bitsOf v k from rfl, List.getD_cons_succ]
      rw [e, this]
      congr 3
      omega
theorem readV_back {ps cs : List Bool} {v k : Nat} (hv : v < 2 ^ k) : readV (ps ++ bitsOf v k ++ cs) ps.length k = v := by
  have h : ∀ j, j ≤ k → readV (ps ++ bitsOf v k ++ cs) ps.length j = v / 2 ^ (k - j) := by
    intro j
    induction j with
    | zero => intro _; rw [readV, Nat.sub_zero, Nat.div_eq_of_lt hv]
    | succ j ih =>
      intro hj
      rw [readV, ih (by omega), bn_mid (by rw [bitsOf_length]; omega), bn_bitsOf v k j (by omega)]
      rw [show k - j = (k - (j + 1)) + 1 by omega, show k - 1 - j = k - (j + 1) by omega, Nat.pow_succ, ← Nat.div_div_eq_div_mul]
      omega
  have := h k (Nat.le_refl k)
  rwa [Nat.sub_self, Nat.pow_zero, Nat.div_one] at this
end Go.Proofs.Yteeamcodapjccaa.Bi
