/- Pure facts on products and comparisons of 128 bits, and the contract of certificate.Radius. -/
import Derived.Test.YteeamcodapjccaaCa
namespace Go.Proofs.Yteeamcodapjccaa.Cb
open Go.RowKit Go.Proofs.YteeamcodapjccaaW.PrintWords Go.Proofs.YteeamcodapjccaaW.PrintLast Go.Proofs.YteeamcodapjccaaW.PrintMore
open Go.Proofs.Yteeamcodapjccaa.PCertificateLeast
set_option linter.unusedVariables false
set_option linter.unusedSimpArgs false

theorem ofInt_u64 (a : Nat) (ha : a < 18446744073709551616) : (BitVec.ofInt 64 (a : Int)).toNat = a := by
  rw [BitVec.ofInt_natCast, BitVec.toNat_ofNat]; exact Nat.mod_eq_of_lt (by omega)
theorem and_low {a : Int} (h0 : 0 ≤ a) (h1 : a < 18446744073709551616) : Go.bits .and .u64 a 4294967295 = a % 4294967296 := by
  obtain ⟨n, rfl⟩ := Int.eq_ofNat_of_zero_le h0
  have e1 : (BitVec.ofInt 64 (4294967295 : Int)).toNat = 4294967295 := by decide
  show IntKind.u64.wrap ((BitVec.ofInt 64 (n : Int) &&& BitVec.ofInt 64 (4294967295 : Int)).toNat : Int) = _
  rw [BitVec.toNat_and, ofInt_u64 n (by omega), e1, show (4294967295 : Nat) = 2 ^ 32 - 1 by decide, Nat.and_two_pow_sub_one_eq_mod, IntKind.wrap_u64]
  rw [show (2 : Nat) ^ 32 = 4294967296 by decide]
  omega
theorem mul_bound {a b : Int} (ha : 0 ≤ a) (ha2 : a ≤ 4294967295) (hb : 0 ≤ b) (hb2 : b ≤ 4294967295) : 0 ≤ a * b ∧ a * b ≤ 18446744065119617025 := by
  refine ⟨Int.mul_nonneg ha hb, ?_⟩
  have := Int.mul_le_mul ha2 hb2 hb (by omega)
  omega
theorem expand (a b c d m : Int) : (a * m + b) * (c * m + d) = (a * c) * (m * m) + (a * d + b * c) * m + b * d := by
  rw [Int.add_mul, Int.mul_add, Int.mul_add, Int.add_mul]
  rw [show a * m * (c * m) = a * c * (m * m) from by rw [Int.mul_assoc, Int.mul_left_comm m c m, ← Int.mul_assoc]]
  rw [show a * m * d = a * d * m from by rw [Int.mul_assoc, Int.mul_comm m d, ← Int.mul_assoc]]
  rw [show b * (c * m) = b * c * m from by rw [Int.mul_assoc]]
  omega
theorem mul64 {x y : Int} (hx : 0 ≤ x) (hx2 : x < 18446744073709551616) (hy : 0 ≤ y) (hy2 : y < 18446744073709551616) : bits_Mul64.f x y = some (x * y / 18446744073709551616, x * y % 18446744073709551616) := by
  obtain ⟨a, ha⟩ : ∃ a, a = x / 4294967296 := ⟨_, rfl⟩
  obtain ⟨b, hb⟩ : ∃ b, b = x % 4294967296 := ⟨_, rfl⟩
  obtain ⟨c, hc⟩ : ∃ c, c = y / 4294967296 := ⟨_, rfl⟩
  obtain ⟨d, hd⟩ : ∃ d, d = y % 4294967296 := ⟨_, rfl⟩
  have ex : x = a * 4294967296 + b := by omega
  have ey : y = c * 4294967296 + d := by omega
  have hxy : x * y = (a * c) * 18446744073709551616 + (a * d + b * c) * 4294967296 + b * d := by
    rw [ex, ey, expand, show (4294967296 : Int) * 4294967296 = 18446744073709551616 by decide]
  unfold bits_Mul64.f
  rw [and_low hx hx2, and_low hy hy2, ← ha, ← hb, ← hc, ← hd]
  have b1 := mul_bound (a := a) (b := c) (by omega) (by omega) (by omega) (by omega)
  have b2 := mul_bound (a := a) (b := d) (by omega) (by omega) (by omega) (by omega)
  have b3 := mul_bound (a := b) (b := c) (by omega) (by omega) (by omega) (by omega)
  have b4 := mul_bound (a := b) (b := d) (by omega) (by omega) (by omega) (by omega)
  have hlo : IntKind.u64.wrap (x * y) = ((a * c) * 18446744073709551616 + (a * d + b * c) * 4294967296 + b * d) % 18446744073709551616 := by rw [IntKind.wrap_u64, hxy]
  rw [hlo, hxy]
  clear hxy hlo ex ey ha hb hc hd
  generalize a * c = P at *
  generalize a * d = Q at *
  generalize b * c = R at *
  generalize b * d = S at *
  have w : ∀ z : Int, 0 ≤ z → z < 18446744073709551616 → IntKind.u64.wrap z = z := fun z h1 h2 => by rw [IntKind.wrap_u64]; omega
  have hT : 0 ≤ Q + S / 4294967296 ∧ Q + S / 4294967296 < 18446744073709551616 := by omega
  have hU : 0 ≤ (Q + S / 4294967296) % 4294967296 + R ∧ (Q + S / 4294967296) % 4294967296 + R < 18446744073709551616 := by omega
  have hV : 0 ≤ P + (Q + S / 4294967296) / 4294967296 ∧ P + (Q + S / 4294967296) / 4294967296 < 18446744073709551616 := by omega
  rw [w P b1.1 (by omega), w Q b2.1 (by omega), w S b4.1 (by omega), w R b3.1 (by omega), w _ hT.1 hT.2, and_low hT.1 hT.2, w _ hU.1 hU.2, w _ hV.1 hV.2, w _ (by omega) (by omega)]
  congr 2
  omega
theorem product_sq {x : Int} (hx : 0 ≤ x) (hx2 : x ≤ 4611686018427387904) : precision_Product.f x x = some (x * x / 18446744073709551616, x * x % 18446744073709551616) := by
  unfold precision_Product.f
  have hw : IntKind.u64.wrap x = x := by rw [IntKind.wrap_u64]; omega
  rw [hw, mul64 hx (by omega) hx (by omega), Option.bind_some, if_neg (by omega), if_neg (by omega)]
  have h1 : 0 ≤ x * x := Int.mul_nonneg hx hx
  have h2 : x * x ≤ 4611686018427387904 * 4611686018427387904 := Int.mul_le_mul hx2 hx2 hx (by omega)
  congr 2
  unfold wrap64
  omega
def cmp2 (a b c d : Int) : Int := if a < c then -1 else if a > c then 1 else if b < d then -1 else if b > d then 1 else 0
theorem compare_eq (a b c d : Int) : ∀ k, 3 ≤ k → precision_Compare.f k a b c d = some (cmp2 a b c d) := by
  intro k hk
  obtain ⟨k, rfl⟩ : ∃ m, k = m + 3 := ⟨k - 3, by omega⟩
  have hn1 : ∀ z, cmp_isNaN_int.f z = some false := fun z => by unfold cmp_isNaN_int.f; simp
  have hn2 : ∀ z, cmp_isNaN_uint64.f z = some false := fun z => by unfold cmp_isNaN_uint64.f; simp
  have h1 : cmp_Compare_int.f a c = some (if a < c then -1 else if a > c then 1 else 0) := by
    unfold cmp_Compare_int.f
    rw [hn1, hn1, Option.bind_some, Option.bind_some, if_neg (by simp), if_neg (by simp)]
    repeat' split
    all_goals rfl
  have h2 : cmp_Compare_uint64.f b d = some (if b < d then -1 else if b > d then 1 else 0) := by
    unfold cmp_Compare_uint64.f
    rw [hn2, hn2, Option.bind_some, Option.bind_some, if_neg (by simp), if_neg (by simp)]
    repeat' split
    all_goals rfl
  unfold precision_Compare.f
  rw [h1, h2, Option.bind_some, Option.bind_some]
  have hor : ∀ p q : Int, cmp_Or_int.f (k + 3) [p, q] = some (if p = 0 then q else p) := by
    intro p q
    unfold cmp_Or_int.f
    simp only [cmp_Or_int.l0, List.length_cons, List.length_nil]
    by_cases hp : p = 0
    · by_cases hq : q = 0
      · subst hp hq; simp [rd, wrap64]
      · subst hp; simp [rd, wrap64, hq]
    · simp [rd, wrap64, hp]
  rw [hor, Option.bind_some]
  unfold cmp2
  congr 1
  repeat' split
  all_goals first | rfl | omega | (exfalso; simp at *)

/-- R is the least number whose square times that of a is at least sq. -/
def IsLeast (sq a : Int) (R : Nat) : Prop := sq ≤ ((R : Int) * a) * ((R : Int) * a) ∧ ∀ q : Nat, q < R → ((q : Int) * a) * ((q : Int) * a) < sq
theorem sq_mono {x y : Int} (h0 : 0 ≤ x) (h : x ≤ y) : x * x ≤ y * y := Int.mul_le_mul h h h0 (by omega)
theorem cmp_sq {p a00 a01 : Int} (hp : 0 ≤ p) (h0 : 0 ≤ a01) (h1 : a01 < 18446744073709551616) : decide (0 ≤ cmp2 (p / 18446744073709551616) (p % 18446744073709551616) a00 a01) = decide (a00 * 18446744073709551616 + a01 ≤ p) := by
  have h2 := Int.emod_nonneg p (show (18446744073709551616 : Int) ≠ 0 by omega)
  have h3 := Int.emod_lt_of_pos p (show (0 : Int) < 18446744073709551616 by omega)
  have h4 := Int.mul_ediv_add_emod p 18446744073709551616
  generalize p / 18446744073709551616 = u at *
  generalize p % 18446744073709551616 = v at *
  unfold cmp2
  congr 1
  rw [eq_iff_iff]
  repeat' split
  all_goals constructor <;> intro h <;> omega
theorem search_radius (a00 a01 a1 : Int) (n g2 g3 : Nat) (w : World) (hbd : 1 ≤ a1 ∧ a1 ≤ 1000000 ∧ 0 ≤ a00 ∧ 0 ≤ a01 ∧ a01 < 18446744073709551616 ∧ a00 * 18446744073709551616 + a01 ≤ 21267647932558653966460912964485513216) (hn : 4611686018427387904 / a1 + 1 = (n : Int)) (hcl : Ca.Cl w g2 g3 a00 a01 a1) :
    Calls Try.prog 44 #[.int .i64 (n : Int), .func (.func 43) #[] #[.pointer (some ⟨g3, 0, none⟩), .pointer (some ⟨g2, 0, none⟩)]] w fun e w' => (∃ R : Nat, e = .returned (.int .i64 (R : Int)) ∧ IsLeast (a00 * 18446744073709551616 + a01) a1 R) ∧ Below w.heap.size w w' := by
  obtain ⟨h1, h2, h3, h4, h5, h6⟩ := hbd
  have hdn := Int.ediv_nonneg (show (0 : Int) ≤ 4611686018427387904 by omega) (show 0 ≤ a1 by omega)
  have hdl : 4611686018427387904 / a1 ≤ 4611686018427387904 := Int.ediv_le_self _ (by omega)
  have hmul := Int.mul_ediv_add_emod 4611686018427387904 a1
  have hrem := Int.emod_lt_of_pos 4611686018427387904 (show 0 < a1 by omega)
  have hrem0 := Int.emod_nonneg 4611686018427387904 (show a1 ≠ 0 by omega)
  have hlim : ∀ i : Nat, i < n → 0 ≤ (i : Int) * a1 ∧ (i : Int) * a1 ≤ 4611686018427387904 := by
    intro i hi
    refine ⟨Int.mul_nonneg (by omega) (by omega), ?_⟩
    have := Int.mul_le_mul_of_nonneg_right (show (i : Int) ≤ 4611686018427387904 / a1 by omega) (show 0 ≤ a1 by omega)
    rw [Int.mul_comm (4611686018427387904 / a1) a1] at this
    omega
  refine (Ca.search_calls n (fun i => decide (a00 * 18446744073709551616 + a01 ≤ ((i : Int) * a1) * ((i : Int) * a1))) g2 g3 a00 a01 a1 w (by omega) hcl ?_ ?_).mono ?_
  · intro i j hij hj hi
    simp only [decide_eq_true_eq] at hi ⊢
    have := sq_mono (hlim i (by omega)).1 (Int.mul_le_mul_of_nonneg_right (show (i : Int) ≤ (j : Int) by omega) (show 0 ≤ a1 by omega))
    omega
  · intro i W hi hW
    have hl := hlim i hi
    have hw : wrap64 ((i : Int) * a1) = (i : Int) * a1 := by unfold wrap64; omega
    have hp := product_sq hl.1 hl.2
    rw [← hw] at hp
    have hc := compare_eq (wrap64 ((i : Int) * a1) * wrap64 ((i : Int) * a1) / 18446744073709551616) (wrap64 ((i : Int) * a1) * wrap64 ((i : Int) * a1) % 18446744073709551616) a00 a01 3 (by omega)
    have h := Ca.enough_calls 3 (i : Int) a1 a00 a01 _ _ _ g2 g3 W hW.1 hW.2 hp hc
    rw [hw, cmp_sq (Int.mul_nonneg hl.1 hl.1) h4 h5] at h
    exact h
  · rintro e w' ⟨⟨R, rfl, g1, g2', g3'⟩, hb⟩
    refine ⟨⟨R, rfl, ?_, fun q hq => ?_⟩, hb⟩
    · rcases Nat.lt_or_ge R n with h | h
      · have := g2' h
        simpa using this
      · obtain rfl : R = n := by omega
        have hbig : 4611686018427387904 ≤ (R : Int) * a1 := by
          rw [← hn, Int.add_mul, Int.mul_comm (4611686018427387904 / a1) a1]
          omega
        have := sq_mono (show (0 : Int) ≤ 4611686018427387904 by omega) hbig
        omega
    · have := g3' q hq
      simp only [decide_eq_false_iff_not] at this
      omega
set_option maxHeartbeats 2000000 in
set_option maxRecDepth 100000 in
theorem radius_ok (a00 a01 a1 : Int) (w : World) (h1 : 1 ≤ a1) (h2 : a1 ≤ 1000000) (h3 : 0 ≤ a00) (h4 : 0 ≤ a01) (h5 : a01 < 18446744073709551616) (h6 : a00 * 18446744073709551616 + a01 ≤ 21267647932558653966460912964485513216) :
    Calls Try.prog 26 #[.agg #[.int .i64 a00, .int .u64 a01], .int .i64 a1] w fun e w' => (∃ R : Nat, e = .returned (.tuple #[.int .i64 (R : Int), .int .i64 0]) ∧ IsLeast (a00 * 18446744073709551616 + a01) a1 R) ∧ Below w.heap.size w w' := by
  have HB := Aside0.mk (Below.refl w.heap.size w)
  have HP : Aside0 (precision_Product.f 4611686018427387904 4611686018427387904 = some (1152921504606846976, 0)) := ⟨product_sq (x := 4611686018427387904) (by omega) (by omega)⟩
  obtain ⟨r, hr⟩ : ∃ r, r = cmp2 a00 a01 1152921504606846976 0 := ⟨_, rfl⟩
  have HC : Aside0 (precision_Compare.f 3 a00 a01 1152921504606846976 0 = some r) := ⟨by rw [hr]; exact compare_eq _ _ _ _ 3 (by omega)⟩
  have hr0 : r ≤ 0 := by rw [hr]; unfold cmp2; repeat' split <;> omega
  clear hr
  have HBD : Aside0 (1 ≤ a1 ∧ a1 ≤ 1000000 ∧ 0 ≤ a00 ∧ 0 ≤ a01 ∧ a01 < 18446744073709551616 ∧ a00 * 18446744073709551616 + a01 ≤ 21267647932558653966460912964485513216) := ⟨h1, h2, h3, h4, h5, h6⟩
  have H1 : decide (a1 < 1) = false := decide_eq_false (by omega)
  have H2 : decide (1000000 < a1) = false := decide_eq_false (by omega)
  have H3 : decide (a00 < 0) = false := decide_eq_false (by omega)
  have H4 : decide (0 < r) = false := decide_eq_false (by omega)
  clear h2 h3 h4 h5 h6 hr0
  go_enter Try.func26, Try.ntmps26
  go_wp2_with (first
    | ((with_reducible refine gate_dst (N := 2) rfl ?_); refine box_event ?hg (N := 2) ?hd (cs := #[.int .i64 a00, .int .u64 a01]) (t := 49) ?hr ?_; (case hd => rfl); (case hg => rfl); (case hr => first | (go_simp; done) | (go_simp; rfl)); intro g2 hg w1 hbox hb; have B2 := Aside0.mk hbox; have GE2 := Aside0.mk (Nat.le_of_eq hg.symm : w.heap.size ≤ g2); replace HB := Aside0.mk (below_step HB.out hb); clear hg hbox hb)
    | ((with_reducible refine gate_dst (N := 3) rfl ?_); refine box_event ?hg (N := 3) ?hd (cs := #[.int .i64 a1]) (t := 3) ?hr ?_; (case hd => rfl); (case hg => rfl); (case hr => first | (go_simp; done) | (go_simp; rfl)); intro g3 hg w2 hbox hb; have B3 := Aside0.mk hbox; replace B2 := Aside0.mk (blk_below B2.out hb); replace HB := Aside0.mk (below_step HB.out hb); clear hg hbox hb))
  have c3 : w2.cell? ⟨g3, 0, none⟩ = some (.int .i64 a1) := (blk_cell B3.out 0).trans rfl
  have c20 : w2.cell? ⟨g2, 0, none⟩ = some (.int .i64 a00) := (blk_cell B2.out 0).trans rfl
  have c21 : w2.cell? ⟨g2, 1, none⟩ = some (.int .u64 a01) := (blk_cell B2.out 1).trans rfl
  go_region_held3 (fun w' => w'.cell? ⟨g3, 0, none⟩ = some (.int .i64 a1) ∧ w'.cell? ⟨g2, 0, none⟩ = some (.int .i64 a00) ∧ w'.cell? ⟨g2, 1, none⟩ = some (.int .u64 a01))
    (first
      | (go_split_ands; refine ⟨?_, ?_, ?_⟩ <;> exact pw_cell_below hb (by assumption))
      | (go_split_ands; refine ⟨?_, ?_, ?_⟩ <;> assumption)
      | (refine ⟨?_, ?_, ?_⟩ <;> assumption))
    (first
      | (go_at_call 28; with_reducible refine (precision_Product.calls _ _ _ _ _ HP.out).mono ?_; rintro e w' ⟨rfl, hb⟩; replace B2 := Aside0.mk (blk_below (blk_drew B2.out) hb); replace B3 := Aside0.mk (blk_below (blk_drew B3.out) hb); replace HB := Aside0.mk (below_step (below_drew1 HB.out) hb))
      | (go_at_call 27; with_reducible refine (precision_Compare.calls 3 _ _ _ _ _ _ HC.out).mono ?_; rintro e w' ⟨rfl, hb⟩; replace B2 := Aside0.mk (blk_below B2.out hb); replace B3 := Aside0.mk (blk_below B3.out hb); replace HB := Aside0.mk (below_step HB.out hb)))
  clear c3 c20 c21
  have c3 : w'.cell? ⟨g3, 0, none⟩ = some (.int .i64 a1) := (blk_cell B3.out 0).trans rfl
  have HCL : Aside0 (Ca.Cl w' g2 g3 a00 a01 a1) := ⟨B2.out, B3.out⟩
  go_wp2_with fail
  obtain ⟨n, hn⟩ := Int.eq_ofNat_of_zero_le (show 0 ≤ 4611686018427387904 / a1 + 1 by have := Int.ediv_nonneg (show (0 : Int) ≤ 4611686018427387904 by omega) (show 0 ≤ a1 by omega); omega)
  have hdl : 4611686018427387904 / a1 ≤ 4611686018427387904 := Int.ediv_le_self _ (by omega)
  rw [show wrap64 (4611686018427387904 / a1 + 1) = (n : Int) from by rw [← hn]; unfold wrap64; have := Int.ediv_nonneg (show (0 : Int) ≤ 4611686018427387904 by omega) (show 0 ≤ a1 by omega); omega]
  have HS := search_radius a00 a01 a1 n g2 g3 w' HBD.out hn HCL.out
  refine HS.mono ?_
  rintro e w5 ⟨⟨R, rfl, hR⟩, hb⟩
  have HR := Aside0.mk hR
  replace HB := Aside0.mk (below_step HB.out hb)
  clear hR hb HS hn hdl
  go_wp2
  go_ret2
  exact ⟨⟨R, rfl, HR.out⟩, HB.out⟩
end Go.Proofs.Yteeamcodapjccaa.Cb
