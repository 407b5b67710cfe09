/- The contract of certificate.Radius in the form that the printed texts have, where it has no error. -/
import Derived.Test.YteeamcodapjccaaCb
namespace Go.Proofs.Yteeamcodapjccaa.PCertificateLeast
open Go.RowKit Go.Proofs.YteeamcodapjccaaW.PrintWords Go.Proofs.YteeamcodapjccaaW.PrintLast Go.Proofs.YteeamcodapjccaaW.PrintMore
open Go.Proofs.Yteeamcodapjccaa.Cb
set_option linter.unusedVariables false
set_option linter.unusedSimpArgs false

theorem least_unique {sq a : Int} (ha : 0 ≤ a) {R R' : Nat} (h : IsLeast sq a R) (h' : IsLeast sq a R') : R = R' := by
  rcases Nat.lt_trichotomy R R' with hl | hl | hl
  · have := h'.2 R hl; have := h.1; omega
  · exact hl
  · have := h.2 R' hl; have := h'.1; omega
noncomputable def leastR (sq a : Int) : Nat := Classical.epsilon (IsLeast sq a)
theorem leastR_eq {sq a : Int} (ha : 0 ≤ a) {R : Nat} (h : IsLeast sq a R) : leastR sq a = R := least_unique ha (Classical.epsilon_spec ⟨R, h⟩) h
noncomputable def certificate_Radius.f (a0_0 : Int) (a0_1 : Int) (a1 : Int) : Option (Int × Int) :=
  if 1 ≤ a1 ∧ a1 ≤ 1000000 ∧ 0 ≤ a0_0 ∧ 0 ≤ a0_1 ∧ a0_1 < 18446744073709551616 ∧ a0_0 * 18446744073709551616 + a0_1 ≤ 21267647932558653966460912964485513216 then some ((leastR (a0_0 * 18446744073709551616 + a0_1) a1 : Int), 0) else none
theorem certificate_Radius.calls (a0_0 : Int) (a0_1 : Int) (a1 : Int) (r1 : Int) (r2 : Int) (w : World) (h : certificate_Radius.f a0_0 a0_1 a1 = some (r1, r2)) :
    Calls Try.prog 26 #[.agg #[.int .i64 a0_0, .int .u64 a0_1], .int .i64 a1] w fun e w' => e = .returned (.tuple #[.int .i64 r1, .int .i64 r2]) ∧ Below w.heap.size w w' := by
  unfold certificate_Radius.f at h
  split at h
  · rename_i hc
    obtain ⟨h1, h2, h3, h4, h5, h6⟩ := hc
    simp only [Option.some.injEq, Prod.mk.injEq] at h
    obtain ⟨rfl, rfl⟩ := h
    refine (radius_ok a0_0 a0_1 a1 w h1 h2 h3 h4 h5 h6).mono ?_
    rintro e w' ⟨⟨R, rfl, hR⟩, hb⟩
    exact ⟨by rw [leastR_eq (by omega) hR], hb⟩
  · cases h
end Go.Proofs.Yteeamcodapjccaa.PCertificateLeast
