/- The contracts of the closure in certificate.Radius, of sort.Search over it, and of Radius. -/
import Derived.Test.YteeamcodapjccaaPCertificateLeastx
import Derived.Deep.RegionHeld3
import Derived.RegionTactic
import Derived.BigRegion
namespace Go.Proofs.Yteeamcodapjccaa.Ca
open Go.RowKit Go.Proofs.YteeamcodapjccaaW.PrintWords Go.Proofs.YteeamcodapjccaaW.PrintLast Go.Proofs.YteeamcodapjccaaW.PrintMore
open Go.Proofs.Yteeamcodapjccaa.PCertificateLeast
set_option linter.unusedVariables false
set_option linter.unusedSimpArgs false

set_option maxHeartbeats 400000 in
set_option maxRecDepth 100000 in
/-- The closure: is the square of i times the anchor at least the number? -/
theorem enough_calls (k : Nat) (i a1 a00 a01 p0 p1 r : Int) (g2 g3 : Nat) (w : World) (h2 : w.heap[g2]? = some (.cells #[.int .i64 a00, .int .u64 a01] 49 (0, 0))) (h3 : w.heap[g3]? = some (.cells #[.int .i64 a1] 3 (0, 0)))
    (hp : precision_Product.f (wrap64 (i * a1)) (wrap64 (i * a1)) = some (p0, p1)) (hc : precision_Compare.f k p0 p1 a00 a01 = some r) :
    Calls Try.prog 43 #[.int .i64 i, .pointer (some ⟨g3, 0, none⟩), .pointer (some ⟨g2, 0, none⟩)] w fun e w' => e = .returned (.bool (decide (0 ≤ r))) ∧ Below w.heap.size w w' := by
  have HB := Aside0.mk (Below.refl w.heap.size w)
  rw [← i64_w] at hp
  have HP := Aside0.mk hp
  have HC := Aside0.mk hc
  have c3 : w.cell? ⟨g3, 0, none⟩ = some (.int .i64 a1) := (blk_cell h3 0).trans rfl
  have c20 : w.cell? ⟨g2, 0, none⟩ = some (.int .i64 a00) := (blk_cell h2 0).trans rfl
  have c21 : w.cell? ⟨g2, 1, none⟩ = some (.int .u64 a01) := (blk_cell h2 1).trans rfl
  clear h2 h3 hp hc
  go_enter Try.func43, Try.ntmps43
  go_wp2
  go_region_held3 (fun w' => w'.cell? ⟨g3, 0, none⟩ = some (.int .i64 a1) ∧ w'.cell? ⟨g2, 0, none⟩ = some (.int .i64 a00) ∧ w'.cell? ⟨g2, 1, none⟩ = some (.int .u64 a01))
    (first
      | (go_split_ands; refine ⟨?_, ?_, ?_⟩ <;> exact pw_cell_below hb (by assumption))
      | (go_split_ands; refine ⟨?_, ?_, ?_⟩ <;> assumption)
      | (refine ⟨?_, ?_, ?_⟩ <;> assumption))
    (first
      | (go_at_call 28; with_reducible refine (precision_Product.calls _ _ _ _ _ HP.out).mono ?_; rintro e w' ⟨rfl, hb⟩; replace HB := Aside0.mk (below_step (below_drew1 HB.out) hb))
      | (go_at_call 27; with_reducible refine (precision_Compare.calls k _ _ _ _ _ _ HC.out).mono ?_; rintro e w' ⟨rfl, hb⟩; replace HB := Aside0.mk (below_step HB.out hb)))
  go_wp2
  go_ret
  exact ⟨rfl, HB.out⟩

theorem mid_eq {i j : Nat} (hij : i < j) (hj : j ≤ 4611686018427387905) : wrap64 (IntKind.u64.wrap (wrap64 ((i : Int) + (j : Int))) / 2) = (((i + j) / 2 : Nat) : Int) := by
  rw [IntKind.wrap_u64]
  unfold wrap64
  omega
/-- The state that the closure reads. -/
def Cl (w : World) (g2 g3 : Nat) (a00 a01 a1 : Int) : Prop := w.heap[g2]? = some (.cells #[.int .i64 a00, .int .u64 a01] 49 (0, 0)) ∧ w.heap[g3]? = some (.cells #[.int .i64 a1] 3 (0, 0))
theorem Cl.below {w w1 : World} {g2 g3 : Nat} {a00 a01 a1 : Int} (h : Cl w g2 g3 a00 a01 a1) (hb : Below w.heap.size w w1) : Cl w1 g2 g3 a00 a01 a1 := ⟨blk_below h.1 hb, blk_below h.2 hb⟩
set_option maxHeartbeats 2000000 in
set_option maxRecDepth 100000 in
theorem search_calls (n : Nat) (pred : Nat → Bool) (g2 g3 : Nat) (a00 a01 a1 : Int) (w : World) (hn : n ≤ 4611686018427387905) (hcl : Cl w g2 g3 a00 a01 a1) (hmono : ∀ i j, i ≤ j → j < n → pred i = true → pred j = true)
    (hcall : ∀ (i : Nat) (W : World), i < n → Cl W g2 g3 a00 a01 a1 → Calls Try.prog 43 #[.int .i64 (i : Int), .pointer (some ⟨g3, 0, none⟩), .pointer (some ⟨g2, 0, none⟩)] W fun e w' => e = .returned (.bool (pred i)) ∧ Below W.heap.size W w') :
    Calls Try.prog 44 #[.int .i64 (n : Int), .func (.func 43) #[] #[.pointer (some ⟨g3, 0, none⟩), .pointer (some ⟨g2, 0, none⟩)]] w fun e w' => (∃ r : Nat, e = .returned (.int .i64 (r : Int)) ∧ r ≤ n ∧ (r < n → pred r = true) ∧ ∀ i, i < r → pred i = false) ∧ Below w.heap.size w w' := by
  have HN := Aside0.mk hn
  have HCL := Aside0.mk hcl
  have HM := Aside0.mk hmono
  have HCALL := Aside0.mk hcall
  clear hn hcl hmono hcall
  go_enter Try.func44, Try.ntmps44
  go_wp2
  go_loopg [5, 6] n (fun kq v5 v6 w' => ∃ i j : Nat, v5 = .int .i64 (i : Int) ∧ v6 = .int .i64 (j : Int) ∧ Aside0 (i ≤ j ∧ j ≤ n ∧ j - i ≤ kq ∧ (j < n → pred j = true) ∧ ∀ q, q < i → pred q = false) ∧ Aside0 (Below w.heap.size w w'))
  case atStart => exact ⟨0, n, rfl, rfl, ⟨by omega, by omega, by omega, fun h => absurd h (by omega), fun q hq => by omega⟩, ⟨Below.refl _ _⟩⟩
  case round =>
    obtain ⟨i, j, rfl, rfl, HI, HB⟩ := hrel
    by_cases hij : i < j
    · have hd : decide (i < j) = true := decide_eq_true hij
      have HMID := Aside0.mk (mid_eq hij (by have := HI.out.2.1; have := HN.out; omega))
      obtain ⟨m, hm⟩ : ∃ m, m = (i + j) / 2 := ⟨_, rfl⟩
      have HMD := Aside0.mk hm
      have HCW := Aside0.mk (HCL.out.below HB.out)
      rw [← hm] at HMID
      clear hm
      have hmb : (m : Int) < 4611686018427387905 := by have := HMD.out; have := HI.out.2.1; have := HN.out; omega
      cases hp : pred m with
      | true =>
        have HPT := Aside0.mk hp
        clear hp
        go_wp2_with fail
        rw [HMID.out]
        refine (HCALL.out m _ (by have := HMD.out; have := HI.out.2.1; omega) HCW.out).mono ?_
        rintro e w5 ⟨rfl, hb⟩
        rw [HPT.out]
        go_wp2
        go_roundg (gk - 1)
        case measure => have := HI.out; omega
        case rel => exact ⟨i, m, rfl, rfl, ⟨by have := HMD.out; omega, by have := HMD.out; have := HI.out.2.1; omega, by have := HMD.out; have := HI.out.2.2.1; omega, fun _ => HPT.out, HI.out.2.2.2.2⟩, ⟨below_step HB.out hb⟩⟩
      | false =>
        have HPF := Aside0.mk hp
        clear hp
        go_wp2_with fail
        rw [HMID.out]
        refine (HCALL.out m _ (by have := HMD.out; have := HI.out.2.1; omega) HCW.out).mono ?_
        rintro e w5 ⟨rfl, hb⟩
        rw [HPF.out]
        go_wp2
        go_roundg (gk - 1)
        case measure => have := HI.out; omega
        case rel => exact ⟨m + 1, j, by congr 1, rfl, ⟨by have := HMD.out; omega, HI.out.2.1, by have := HMD.out; have := HI.out.2.2.1; omega, HI.out.2.2.2.1, fun q hq => by
          cases hq2 : pred q with
          | false => rfl
          | true =>
            have := HM.out q m (by omega) (by have := HMD.out; have := HI.out.2.1; omega) hq2
            rw [HPF.out] at this
            cases this⟩, ⟨below_step HB.out hb⟩⟩
    · have hd : decide (i < j) = false := decide_eq_false hij
      go_wp2
      go_ret
      obtain ⟨h1, h2, h3, h4, h5⟩ := HI.out
      have : i = j := by omega
      subst this
      exact ⟨⟨i, rfl, h2, h4, h5⟩, HB.out⟩

end Go.Proofs.Yteeamcodapjccaa.Ca
