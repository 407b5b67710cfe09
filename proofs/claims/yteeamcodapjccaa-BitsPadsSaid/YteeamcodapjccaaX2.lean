-- by xprint.py, a program of this session, out of the kit's printer
import Derived.Test.YteeamcodapjccaaX0
import Derived.Test.YteeamcodapjccaaX1
namespace Go.Proofs.Yteeamcodapjccaa.X
open Go.RowKit Go.Proofs.YteeamcodapjccaaW.PrintWords Go.Proofs.YteeamcodapjccaaW.PrintLast Go.Proofs.YteeamcodapjccaaW.PrintMore
open Go.Proofs.Yteeamcodapjccaa.PBitsAnswers
attribute [local go_sem] max2_int min2_int max_two min_two max_three min_three max_four min_four   -- for this text's walks alone
set_option linter.unusedVariables false
set_option linter.unusedSimpArgs false

/-! ### synopticlaw07_BitsPads: function 3 -/
mutual
def synopticlaw07_BitsPads.l0 : Nat → List Int → Int → List Int → Int → Option (Bool)
  | 0, _, _, _, _ => none
  | k + 1, x4, x5, x151000, x151001 => if x5 > 0 then ((synoptickeep_Src_N.f x151000 x151001 2).bind fun bt153 => (if x4.length < 17592186044416 then (synopticlaw07_BitsPads.l0 k (x4 ++ [bt153.1]) (wrap64 (x5 - 1)) x151000 bt153.2) else (none))) else ((synopticref07_Of.f k x4).bind fun bt158 => ((bits_Pad.f bt158.1 bt158.2).bind fun bt163 => ((bits_Pad.f bt163.1 bt163.2.1).bind fun bt169 => (if bt163.2.2 = 0 then (if bt169.2.2 = 0 then (if (Int.tmod bt163.2.1 8) = 0 then (if bt163.2.1 < bt158.2 then (synopticlaw07_BitsPads.j1 k x4 true bt158.1 bt158.2 bt163.1 bt163.2.1) else (if bt163.2.1 ≥ (wrap64 (bt158.2 + 8)) then (synopticlaw07_BitsPads.j1 k x4 true bt158.1 bt158.2 bt163.1 bt163.2.1) else ((synopticref07_Valid.f k bt163.1 bt163.2.1).bind fun t175 => (if t175 = true then ((synopticref07_Same.f bt163.1 bt163.2.1 bt169.1 bt169.2.1).bind fun t176 => (synopticlaw07_BitsPads.j1 k x4 (!t176) bt158.1 bt158.2 bt163.1 bt163.2.1)) else (synopticlaw07_BitsPads.j1 k x4 true bt158.1 bt158.2 bt163.1 bt163.2.1))))) else (synopticlaw07_BitsPads.j1 k x4 true bt158.1 bt158.2 bt163.1 bt163.2.1)) else (synopticlaw07_BitsPads.j1 k x4 true bt158.1 bt158.2 bt163.1 bt163.2.1)) else (synopticlaw07_BitsPads.j1 k x4 true bt158.1 bt158.2 bt163.1 bt163.2.1)))))
def synopticlaw07_BitsPads.j1 : Nat → List Int → Bool → List Int → Int → List Int → Int → Option (Bool)
  | 0, _, _, _, _, _, _ => none
  | k + 1, x4, x75, x163000, x163001, x169000, x169001 => if x75 = true then (some false) else (synopticlaw07_BitsPads.l1 k x4 0 x163000 x163001 x169000 x169001)
def synopticlaw07_BitsPads.l1 : Nat → List Int → Int → List Int → Int → List Int → Int → Option (Bool)
  | 0, _, _, _, _, _, _ => none
  | k + 1, x4, x11, x163000, x163001, x169000, x169001 => if x11 < x169001 then (if x11 < x163001 then (if 0 ≤ x11 then (if x11 < (x4.length : Int) then ((synopticref07_At.f x169000 x169001 x11).bind fun t179 => (if t179 = (rd x4 x11) then (synopticlaw07_BitsPads.l1 k x4 (wrap64 (x11 + 1)) x163000 x163001 x169000 x169001) else (some false))) else (none)) else (none)) else ((synopticref07_At.f x169000 x169001 x11).bind fun t180 => (if t180 = 0 then (synopticlaw07_BitsPads.l1 k x4 (wrap64 (x11 + 1)) x163000 x163001 x169000 x169001) else (some false)))) else ((synopticlaw07_awake.f).bind fun t177 => (some t177))
end
def synopticlaw07_BitsPads.f (k : Nat) (l0 : List Int) : Option (Bool) := (synoptickeep_New.f l0).bind fun bt148 => ((synoptickeep_Src_N.f bt148.1 bt148.2 50).bind fun bt151 => (synopticlaw07_BitsPads.l0 k ([] : List Int) bt151.1 bt148.1 bt151.2))
theorem synopticlaw07_BitsPads.mono_l : ∀ k, (∀ y0 y1 y2 y3, LeO (synopticlaw07_BitsPads.l0 k y0 y1 y2 y3) (synopticlaw07_BitsPads.l0 (k + 1) y0 y1 y2 y3)) ∧ (∀ y0 y1 y2 y3 y4 y5, LeO (synopticlaw07_BitsPads.j1 k y0 y1 y2 y3 y4 y5) (synopticlaw07_BitsPads.j1 (k + 1) y0 y1 y2 y3 y4 y5)) ∧ (∀ y0 y1 y2 y3 y4 y5, LeO (synopticlaw07_BitsPads.l1 k y0 y1 y2 y3 y4 y5) (synopticlaw07_BitsPads.l1 (k + 1) y0 y1 y2 y3 y4 y5))
  | 0 => ⟨fun _ _ _ _ r h => by simp [synopticlaw07_BitsPads.l0] at h, fun _ _ _ _ _ _ r h => by simp [synopticlaw07_BitsPads.j1] at h, fun _ _ _ _ _ _ r h => by simp [synopticlaw07_BitsPads.l1] at h⟩
  | k + 1 => by
    obtain ⟨ih0, ih1, ih2⟩ := synopticlaw07_BitsPads.mono_l k
    refine ⟨?_, ?_, ?_⟩
    · intro y0 y1 y2 y3
      unfold synopticlaw07_BitsPads.l0
      repeat' first
      | (with_reducible exact ih0 _ _ _ _)
      | (with_reducible exact ih1 _ _ _ _ _ _)
      | (with_reducible exact ih2 _ _ _ _ _ _)
      | (with_reducible exact synopticref07_Of.mono _ _)
      | (with_reducible exact synopticref07_Valid.mono _ _ _)
      | (with_reducible exact LeO.refl _)
      | (with_reducible exact LeO.none _)
      | (with_reducible refine LeO.ite ?_ ?_)
      | (with_reducible refine LeO.bind ?_ (fun _ => ?_))
      | exact ih0 _ _ _ _
      | exact ih1 _ _ _ _ _ _
      | exact ih2 _ _ _ _ _ _
      | exact synopticref07_Of.mono _ _
      | exact synopticref07_Valid.mono _ _ _
      | exact LeO.none _
      | refine LeO.ite ?_ ?_
      | refine LeO.bind ?_ (fun _ => ?_)
    · intro y0 y1 y2 y3 y4 y5
      unfold synopticlaw07_BitsPads.j1
      repeat' first
      | (with_reducible exact ih0 _ _ _ _)
      | (with_reducible exact ih1 _ _ _ _ _ _)
      | (with_reducible exact ih2 _ _ _ _ _ _)
      | (with_reducible exact synopticref07_Of.mono _ _)
      | (with_reducible exact synopticref07_Valid.mono _ _ _)
      | (with_reducible exact LeO.refl _)
      | (with_reducible exact LeO.none _)
      | (with_reducible refine LeO.ite ?_ ?_)
      | (with_reducible refine LeO.bind ?_ (fun _ => ?_))
      | exact ih0 _ _ _ _
      | exact ih1 _ _ _ _ _ _
      | exact ih2 _ _ _ _ _ _
      | exact synopticref07_Of.mono _ _
      | exact synopticref07_Valid.mono _ _ _
      | exact LeO.none _
      | refine LeO.ite ?_ ?_
      | refine LeO.bind ?_ (fun _ => ?_)
    · intro y0 y1 y2 y3 y4 y5
      unfold synopticlaw07_BitsPads.l1
      repeat' first
      | (with_reducible exact ih0 _ _ _ _)
      | (with_reducible exact ih1 _ _ _ _ _ _)
      | (with_reducible exact ih2 _ _ _ _ _ _)
      | (with_reducible exact synopticref07_Of.mono _ _)
      | (with_reducible exact synopticref07_Valid.mono _ _ _)
      | (with_reducible exact LeO.refl _)
      | (with_reducible exact LeO.none _)
      | (with_reducible refine LeO.ite ?_ ?_)
      | (with_reducible refine LeO.bind ?_ (fun _ => ?_))
      | exact ih0 _ _ _ _
      | exact ih1 _ _ _ _ _ _
      | exact ih2 _ _ _ _ _ _
      | exact synopticref07_Of.mono _ _
      | exact synopticref07_Valid.mono _ _ _
      | exact LeO.none _
      | refine LeO.ite ?_ ?_
      | refine LeO.bind ?_ (fun _ => ?_)
theorem synopticlaw07_BitsPads.mono : ∀ a0 k, LeO (synopticlaw07_BitsPads.f k a0) (synopticlaw07_BitsPads.f (k + 1) a0) := by
  intro a0 k
  obtain ⟨ih0, ih1, ih2⟩ := synopticlaw07_BitsPads.mono_l k
  unfold synopticlaw07_BitsPads.f
  repeat' first
      | (with_reducible exact ih0 _ _ _ _)
      | (with_reducible exact ih1 _ _ _ _ _ _)
      | (with_reducible exact ih2 _ _ _ _ _ _)
      | (with_reducible exact synopticref07_Of.mono _ _)
      | (with_reducible exact synopticref07_Valid.mono _ _ _)
      | (with_reducible exact LeO.refl _)
      | (with_reducible exact LeO.none _)
      | (with_reducible refine LeO.ite ?_ ?_)
      | (with_reducible refine LeO.bind ?_ (fun _ => ?_))
      | exact ih0 _ _ _ _
      | exact ih1 _ _ _ _ _ _
      | exact ih2 _ _ _ _ _ _
      | exact synopticref07_Of.mono _ _
      | exact synopticref07_Valid.mono _ _ _
      | exact LeO.none _
      | refine LeO.ite ?_ ?_
      | refine LeO.bind ?_ (fun _ => ?_)
set_option maxHeartbeats 8000000 in
set_option maxRecDepth 100000 in
theorem synopticlaw07_BitsPads.calls (k : Nat) (A0 : Option Addr) (c0 : Nat) (l0 : List Int) (r : Bool) (w : World) (hr0 : Kd.C (Kd.int .i64) w A0 l0.length l0) (hc0 : l0.length ≤ c0) (h : synopticlaw07_BitsPads.f k l0 = some r) :
    Calls Try.prog 3 #[.slice A0 l0.length c0] w fun e w' => e = .returned (.bool r) ∧ Below w.heap.size w w' := by
  have hu28 := Try.underlying28
  have HR0 := Aside0.mk hr0
  have HC0 := Aside0.mk hc0
  clear hr0 hc0
  have HB := Aside0.mk (Below.refl w.heap.size w)
  have H : ((synoptickeep_New.f l0).bind fun bt148 => ((synoptickeep_Src_N.f bt148.1 bt148.2 50).bind fun bt151 => (synopticlaw07_BitsPads.l0 k ([] : List Int) bt151.1 bt148.1 bt151.2))) = some r := h
  clear h
  replace H := Option.bind_eq_some_iff.mp H
  obtain ⟨⟨t148, t149⟩, A20, H⟩ := H
  replace H : ((synoptickeep_Src_N.f t148 t149 50).bind fun bt151 => (synopticlaw07_BitsPads.l0 k ([] : List Int) bt151.1 t148 bt151.2)) = some r := H
  have A2 := Aside0.mk A20
  clear A20
  replace H := Option.bind_eq_some_iff.mp H
  obtain ⟨⟨t151, t152⟩, A30, H⟩ := H
  replace H : (synopticlaw07_BitsPads.l0 k ([] : List Int) t151 t148 t152) = some r := H
  have A3 := Aside0.mk A30
  clear A30
  have H' := Aside0.mk H
  clear H
  go_enter Try.func3, Try.ntmps3
  go_wp2_with (first | ((with_reducible refine gate_callee (f := 9) rfl ?_); refine goesL_ (some 14) rfl rfl Try.func9 (by kernel_rfl) rfl #[.slice A0 l0.length c0] rfl (by (try simp only [List.map_toArray, List.map_cons, List.map_nil]); first | done | rfl | (simp only [List.length_drop, List.length_take]; rfl)) ?_; (with_reducible refine (synoptickeep_New.calls _ _ l0 t148 t149 w _ ?side1 ?side2 ?side3 A2.out).mono ?_); (case side1 => repeat (first | (with_reducible first | exact HB.out | apply below_alloc | apply pw_below_drewN | apply below_drew1) | exact HB.out)); (case side2 => exact HR0.out); (case side3 => exact HC0.out); rintro e w4 ⟨g150, rfl, hi, hb, hb2⟩; refine ⟨_, rfl, ?_⟩; have n0_ := Aside0.mk (hb); have n1_ := Aside0.mk (hi); clear HB; have HB := n0_; have HI150 := n1_; clear n0_ n1_; (try clear hb); (try clear hb2); (try clear hk); (try clear hi)) | ((with_reducible refine gate_callee (f := 10) rfl ?_); refine goesL_ (some 16) rfl rfl Try.func10 (by kernel_rfl) rfl #[.pointer (some ⟨g150, 0, none⟩), .int .i64 50] rfl (by (try simp only [List.map_toArray, List.map_cons, List.map_nil]); first | done | rfl | (simp only [List.length_drop, List.length_take]; rfl)) ?_; (with_reducible refine (synoptickeep_Src_N.calls g150 t148 t149 50 t151 t152 w _ ?side1 ?side2 A3.out).mono ?_); (case side1 => repeat (first | (with_reducible first | exact HI150.out | apply IsS60.alloc | apply IsS60.drewN | apply IsS60.drew | apply IsS60.set_1) | exact HI150.out)); (case side2 => repeat (first | (with_reducible first | exact HB.out | apply below_alloc | apply pw_below_drewN | apply below_drew1 | refine below_set ?_ (IsS60.ge HI150.out)) | exact HB.out)); rintro e w5 ⟨rfl, hi, hb, hk⟩; refine ⟨_, rfl, ?_⟩; have n0_ := Aside0.mk (hb); have n1_ := Aside0.mk (hi); clear HB; clear HI150; have HB := n0_; have HI150 := n1_; clear n0_ n1_; (try clear hb); (try clear hb2); (try clear hk); (try clear hi)))
  go_loopg [4, 5] k (fun kq v4 v5 w' => ∃ (x4_1 : List Int) (x5_1 : Int) (x151001_1 : Int), v5 = .int .i64 x5_1 ∧ Aside0 (synopticlaw07_BitsPads.l0 kq x4_1 x5_1 t148 x151001_1 = some r) ∧ Aside0 (kq ≤ k) ∧ Aside0 (Kd.R (Kd.int .i64) 3 w' w.heap.size (fun _ => True) v4 x4_1) ∧ Aside0 (IsS60 w w' g150 t148 x151001_1) ∧ Aside0 (Below w.heap.size w w'))
  case atStart => exact ⟨(([] : List Int)), (t151), (t152), (by first | rfl | (simp; done) | (simp [*]; done)), H', ⟨Nat.le_refl _⟩, ⟨by first | exact Kd.R_nil _ _ _ _ _ | exact Kd.N_nil _ _ _ _ _ | exact Kd.V_nil _ _ _ _ _ | exact Kd.Q_nil _ _ _ _ _ | exact Kd.S_nil _ _ _ _ _⟩, ⟨by repeat (first | (with_reducible first | exact HI150.out | apply IsS60.alloc | apply IsS60.drewN | apply IsS60.drew | apply IsS60.set_1) | exact HI150.out)⟩, ⟨by repeat (first | (with_reducible first | exact HB.out | apply below_alloc | apply pw_below_drewN | apply below_drew1 | refine below_set ?_ (IsS60.ge HI150.out)) | exact HB.out)⟩⟩
  case round =>
    clear H'
    try clear c1
    try clear p2
    try clear c3
    obtain ⟨x4_1, x5_1, x151001_1, rfl, HA, HK1, HO_4, HI150, HB⟩ := hrel
    cases gk with
    | zero => exact absurd HA.out (by simp [synopticlaw07_BitsPads.l0])
    | succ k1 =>
      have H := HA.out
      clear HA
      simp only [synopticlaw07_BitsPads.l0] at H
      by_cases c6 : x5_1 > 0
      · rw [if_pos c6] at H
        have c6b0 : decide (0 < x5_1) = true := decide_eq_true c6
        clear c6
        replace H := Option.bind_eq_some_iff.mp H
        obtain ⟨⟨t153, t154⟩, A70, H⟩ := H
        replace H : (if x4_1.length < 17592186044416 then (synopticlaw07_BitsPads.l0 k1 (x4_1 ++ [t153]) (wrap64 (x5_1 - 1)) t148 t154) else (none)) = some r := H
        have A7 := Aside0.mk A70
        clear A70
        by_cases c8 : x4_1.length < 17592186044416
        · rw [if_pos c8] at H
          have LMc8 := Aside0.mk c8
          clear c8
          obtain ⟨y155, hy155⟩ : ∃ y_ : List Int, y_ = (x4_1 ++ [t153]) := ⟨_, rfl⟩
          replace H : (synopticlaw07_BitsPads.l0 k1 y155 (wrap64 (x5_1 - 1)) t148 t154) = some r := by first | (rw [hy155]; with_reducible exact H) | (have H2_ := (Option.bind_some _ _).symm.trans H; rw [hy155]; with_reducible exact H2_) | (have H2_ := (Option.bind_some _ _).symm.trans H; with_reducible exact H2_) | with_reducible exact H | (rw [hy155]; exact H) | exact H
          have Ny155 := Aside0.mk hy155
          clear hy155
          have H' := Aside0.mk H
          clear H
          go_wp2_with (first | ((with_reducible refine gate_callee (f := 10) rfl ?_); refine goesL_ (some 23) rfl rfl Try.func10 (by kernel_rfl) rfl #[.pointer (some ⟨g150, 0, none⟩), .int .i64 2] rfl (by (try simp only [List.map_toArray, List.map_cons, List.map_nil]); first | done | rfl | (simp only [List.length_drop, List.length_take]; rfl)) ?_; (with_reducible refine (synoptickeep_Src_N.calls g150 t148 x151001_1 2 t153 t154 w _ ?side1 ?side2 A7.out).mono ?_); (case side1 => repeat (first | (with_reducible first | exact HI150.out | apply IsS60.alloc | apply IsS60.drewN | apply IsS60.drew | apply IsS60.set_1) | exact HI150.out)); (case side2 => repeat (first | (with_reducible first | exact HB.out | apply below_alloc | apply pw_below_drewN | apply below_drew1 | refine below_set ?_ (IsS60.ge HI150.out)) | exact HB.out)); rintro e w9 ⟨rfl, hi, hb, hk⟩; refine ⟨_, rfl, ?_⟩; have n0_ := Aside0.mk (Kd.R_mono (Kd.R_keep (IsS60.apart (show IsS60 w _ g150 t148 x151001_1 from by repeat (first | (with_reducible first | exact HI150.out | apply IsS60.alloc | apply IsS60.drewN | apply IsS60.drew | apply IsS60.set_1) | exact HI150.out)) (by (with_reducible repeat (first | apply Kd.R_alloc | apply Kd.R_drewN | apply Kd.R_drew)); exact HO_4.out) (by decide)) hk (fun _ h => h.2)) (fun _ h => h.1)); have n1_ := Aside0.mk (hb); have n2_ := Aside0.mk (hi); clear HO_4; clear HB; clear HI150; have HO_4 := n0_; have HB := n1_; have HI150 := n2_; clear n0_ n1_ n2_; (try clear hb); (try clear hb2); (try clear hk); (try clear hi)) | ((with_reducible refine gate_builtin (b := .append) (xs := #[.tmp 21, .tmp 24]) rfl ?_); at_builtin; refine Kd.R_append (Kd.int .i64) (w0 := w) w.heap.size rfl (.tmp 21) (.tmp 24) 22 3 (.int .i64 0) 8 rfl Try.underlying22 info3 rfl (by decide) (by omega) u4 x4_1 t153 [.int .i64 t153] (fun _ => True) (fun _ => False) rfl rfl ?aP (fun _ hk => hk.elim) ?aF ?aO ?aB ?aS ?aL ?_; (case aP => exact rfl); (case aB => exact (by repeat (first | (with_reducible first | exact HB.out | apply below_alloc | apply pw_below_drewN | apply below_drew1 | refine below_set ?_ (IsS60.ge HI150.out)) | exact HB.out))); (case aF => exact (fun _ _ => trivial)); (case aO => exact (by (with_reducible repeat (first | apply Kd.R_alloc | apply Kd.R_drewN | apply Kd.R_drew)); exact HO_4.out)); (case aS => exact (below_size (by repeat (first | (with_reducible first | exact HB.out | apply below_alloc | apply pw_below_drewN | apply below_drew1 | refine below_set ?_ (IsS60.ge HI150.out)) | exact HB.out)))); (case aL => have := LMc8.out; omega); intro v156 w10 ho hb hg hat; rw [← Ny155.out] at ho; have n0_ := Aside0.mk (IsS60.grown (by repeat (first | (with_reducible first | exact HI150.out | apply IsS60.alloc | apply IsS60.drewN | apply IsS60.drew | apply IsS60.set_1) | exact HI150.out)) hg (IsS60.own_ne HI150.out HO_4.out (by decide))); have n1_ := Aside0.mk (hb); have n2_ := Aside0.mk (ho); clear HI150; clear HB; clear HO_4; have HI150 := n0_; have HB := n1_; have HO157 := n2_; clear n0_ n1_ n2_; clear ho hb hg hat))
          go_roundg k1
          case measure => have := HK1.out; omega
          case rel => exact ⟨(y155), (wrap64 (x5_1 - 1)), (t154), (by first | rfl | (simp; done) | (simp [*]; done)), H', ⟨by have := HK1.out; omega⟩, ⟨by (with_reducible repeat (first | apply Kd.R_alloc | apply Kd.R_drewN | apply Kd.R_drew)); exact HO157.out⟩, ⟨by repeat (first | (with_reducible first | exact HI150.out | apply IsS60.alloc | apply IsS60.drewN | apply IsS60.drew | apply IsS60.set_1) | exact HI150.out)⟩, ⟨by repeat (first | (with_reducible first | exact HB.out | apply below_alloc | apply pw_below_drewN | apply below_drew1 | refine below_set ?_ (IsS60.ge HI150.out)) | exact HB.out)⟩⟩
        · rw [if_neg c8] at H
          exact absurd H (by simp)
      · rw [if_neg c6] at H
        have c6b0 : decide (0 < x5_1) = false := decide_eq_false c6
        clear c6
        replace H := Option.bind_eq_some_iff.mp H
        obtain ⟨⟨t158, t161⟩, A110, H⟩ := H
        replace H : ((bits_Pad.f t158 t161).bind fun bt163 => ((bits_Pad.f bt163.1 bt163.2.1).bind fun bt169 => (if bt163.2.2 = 0 then (if bt169.2.2 = 0 then (if (Int.tmod bt163.2.1 8) = 0 then (if bt163.2.1 < t161 then (synopticlaw07_BitsPads.j1 k1 x4_1 true t158 t161 bt163.1 bt163.2.1) else (if bt163.2.1 ≥ (wrap64 (t161 + 8)) then (synopticlaw07_BitsPads.j1 k1 x4_1 true t158 t161 bt163.1 bt163.2.1) else ((synopticref07_Valid.f k1 bt163.1 bt163.2.1).bind fun t175 => (if t175 = true then ((synopticref07_Same.f bt163.1 bt163.2.1 bt169.1 bt169.2.1).bind fun t176 => (synopticlaw07_BitsPads.j1 k1 x4_1 (!t176) t158 t161 bt163.1 bt163.2.1)) else (synopticlaw07_BitsPads.j1 k1 x4_1 true t158 t161 bt163.1 bt163.2.1))))) else (synopticlaw07_BitsPads.j1 k1 x4_1 true t158 t161 bt163.1 bt163.2.1)) else (synopticlaw07_BitsPads.j1 k1 x4_1 true t158 t161 bt163.1 bt163.2.1)) else (synopticlaw07_BitsPads.j1 k1 x4_1 true t158 t161 bt163.1 bt163.2.1)))) = some r := H
        have A11 := Aside0.mk A110
        clear A110
        replace H := Option.bind_eq_some_iff.mp H
        obtain ⟨⟨t163, t166, t167⟩, A120, H⟩ := H
        replace H : ((bits_Pad.f t163 t166).bind fun bt169 => (if t167 = 0 then (if bt169.2.2 = 0 then (if (Int.tmod t166 8) = 0 then (if t166 < t161 then (synopticlaw07_BitsPads.j1 k1 x4_1 true t158 t161 t163 t166) else (if t166 ≥ (wrap64 (t161 + 8)) then (synopticlaw07_BitsPads.j1 k1 x4_1 true t158 t161 t163 t166) else ((synopticref07_Valid.f k1 t163 t166).bind fun t175 => (if t175 = true then ((synopticref07_Same.f t163 t166 bt169.1 bt169.2.1).bind fun t176 => (synopticlaw07_BitsPads.j1 k1 x4_1 (!t176) t158 t161 t163 t166)) else (synopticlaw07_BitsPads.j1 k1 x4_1 true t158 t161 t163 t166))))) else (synopticlaw07_BitsPads.j1 k1 x4_1 true t158 t161 t163 t166)) else (synopticlaw07_BitsPads.j1 k1 x4_1 true t158 t161 t163 t166)) else (synopticlaw07_BitsPads.j1 k1 x4_1 true t158 t161 t163 t166))) = some r := H
        have A12 := Aside0.mk A120
        clear A120
        replace H := Option.bind_eq_some_iff.mp H
        obtain ⟨⟨t169, t172, t173⟩, A130, H⟩ := H
        replace H : (if t167 = 0 then (if t173 = 0 then (if (Int.tmod t166 8) = 0 then (if t166 < t161 then (synopticlaw07_BitsPads.j1 k1 x4_1 true t158 t161 t163 t166) else (if t166 ≥ (wrap64 (t161 + 8)) then (synopticlaw07_BitsPads.j1 k1 x4_1 true t158 t161 t163 t166) else ((synopticref07_Valid.f k1 t163 t166).bind fun t175 => (if t175 = true then ((synopticref07_Same.f t163 t166 t169 t172).bind fun t176 => (synopticlaw07_BitsPads.j1 k1 x4_1 (!t176) t158 t161 t163 t166)) else (synopticlaw07_BitsPads.j1 k1 x4_1 true t158 t161 t163 t166))))) else (synopticlaw07_BitsPads.j1 k1 x4_1 true t158 t161 t163 t166)) else (synopticlaw07_BitsPads.j1 k1 x4_1 true t158 t161 t163 t166)) else (synopticlaw07_BitsPads.j1 k1 x4_1 true t158 t161 t163 t166)) = some r := H
        have A13 := Aside0.mk A130
        clear A130
        have HC14 := Aside0.mk H
        clear H
        obtain ⟨Ao15, co15, eo15⟩ := Kd.R_slice HO_4.out
        subst eo15
        go_upto_region 10 with (first | ((with_reducible refine gate_callee (f := 11) rfl ?_); refine goesL_ (some 27) rfl rfl Try.func11 (by kernel_rfl) rfl #[.slice Ao15 x4_1.length co15] rfl (by (try simp only [List.map_toArray, List.map_cons, List.map_nil]); first | done | rfl | (simp only [List.length_drop, List.length_take]; rfl)) ?_; (with_reducible refine (synopticref07_Of.calls k1 _ _ x4_1 t158 t161 _ ?side1 ?side2 A11.out).mono ?_); (case side1 => repeat (first | exact (Kd.R_reads' HO_4.out).2.2 | (with_reducible refine Kd.C_alloc ?_ _) | (with_reducible refine Kd.C_drewN ?_ _) | (with_reducible refine Kd.C_drew ?_))); (case side2 => exact (Kd.R_reads' HO_4.out).2.1); rintro e w16 ⟨v159, rfl, ho0, hb⟩; refine ⟨_, rfl, ?_⟩; have n0_ := Aside0.mk (Kd.R_below (by (with_reducible repeat (first | apply Kd.R_alloc | apply Kd.R_drewN | apply Kd.R_drew)); exact HO_4.out) hb); have n1_ := Aside0.mk (Kd.R_lower ho0 (below_size (by repeat (first | (with_reducible first | exact HB.out | apply below_alloc | apply pw_below_drewN | apply below_drew1 | refine below_set ?_ (IsS60.ge HI150.out)) | exact HB.out)))); have n2_ := Aside0.mk (IsS60.below (by repeat (first | (with_reducible first | exact HI150.out | apply IsS60.alloc | apply IsS60.drewN | apply IsS60.drew | apply IsS60.set_1) | exact HI150.out)) hb); have n3_ := Aside0.mk (below_step (by repeat (first | (with_reducible first | exact HB.out | apply below_alloc | apply pw_below_drewN | apply below_drew1 | refine below_set ?_ (IsS60.ge HI150.out)) | exact HB.out)) hb); clear HO_4; clear HI150; clear HB; have HO_4 := n0_; have HO160 := n1_; have HI150 := n2_; have HB := n3_; clear n0_ n1_ n2_ n3_; (try clear hb); (try clear hb2); (try clear hk); (try clear hi); (try clear ho0)) | ((with_reducible refine gate_dst (N := 6) rfl ?_); refine box_event ?hg (N := 6) ?hd (cs := #[.slice none 0 0, .int .i64 0]) (t := 28) ?hr ?_; (case hd => rfl); (case hg => rfl); (case hr => first | (go_simp; done) | (go_simp; rfl)); intro gb162 hg w17 hbox hb; have n0_ := Aside0.mk (Kd.R_below (by (with_reducible repeat (first | apply Kd.R_alloc | apply Kd.R_drewN | apply Kd.R_drew)); exact HO_4.out) hb); have n1_ := Aside0.mk (Kd.R_below (by (with_reducible repeat (first | apply Kd.R_alloc | apply Kd.R_drewN | apply Kd.R_drew)); exact HO160.out) hb); have n2_ := Aside0.mk (IsS60.below (by repeat (first | (with_reducible first | exact HI150.out | apply IsS60.alloc | apply IsS60.drewN | apply IsS60.drew | apply IsS60.set_1) | exact HI150.out)) hb); have n3_ := Aside0.mk (below_step (by repeat (first | (with_reducible first | exact HB.out | apply below_alloc | apply pw_below_drewN | apply below_drew1 | refine below_set ?_ (IsS60.ge HI150.out)) | exact HB.out)) hb); have n4_ := Aside0.mk (hbox); have n5_ := Aside0.mk ((by rw [hg]; exact (below_size (by repeat (first | (with_reducible first | exact HB.out | apply below_alloc | apply pw_below_drewN | apply below_drew1 | refine below_set ?_ (IsS60.ge HI150.out)) | exact HB.out))) : w.heap.size ≤ gb162)); have n6_ := Aside0.mk ((by rw [hg]; exact (below_size (by repeat (first | (with_reducible first | exact HB.out | apply below_alloc | apply pw_below_drewN | apply below_drew1 | refine below_set ?_ (IsS60.ge HI150.out)) | exact HB.out))) : w.heap.size ≤ gb162)); have n7_ := Aside0.mk ((by rw [hg]; exact Nat.ne_of_lt (IsS60.lt (show IsS60 w _ g150 t148 x151001_1 from by repeat (first | (with_reducible first | exact HI150.out | apply IsS60.alloc | apply IsS60.drewN | apply IsS60.drew | apply IsS60.set_1) | exact HI150.out))) : g150 ≠ gb162)); have n8_ := Aside0.mk ((by rw [hg]; exact Nat.ne_of_gt (IsS60.lt (show IsS60 w _ g150 t148 x151001_1 from by repeat (first | (with_reducible first | exact HI150.out | apply IsS60.alloc | apply IsS60.drewN | apply IsS60.drew | apply IsS60.set_1) | exact HI150.out))) : gb162 ≠ g150)); clear HO_4; clear HO160; clear HI150; clear HB; have HO_4 := n0_; have HO160 := n1_; have HI150 := n2_; have HB := n3_; have BK162 := n4_; have GW162 := n5_; have GE162 := n6_; have NB150_162 := n7_; have NB162_150 := n8_; clear n0_ n1_ n2_ n3_ n4_ n5_ n6_ n7_ n8_; clear hb hbox hg; obtain ⟨Ao18, co18, eo18⟩ := Kd.R_slice HO160.out; subst eo18; have hnb19 := NB162_150.out; have hnc19 := NB150_162.out; have hcz20_0 : w17.cell? ⟨gb162, 0, none⟩ = some (.slice none 0 0) := (blk_cell BK162.out 0).trans rfl; have hcz20_1 : w17.cell? ⟨gb162, 1, none⟩ = some (.int .i64 0) := (blk_cell BK162.out 1).trans rfl; have hfz20_0 := blk_frozen BK162.out 0; have hfz20_1 := blk_frozen BK162.out 1) | ((with_reducible refine gate_callee (f := 12) rfl ?_); refine goesL_ (some 30) rfl rfl Try.func12 (by kernel_rfl) rfl #[.agg #[.slice Ao18 t158.length co18, .int .i64 t161]] rfl (by (try simp only [List.map_toArray, List.map_cons, List.map_nil]); first | done | rfl | (simp only [List.length_drop, List.length_take]; rfl)) ?_; (with_reducible refine (bits_Pad.calls _ _ t158 t161 t163 t166 t167 _ ?side1 ?side2 A12.out).mono ?_); (case side1 => refine (Kd.R_reads' (e := 5) (base := w.heap.size) (ok := fun k_ => True) (n := t158.length) (c := co18) ?_).2.2; exact (by (with_reducible repeat (first | apply Kd.R_alloc | apply Kd.R_drewN | apply Kd.R_drew)); exact (Kd.R_mono (Kd.R_far (p := ⟨gb162, 1, none⟩) (Kd.R_far (p := ⟨gb162, 0, none⟩) (Kd.R_types HO160.out BK162.out (by decide)) (fun _ hk => hk.2) (.slice Ao18 t158.length co18)) (fun _ hk => hk.2) (.int .i64 t161)) (fun _ h_ => h_.1)))); (case side2 => exact (Kd.R_reads' HO160.out).2.1); rintro e w21 ⟨v164, rfl, ho0, hb⟩; refine ⟨_, rfl, ?_⟩; have n0_ := Aside0.mk (Kd.R_below (by (with_reducible repeat (first | apply Kd.R_alloc | apply Kd.R_drewN | apply Kd.R_drew)); exact (Kd.R_mono (Kd.R_far (p := ⟨gb162, 1, none⟩) (Kd.R_far (p := ⟨gb162, 0, none⟩) (Kd.R_types HO_4.out BK162.out (by decide)) (fun _ hk => hk.2) (.slice Ao18 t158.length co18)) (fun _ hk => hk.2) (.int .i64 t161)) (fun _ h_ => h_.1))) hb); have n1_ := Aside0.mk (Kd.R_elder' (by (with_reducible repeat (first | apply Kd.R_alloc | apply Kd.R_drewN | apply Kd.R_drew)); exact (Kd.R_mono (Kd.R_far (p := ⟨gb162, 1, none⟩) (Kd.R_far (p := ⟨gb162, 0, none⟩) (Kd.R_types HO160.out BK162.out (by decide)) (fun _ hk => hk.2) (.slice Ao18 t158.length co18)) (fun _ hk => hk.2) (.int .i64 t161)) (fun _ h_ => h_.1))) (Kd.R_base ho0) hb); have n2_ := Aside0.mk (Kd.R_lower (Kd.R_new' ho0 (Kd.R_lt (by (with_reducible repeat (first | apply Kd.R_alloc | apply Kd.R_drewN | apply Kd.R_drew)); exact (Kd.R_mono (Kd.R_far (p := ⟨gb162, 1, none⟩) (Kd.R_far (p := ⟨gb162, 0, none⟩) (Kd.R_types HO160.out BK162.out (by decide)) (fun _ hk => hk.2) (.slice Ao18 t158.length co18)) (fun _ hk => hk.2) (.int .i64 t161)) (fun _ h_ => h_.1))))) (below_size (by repeat (first | (with_reducible first | exact HB.out | apply below_alloc | apply pw_below_drewN | apply below_drew1 | refine below_set ?_ (IsS60.ge HI150.out) | refine below_set ?_ GE162.out) | exact HB.out)))); have n3_ := Aside0.mk (IsS60.below (show IsS60 w ((w17.setCell ⟨gb162, 0, none⟩ (.slice Ao18 t158.length co18)).setCell ⟨gb162, 1, none⟩ (.int .i64 t161)) g150 t148 x151001_1 from by repeat (first | (with_reducible first | exact HI150.out | apply IsS60.alloc | apply IsS60.drewN | apply IsS60.drew | apply IsS60.set_1 | refine IsS60.far ?_ NB150_162.out _) | exact HI150.out)) hb); have n4_ := Aside0.mk (blk_below (g := gb162) (o := .cells #[.slice Ao18 t158.length co18, .int .i64 t161] 28 (0, 0)) (by (with_reducible repeat (first | refine blk_drewN ?_ _ | refine blk_drew ?_ | refine blk_alloc ?_ _)); refine blk_put (cs := #[.slice Ao18 t158.length co18, .int .i64 0]) ?_ 1 _ rfl; (with_reducible repeat (first | refine blk_drewN ?_ _ | refine blk_drew ?_ | refine blk_alloc ?_ _)); refine blk_put (cs := #[.slice none 0 0, .int .i64 0]) ?_ 0 _ rfl; (with_reducible repeat (first | refine blk_drewN ?_ _ | refine blk_drew ?_ | refine blk_alloc ?_ _)); exact BK162.out) hb); have n5_ := Aside0.mk (below_step (by repeat (first | (with_reducible first | exact HB.out | apply below_alloc | apply pw_below_drewN | apply below_drew1 | refine below_set ?_ (IsS60.ge HI150.out) | refine below_set ?_ GE162.out) | exact HB.out)) hb); clear HO_4; clear HO160; clear HI150; clear BK162; clear HB; have HO_4 := n0_; have HO160 := n1_; have HO165 := n2_; have HI150 := n3_; have BK162 := n4_; have HB := n5_; clear n0_ n1_ n2_ n3_ n4_ n5_; (try clear hb); (try clear hb2); (try clear hk); (try clear hi); (try clear ho0)) | ((with_reducible refine gate_dst (N := 7) rfl ?_); refine box_event ?hg (N := 7) ?hd (cs := #[.slice none 0 0, .int .i64 0]) (t := 28) ?hr ?_; (case hd => rfl); (case hg => rfl); (case hr => first | (go_simp; done) | (go_simp; rfl)); intro gb168 hg w22 hbox hb; have n0_ := Aside0.mk (Kd.R_below (by (with_reducible repeat (first | apply Kd.R_alloc | apply Kd.R_drewN | apply Kd.R_drew)); exact HO_4.out) hb); have n1_ := Aside0.mk (Kd.R_below (by (with_reducible repeat (first | apply Kd.R_alloc | apply Kd.R_drewN | apply Kd.R_drew)); exact HO160.out) hb); have n2_ := Aside0.mk (Kd.R_below (by (with_reducible repeat (first | apply Kd.R_alloc | apply Kd.R_drewN | apply Kd.R_drew)); exact HO165.out) hb); have n3_ := Aside0.mk (IsS60.below (by repeat (first | (with_reducible first | exact HI150.out | apply IsS60.alloc | apply IsS60.drewN | apply IsS60.drew | apply IsS60.set_1 | refine IsS60.far ?_ NB150_162.out _) | exact HI150.out)) hb); have n4_ := Aside0.mk (blk_below (g := gb162) (o := .cells #[.slice Ao18 t158.length co18, .int .i64 t161] 28 (0, 0)) (by (with_reducible repeat (first | refine blk_drewN ?_ _ | refine blk_drew ?_ | refine blk_alloc ?_ _)); exact BK162.out) hb); have n5_ := Aside0.mk (below_step (by repeat (first | (with_reducible first | exact HB.out | apply below_alloc | apply pw_below_drewN | apply below_drew1 | refine below_set ?_ (IsS60.ge HI150.out) | refine below_set ?_ GE162.out) | exact HB.out)) hb); have n6_ := Aside0.mk (hbox); have n7_ := Aside0.mk ((by rw [hg]; exact (below_size (by repeat (first | (with_reducible first | exact HB.out | apply below_alloc | apply pw_below_drewN | apply below_drew1 | refine below_set ?_ (IsS60.ge HI150.out) | refine below_set ?_ GE162.out) | exact HB.out))) : w.heap.size ≤ gb168)); have n8_ := Aside0.mk ((by rw [hg]; exact (below_size (by repeat (first | (with_reducible first | exact HB.out | apply below_alloc | apply pw_below_drewN | apply below_drew1 | refine below_set ?_ (IsS60.ge HI150.out) | refine below_set ?_ GE162.out) | exact HB.out))) : w.heap.size ≤ gb168)); have n9_ := Aside0.mk ((by rw [hg]; exact Nat.ne_of_lt (blk_lt (g := gb162) (o := .cells #[.slice Ao18 t158.length co18, .int .i64 t161] 28 (0, 0)) (by (with_reducible repeat (first | refine blk_drewN ?_ _ | refine blk_drew ?_ | refine blk_alloc ?_ _)); exact BK162.out)) : gb162 ≠ gb168)); have n10_ := Aside0.mk ((by rw [hg]; exact Nat.ne_of_gt (blk_lt (g := gb162) (o := .cells #[.slice Ao18 t158.length co18, .int .i64 t161] 28 (0, 0)) (by (with_reducible repeat (first | refine blk_drewN ?_ _ | refine blk_drew ?_ | refine blk_alloc ?_ _)); exact BK162.out)) : gb168 ≠ gb162)); have n11_ := Aside0.mk ((by rw [hg]; exact Nat.ne_of_lt (IsS60.lt (show IsS60 w _ g150 t148 x151001_1 from by repeat (first | (with_reducible first | exact HI150.out | apply IsS60.alloc | apply IsS60.drewN | apply IsS60.drew | apply IsS60.set_1 | refine IsS60.far ?_ NB150_162.out _) | exact HI150.out))) : g150 ≠ gb168)); have n12_ := Aside0.mk ((by rw [hg]; exact Nat.ne_of_gt (IsS60.lt (show IsS60 w _ g150 t148 x151001_1 from by repeat (first | (with_reducible first | exact HI150.out | apply IsS60.alloc | apply IsS60.drewN | apply IsS60.drew | apply IsS60.set_1 | refine IsS60.far ?_ NB150_162.out _) | exact HI150.out))) : gb168 ≠ g150)); clear HO_4; clear HO160; clear HO165; clear HI150; clear BK162; clear HB; have HO_4 := n0_; have HO160 := n1_; have HO165 := n2_; have HI150 := n3_; have BK162 := n4_; have HB := n5_; have BK168 := n6_; have GW168 := n7_; have GE168 := n8_; have NB162_168 := n9_; have NB168_162 := n10_; have NB150_168 := n11_; have NB168_150 := n12_; clear n0_ n1_ n2_ n3_ n4_ n5_ n6_ n7_ n8_ n9_ n10_ n11_ n12_; clear hb hbox hg; obtain ⟨Ao23, co23, eo23⟩ := Kd.R_slice HO165.out; subst eo23; have hnb24 := NB168_162.out; have hnc24 := NB162_168.out; have hnb25 := NB168_150.out; have hnc25 := NB150_168.out; have hcz26_0 : w22.cell? ⟨gb168, 0, none⟩ = some (.slice none 0 0) := (blk_cell BK168.out 0).trans rfl; have hcz26_1 : w22.cell? ⟨gb168, 1, none⟩ = some (.int .i64 0) := (blk_cell BK168.out 1).trans rfl; have hfz26_0 := blk_frozen BK168.out 0; have hfz26_1 := blk_frozen BK168.out 1) | ((with_reducible refine gate_callee (f := 12) rfl ?_); refine goesL_ (some 35) rfl rfl Try.func12 (by kernel_rfl) rfl #[.agg #[.slice Ao23 t163.length co23, .int .i64 t166]] rfl (by (try simp only [List.map_toArray, List.map_cons, List.map_nil]); first | done | rfl | (simp only [List.length_drop, List.length_take]; rfl)) ?_; (with_reducible refine (bits_Pad.calls _ _ t163 t166 t169 t172 t173 _ ?side1 ?side2 A13.out).mono ?_); (case side1 => refine (Kd.R_reads' (e := 5) (base := w.heap.size) (ok := fun k_ => (True ∧ some k_ ≠ (.slice Ao18 t158.length co18 : Value).ownBlock)) (n := t163.length) (c := co23) ?_).2.2; exact (by (with_reducible repeat (first | apply Kd.R_alloc | apply Kd.R_drewN | apply Kd.R_drew)); exact (Kd.R_mono (Kd.R_far (p := ⟨gb168, 1, none⟩) (Kd.R_far (p := ⟨gb168, 0, none⟩) (Kd.R_types HO165.out BK168.out (by decide)) (fun _ hk => hk.2) (.slice Ao23 t163.length co23)) (fun _ hk => hk.2) (.int .i64 t166)) (fun _ h_ => h_.1)))); (case side2 => exact (Kd.R_reads' HO165.out).2.1); rintro e w27 ⟨v170, rfl, ho0, hb⟩; refine ⟨_, rfl, ?_⟩; have n0_ := Aside0.mk (Kd.R_below (by (with_reducible repeat (first | apply Kd.R_alloc | apply Kd.R_drewN | apply Kd.R_drew)); exact (Kd.R_mono (Kd.R_far (p := ⟨gb168, 1, none⟩) (Kd.R_far (p := ⟨gb168, 0, none⟩) (Kd.R_types HO_4.out BK168.out (by decide)) (fun _ hk => hk.2) (.slice Ao23 t163.length co23)) (fun _ hk => hk.2) (.int .i64 t166)) (fun _ h_ => h_.1))) hb); have n1_ := Aside0.mk (Kd.R_elder' (by (with_reducible repeat (first | apply Kd.R_alloc | apply Kd.R_drewN | apply Kd.R_drew)); exact (Kd.R_mono (Kd.R_far (p := ⟨gb168, 1, none⟩) (Kd.R_far (p := ⟨gb168, 0, none⟩) (Kd.R_types HO160.out BK168.out (by decide)) (fun _ hk => hk.2) (.slice Ao23 t163.length co23)) (fun _ hk => hk.2) (.int .i64 t166)) (fun _ h_ => h_.1))) (Kd.R_base ho0) hb); have n2_ := Aside0.mk (Kd.R_elder' (by (with_reducible repeat (first | apply Kd.R_alloc | apply Kd.R_drewN | apply Kd.R_drew)); exact (Kd.R_mono (Kd.R_far (p := ⟨gb168, 1, none⟩) (Kd.R_far (p := ⟨gb168, 0, none⟩) (Kd.R_types HO165.out BK168.out (by decide)) (fun _ hk => hk.2) (.slice Ao23 t163.length co23)) (fun _ hk => hk.2) (.int .i64 t166)) (fun _ h_ => h_.1))) (Kd.R_base ho0) hb); have n3_ := Aside0.mk (Kd.R_lower (Kd.R_new' (Kd.R_new' ho0 (Kd.R_lt (by (with_reducible repeat (first | apply Kd.R_alloc | apply Kd.R_drewN | apply Kd.R_drew)); exact (Kd.R_mono (Kd.R_far (p := ⟨gb168, 1, none⟩) (Kd.R_far (p := ⟨gb168, 0, none⟩) (Kd.R_types HO160.out BK168.out (by decide)) (fun _ hk => hk.2) (.slice Ao23 t163.length co23)) (fun _ hk => hk.2) (.int .i64 t166)) (fun _ h_ => h_.1))))) (Kd.R_lt (by (with_reducible repeat (first | apply Kd.R_alloc | apply Kd.R_drewN | apply Kd.R_drew)); exact (Kd.R_mono (Kd.R_far (p := ⟨gb168, 1, none⟩) (Kd.R_far (p := ⟨gb168, 0, none⟩) (Kd.R_types HO165.out BK168.out (by decide)) (fun _ hk => hk.2) (.slice Ao23 t163.length co23)) (fun _ hk => hk.2) (.int .i64 t166)) (fun _ h_ => h_.1))))) (below_size (by repeat (first | (with_reducible first | exact HB.out | apply below_alloc | apply pw_below_drewN | apply below_drew1 | refine below_set ?_ (IsS60.ge HI150.out) | refine below_set ?_ GE162.out | refine below_set ?_ GE168.out) | exact HB.out)))); have n4_ := Aside0.mk (IsS60.below (show IsS60 w ((w22.setCell ⟨gb168, 0, none⟩ (.slice Ao23 t163.length co23)).setCell ⟨gb168, 1, none⟩ (.int .i64 t166)) g150 t148 x151001_1 from by repeat (first | (with_reducible first | exact HI150.out | apply IsS60.alloc | apply IsS60.drewN | apply IsS60.drew | apply IsS60.set_1 | refine IsS60.far ?_ NB150_162.out _ | refine IsS60.far ?_ NB150_168.out _) | exact HI150.out)) hb); have n5_ := Aside0.mk (blk_below (g := gb162) (o := .cells #[.slice Ao18 t158.length co18, .int .i64 t161] 28 (0, 0)) (by (with_reducible repeat (first | refine blk_drewN ?_ _ | refine blk_drew ?_ | refine blk_alloc ?_ _)); refine blk_far ?_ NB162_168.out _; (with_reducible repeat (first | refine blk_drewN ?_ _ | refine blk_drew ?_ | refine blk_alloc ?_ _)); refine blk_far ?_ NB162_168.out _; (with_reducible repeat (first | refine blk_drewN ?_ _ | refine blk_drew ?_ | refine blk_alloc ?_ _)); exact BK162.out) hb); have n6_ := Aside0.mk (blk_below (g := gb168) (o := .cells #[.slice Ao23 t163.length co23, .int .i64 t166] 28 (0, 0)) (by (with_reducible repeat (first | refine blk_drewN ?_ _ | refine blk_drew ?_ | refine blk_alloc ?_ _)); refine blk_put (cs := #[.slice Ao23 t163.length co23, .int .i64 0]) ?_ 1 _ rfl; (with_reducible repeat (first | refine blk_drewN ?_ _ | refine blk_drew ?_ | refine blk_alloc ?_ _)); refine blk_put (cs := #[.slice none 0 0, .int .i64 0]) ?_ 0 _ rfl; (with_reducible repeat (first | refine blk_drewN ?_ _ | refine blk_drew ?_ | refine blk_alloc ?_ _)); exact BK168.out) hb); have n7_ := Aside0.mk (below_step (by repeat (first | (with_reducible first | exact HB.out | apply below_alloc | apply pw_below_drewN | apply below_drew1 | refine below_set ?_ (IsS60.ge HI150.out) | refine below_set ?_ GE162.out | refine below_set ?_ GE168.out) | exact HB.out)) hb); clear HO_4; clear HO160; clear HO165; clear HI150; clear BK162; clear BK168; clear HB; have HO_4 := n0_; have HO160 := n1_; have HO165 := n2_; have HO171 := n3_; have HI150 := n4_; have BK162 := n5_; have BK168 := n6_; have HB := n7_; clear n0_ n1_ n2_ n3_ n4_ n5_ n6_ n7_; (try clear hb); (try clear hb2); (try clear hk); (try clear hi); (try clear ho0)) | ((with_reducible refine gate_dst (N := 9) rfl ?_); refine box_event ?hg (N := 9) ?hd (cs := #[.slice none 0 0, .int .i64 0]) (t := 28) ?hr ?_; (case hd => rfl); (case hg => rfl); (case hr => first | (go_simp; done) | (go_simp; rfl)); intro gb174 hg w28 hbox hb; have n0_ := Aside0.mk (Kd.R_below (by (with_reducible repeat (first | apply Kd.R_alloc | apply Kd.R_drewN | apply Kd.R_drew)); exact HO_4.out) hb); have n1_ := Aside0.mk (Kd.R_below (by (with_reducible repeat (first | apply Kd.R_alloc | apply Kd.R_drewN | apply Kd.R_drew)); exact HO160.out) hb); have n2_ := Aside0.mk (Kd.R_below (by (with_reducible repeat (first | apply Kd.R_alloc | apply Kd.R_drewN | apply Kd.R_drew)); exact HO165.out) hb); have n3_ := Aside0.mk (Kd.R_below (by (with_reducible repeat (first | apply Kd.R_alloc | apply Kd.R_drewN | apply Kd.R_drew)); exact HO171.out) hb); have n4_ := Aside0.mk (IsS60.below (by repeat (first | (with_reducible first | exact HI150.out | apply IsS60.alloc | apply IsS60.drewN | apply IsS60.drew | apply IsS60.set_1 | refine IsS60.far ?_ NB150_162.out _ | refine IsS60.far ?_ NB150_168.out _) | exact HI150.out)) hb); have n5_ := Aside0.mk (blk_below (g := gb162) (o := .cells #[.slice Ao18 t158.length co18, .int .i64 t161] 28 (0, 0)) (by (with_reducible repeat (first | refine blk_drewN ?_ _ | refine blk_drew ?_ | refine blk_alloc ?_ _)); exact BK162.out) hb); have n6_ := Aside0.mk (blk_below (g := gb168) (o := .cells #[.slice Ao23 t163.length co23, .int .i64 t166] 28 (0, 0)) (by (with_reducible repeat (first | refine blk_drewN ?_ _ | refine blk_drew ?_ | refine blk_alloc ?_ _)); exact BK168.out) hb); have n7_ := Aside0.mk (below_step (by repeat (first | (with_reducible first | exact HB.out | apply below_alloc | apply pw_below_drewN | apply below_drew1 | refine below_set ?_ (IsS60.ge HI150.out) | refine below_set ?_ GE162.out | refine below_set ?_ GE168.out) | exact HB.out)) hb); have n8_ := Aside0.mk (hbox); have n9_ := Aside0.mk ((by rw [hg]; exact (below_size (by repeat (first | (with_reducible first | exact HB.out | apply below_alloc | apply pw_below_drewN | apply below_drew1 | refine below_set ?_ (IsS60.ge HI150.out) | refine below_set ?_ GE162.out | refine below_set ?_ GE168.out) | exact HB.out))) : w.heap.size ≤ gb174)); have n10_ := Aside0.mk ((by rw [hg]; exact (below_size (by repeat (first | (with_reducible first | exact HB.out | apply below_alloc | apply pw_below_drewN | apply below_drew1 | refine below_set ?_ (IsS60.ge HI150.out) | refine below_set ?_ GE162.out | refine below_set ?_ GE168.out) | exact HB.out))) : w.heap.size ≤ gb174)); have n11_ := Aside0.mk ((by rw [hg]; exact Nat.ne_of_lt (blk_lt (g := gb162) (o := .cells #[.slice Ao18 t158.length co18, .int .i64 t161] 28 (0, 0)) (by (with_reducible repeat (first | refine blk_drewN ?_ _ | refine blk_drew ?_ | refine blk_alloc ?_ _)); exact BK162.out)) : gb162 ≠ gb174)); have n12_ := Aside0.mk ((by rw [hg]; exact Nat.ne_of_gt (blk_lt (g := gb162) (o := .cells #[.slice Ao18 t158.length co18, .int .i64 t161] 28 (0, 0)) (by (with_reducible repeat (first | refine blk_drewN ?_ _ | refine blk_drew ?_ | refine blk_alloc ?_ _)); exact BK162.out)) : gb174 ≠ gb162)); have n13_ := Aside0.mk ((by rw [hg]; exact Nat.ne_of_lt (blk_lt (g := gb168) (o := .cells #[.slice Ao23 t163.length co23, .int .i64 t166] 28 (0, 0)) (by (with_reducible repeat (first | refine blk_drewN ?_ _ | refine blk_drew ?_ | refine blk_alloc ?_ _)); exact BK168.out)) : gb168 ≠ gb174)); have n14_ := Aside0.mk ((by rw [hg]; exact Nat.ne_of_gt (blk_lt (g := gb168) (o := .cells #[.slice Ao23 t163.length co23, .int .i64 t166] 28 (0, 0)) (by (with_reducible repeat (first | refine blk_drewN ?_ _ | refine blk_drew ?_ | refine blk_alloc ?_ _)); exact BK168.out)) : gb174 ≠ gb168)); have n15_ := Aside0.mk ((by rw [hg]; exact Nat.ne_of_lt (IsS60.lt (show IsS60 w _ g150 t148 x151001_1 from by repeat (first | (with_reducible first | exact HI150.out | apply IsS60.alloc | apply IsS60.drewN | apply IsS60.drew | apply IsS60.set_1 | refine IsS60.far ?_ NB150_162.out _ | refine IsS60.far ?_ NB150_168.out _) | exact HI150.out))) : g150 ≠ gb174)); have n16_ := Aside0.mk ((by rw [hg]; exact Nat.ne_of_gt (IsS60.lt (show IsS60 w _ g150 t148 x151001_1 from by repeat (first | (with_reducible first | exact HI150.out | apply IsS60.alloc | apply IsS60.drewN | apply IsS60.drew | apply IsS60.set_1 | refine IsS60.far ?_ NB150_162.out _ | refine IsS60.far ?_ NB150_168.out _) | exact HI150.out))) : gb174 ≠ g150)); clear HO_4; clear HO160; clear HO165; clear HO171; clear HI150; clear BK162; clear BK168; clear HB; have HO_4 := n0_; have HO160 := n1_; have HO165 := n2_; have HO171 := n3_; have HI150 := n4_; have BK162 := n5_; have BK168 := n6_; have HB := n7_; have BK174 := n8_; have GW174 := n9_; have GE174 := n10_; have NB162_174 := n11_; have NB174_162 := n12_; have NB168_174 := n13_; have NB174_168 := n14_; have NB150_174 := n15_; have NB174_150 := n16_; clear n0_ n1_ n2_ n3_ n4_ n5_ n6_ n7_ n8_ n9_ n10_ n11_ n12_ n13_ n14_ n15_ n16_; clear hb hbox hg; obtain ⟨Ao29, co29, eo29⟩ := Kd.R_slice HO171.out; subst eo29; have hnb30 := NB174_162.out; have hnc30 := NB162_174.out; have hnb31 := NB174_168.out; have hnc31 := NB168_174.out; have hnb32 := NB174_150.out; have hnc32 := NB150_174.out; have hcz33_0 : w28.cell? ⟨gb174, 0, none⟩ = some (.slice none 0 0) := (blk_cell BK174.out 0).trans rfl; have hcz33_1 : w28.cell? ⟨gb174, 1, none⟩ = some (.int .i64 0) := (blk_cell BK174.out 1).trans rfl; have hfz33_0 := blk_frozen BK174.out 0; have hfz33_1 := blk_frozen BK174.out 1))
        (try simp only [Act.put, List.setIfInBounds_toArray, List.set_cons_zero, List.set_cons_succ])
        go_cut [75] (fun v75 wc => ∃ (kq : Nat) (x75_13 : Bool), v75 = .bool x75_13 ∧ Aside0 (synopticlaw07_BitsPads.j1 kq x4_1 x75_13 t158 t161 t163 t166 = some r) ∧ Aside0 (kq ≤ k1) ∧ Aside0 (Kd.R (Kd.int .i64) 3 wc w.heap.size (fun _ => True) (.slice Ao15 x4_1.length co15) x4_1) ∧ Aside0 (Kd.R (Kd.int .u8) 5 wc w.heap.size (fun k_ => some k_ ≠ ((.slice Ao23 t163.length co23) : Value).ownBlock ∧ some k_ ≠ ((.slice Ao29 t169.length co29) : Value).ownBlock) (.slice Ao18 t158.length co18) t158) ∧ Aside0 (Kd.R (Kd.int .u8) 5 wc w.heap.size (fun k_ => some k_ ≠ ((.slice Ao18 t158.length co18) : Value).ownBlock ∧ some k_ ≠ ((.slice Ao29 t169.length co29) : Value).ownBlock) (.slice Ao23 t163.length co23) t163) ∧ Aside0 (Kd.R (Kd.int .u8) 5 wc w.heap.size (fun k_ => some k_ ≠ ((.slice Ao18 t158.length co18) : Value).ownBlock ∧ some k_ ≠ ((.slice Ao23 t163.length co23) : Value).ownBlock) (.slice Ao29 t169.length co29) t169) ∧ Aside0 (wc.heap[gb162]? = some (.cells #[(.slice Ao18 t158.length co18), .int .i64 t161] 28 (0, 0))) ∧ Aside0 (wc.heap[gb168]? = some (.cells #[(.slice Ao23 t163.length co23), .int .i64 t166] 28 (0, 0))) ∧ Aside0 (wc.heap[gb174]? = some (.cells #[(.slice Ao29 t169.length co29), .int .i64 t172] 28 (0, 0))) ∧ Aside0 (Below w.heap.size w wc))
        case first =>
          have H := HC14.out
          clear HC14
          by_cases c34 : t167 = 0
          · rw [if_pos c34] at H
            have c34b0 : (t167 == 0) = true := beq_iff_eq.mpr c34
            have c34b1 : (t167 != 0) = false := bne_eq_false_iff_eq.mpr c34
            clear c34
            (first | rw [c34b0] | (simp only [i64_w, i32_w]; rw [c34b0]) | skip)
            by_cases c35 : t173 = 0
            · rw [if_pos c35] at H
              have c35b0 : (t173 == 0) = true := beq_iff_eq.mpr c35
              have c35b1 : (t173 != 0) = false := bne_eq_false_iff_eq.mpr c35
              clear c35
              by_cases c36 : (Int.tmod t166 8) = 0
              · rw [if_pos c36] at H
                have c36b0 : ((Int.tmod t166 8) == 0) = true := beq_iff_eq.mpr c36
                have c36b1 : ((Int.tmod t166 8) != 0) = false := bne_eq_false_iff_eq.mpr c36
                clear c36
                by_cases c37 : t166 < t161
                · rw [if_pos c37] at H
                  have c37b0 : decide (t166 < t161) = true := decide_eq_true c37
                  clear c37
                  have H' := Aside0.mk H
                  clear H
                  have hnb38 := NB168_162.out
                  have hnc38 := NB162_168.out
                  have hnb39 := NB168_174.out
                  have hnc39 := NB174_168.out
                  have hnb40 := NB168_150.out
                  have hnc40 := NB150_168.out
                  have hcz41_0 : w28.cell? ⟨gb168, 0, none⟩ = some (.slice Ao23 t163.length co23) := (blk_cell BK168.out 0).trans rfl
                  have hcz41_1 : w28.cell? ⟨gb168, 1, none⟩ = some (.int .i64 t166) := (blk_cell BK168.out 1).trans rfl
                  have hfz41_0 := blk_frozen BK168.out 0
                  have hfz41_1 := blk_frozen BK168.out 1
                  have hnb42 := NB162_174.out
                  have hnc42 := NB174_162.out
                  have hnb43 := NB162_150.out
                  have hnc43 := NB150_162.out
                  have hcz44_0 : w28.cell? ⟨gb162, 0, none⟩ = some (.slice Ao18 t158.length co18) := (blk_cell BK162.out 0).trans rfl
                  have hcz44_1 : w28.cell? ⟨gb162, 1, none⟩ = some (.int .i64 t161) := (blk_cell BK162.out 1).trans rfl
                  have hfz44_0 := blk_frozen BK162.out 0
                  have hfz44_1 := blk_frozen BK162.out 1
                  go_wp2
                  go_meet
                  case rel => exact ⟨_, (true), (by first | rfl | (simp; done) | (simp [*]; done)), H', ⟨by have := HK1.out; first | omega | exact Nat.le_refl _⟩, ⟨by (with_reducible repeat (first | apply Kd.R_alloc | apply Kd.R_drewN | apply Kd.R_drew)); exact Kd.R_mono (Kd.R_far (p := ⟨gb174, 1, none⟩) (Kd.R_far (p := ⟨gb174, 0, none⟩) (Kd.R_types HO_4.out BK174.out (by decide)) (fun _ hk => hk.2) (.slice Ao29 t169.length co29)) (fun _ hk => hk.2) (.int .i64 t172)) (fun _ hk => trivial)⟩, ⟨by (with_reducible repeat (first | apply Kd.R_alloc | apply Kd.R_drewN | apply Kd.R_drew)); exact Kd.R_mono (Kd.R_far (p := ⟨gb174, 1, none⟩) (Kd.R_far (p := ⟨gb174, 0, none⟩) (Kd.R_types HO160.out BK174.out (by decide)) (fun _ hk => hk.2) (.slice Ao29 t169.length co29)) (fun _ hk => hk.2) (.int .i64 t172)) (fun _ hk => ⟨hk.1.1.2, hk.1.2⟩)⟩, ⟨by (with_reducible repeat (first | apply Kd.R_alloc | apply Kd.R_drewN | apply Kd.R_drew)); exact Kd.R_mono (Kd.R_far (p := ⟨gb174, 1, none⟩) (Kd.R_far (p := ⟨gb174, 0, none⟩) (Kd.R_types HO165.out BK174.out (by decide)) (fun _ hk => hk.2) (.slice Ao29 t169.length co29)) (fun _ hk => hk.2) (.int .i64 t172)) (fun _ hk => ⟨hk.1.1.2, hk.1.2⟩)⟩, ⟨by (with_reducible repeat (first | apply Kd.R_alloc | apply Kd.R_drewN | apply Kd.R_drew)); exact Kd.R_mono (Kd.R_far (p := ⟨gb174, 1, none⟩) (Kd.R_far (p := ⟨gb174, 0, none⟩) (Kd.R_types HO171.out BK174.out (by decide)) (fun _ hk => hk.2) (.slice Ao29 t169.length co29)) (fun _ hk => hk.2) (.int .i64 t172)) (fun _ hk => ⟨hk.1.1.2, hk.1.2⟩)⟩, ⟨by (with_reducible repeat (first | refine blk_drewN ?_ _ | refine blk_drew ?_ | refine blk_alloc ?_ _)); refine blk_far ?_ NB162_174.out _; (with_reducible repeat (first | refine blk_drewN ?_ _ | refine blk_drew ?_ | refine blk_alloc ?_ _)); refine blk_far ?_ NB162_174.out _; (with_reducible repeat (first | refine blk_drewN ?_ _ | refine blk_drew ?_ | refine blk_alloc ?_ _)); exact BK162.out⟩, ⟨by (with_reducible repeat (first | refine blk_drewN ?_ _ | refine blk_drew ?_ | refine blk_alloc ?_ _)); refine blk_far ?_ NB168_174.out _; (with_reducible repeat (first | refine blk_drewN ?_ _ | refine blk_drew ?_ | refine blk_alloc ?_ _)); refine blk_far ?_ NB168_174.out _; (with_reducible repeat (first | refine blk_drewN ?_ _ | refine blk_drew ?_ | refine blk_alloc ?_ _)); exact BK168.out⟩, ⟨by (with_reducible repeat (first | refine blk_drewN ?_ _ | refine blk_drew ?_ | refine blk_alloc ?_ _)); refine blk_put (cs := #[.slice Ao29 t169.length co29, .int .i64 0]) ?_ 1 _ rfl; (with_reducible repeat (first | refine blk_drewN ?_ _ | refine blk_drew ?_ | refine blk_alloc ?_ _)); refine blk_put (cs := #[.slice none 0 0, .int .i64 0]) ?_ 0 _ rfl; (with_reducible repeat (first | refine blk_drewN ?_ _ | refine blk_drew ?_ | refine blk_alloc ?_ _)); exact BK174.out⟩, ⟨by repeat (first | (with_reducible first | exact HB.out | apply below_alloc | apply pw_below_drewN | apply below_drew1 | refine below_set ?_ (IsS60.ge HI150.out) | refine below_set ?_ GE162.out | refine below_set ?_ GE168.out | refine below_set ?_ GE174.out) | exact HB.out)⟩⟩
                · rw [if_neg c37] at H
                  have c37b0 : decide (t166 < t161) = false := decide_eq_false c37
                  clear c37
                  by_cases c45 : t166 ≥ (wrap64 (t161 + 8))
                  · rw [if_pos c45] at H
                    have c45b0 : decide ((wrap64 (t161 + 8)) ≤ t166) = true := decide_eq_true c45
                    clear c45
                    have H' := Aside0.mk H
                    clear H
                    have hnb46 := NB168_162.out
                    have hnc46 := NB162_168.out
                    have hnb47 := NB168_174.out
                    have hnc47 := NB174_168.out
                    have hnb48 := NB168_150.out
                    have hnc48 := NB150_168.out
                    have hcz49_0 : w28.cell? ⟨gb168, 0, none⟩ = some (.slice Ao23 t163.length co23) := (blk_cell BK168.out 0).trans rfl
                    have hcz49_1 : w28.cell? ⟨gb168, 1, none⟩ = some (.int .i64 t166) := (blk_cell BK168.out 1).trans rfl
                    have hfz49_0 := blk_frozen BK168.out 0
                    have hfz49_1 := blk_frozen BK168.out 1
                    have hnb50 := NB162_174.out
                    have hnc50 := NB174_162.out
                    have hnb51 := NB162_150.out
                    have hnc51 := NB150_162.out
                    have hcz52_0 : w28.cell? ⟨gb162, 0, none⟩ = some (.slice Ao18 t158.length co18) := (blk_cell BK162.out 0).trans rfl
                    have hcz52_1 : w28.cell? ⟨gb162, 1, none⟩ = some (.int .i64 t161) := (blk_cell BK162.out 1).trans rfl
                    have hfz52_0 := blk_frozen BK162.out 0
                    have hfz52_1 := blk_frozen BK162.out 1
                    go_wp2
                    go_meet
                    case rel => exact ⟨_, (true), (by first | rfl | (simp; done) | (simp [*]; done)), H', ⟨by have := HK1.out; first | omega | exact Nat.le_refl _⟩, ⟨by (with_reducible repeat (first | apply Kd.R_alloc | apply Kd.R_drewN | apply Kd.R_drew)); exact Kd.R_mono (Kd.R_far (p := ⟨gb174, 1, none⟩) (Kd.R_far (p := ⟨gb174, 0, none⟩) (Kd.R_types HO_4.out BK174.out (by decide)) (fun _ hk => hk.2) (.slice Ao29 t169.length co29)) (fun _ hk => hk.2) (.int .i64 t172)) (fun _ hk => trivial)⟩, ⟨by (with_reducible repeat (first | apply Kd.R_alloc | apply Kd.R_drewN | apply Kd.R_drew)); exact Kd.R_mono (Kd.R_far (p := ⟨gb174, 1, none⟩) (Kd.R_far (p := ⟨gb174, 0, none⟩) (Kd.R_types HO160.out BK174.out (by decide)) (fun _ hk => hk.2) (.slice Ao29 t169.length co29)) (fun _ hk => hk.2) (.int .i64 t172)) (fun _ hk => ⟨hk.1.1.2, hk.1.2⟩)⟩, ⟨by (with_reducible repeat (first | apply Kd.R_alloc | apply Kd.R_drewN | apply Kd.R_drew)); exact Kd.R_mono (Kd.R_far (p := ⟨gb174, 1, none⟩) (Kd.R_far (p := ⟨gb174, 0, none⟩) (Kd.R_types HO165.out BK174.out (by decide)) (fun _ hk => hk.2) (.slice Ao29 t169.length co29)) (fun _ hk => hk.2) (.int .i64 t172)) (fun _ hk => ⟨hk.1.1.2, hk.1.2⟩)⟩, ⟨by (with_reducible repeat (first | apply Kd.R_alloc | apply Kd.R_drewN | apply Kd.R_drew)); exact Kd.R_mono (Kd.R_far (p := ⟨gb174, 1, none⟩) (Kd.R_far (p := ⟨gb174, 0, none⟩) (Kd.R_types HO171.out BK174.out (by decide)) (fun _ hk => hk.2) (.slice Ao29 t169.length co29)) (fun _ hk => hk.2) (.int .i64 t172)) (fun _ hk => ⟨hk.1.1.2, hk.1.2⟩)⟩, ⟨by (with_reducible repeat (first | refine blk_drewN ?_ _ | refine blk_drew ?_ | refine blk_alloc ?_ _)); refine blk_far ?_ NB162_174.out _; (with_reducible repeat (first | refine blk_drewN ?_ _ | refine blk_drew ?_ | refine blk_alloc ?_ _)); refine blk_far ?_ NB162_174.out _; (with_reducible repeat (first | refine blk_drewN ?_ _ | refine blk_drew ?_ | refine blk_alloc ?_ _)); exact BK162.out⟩, ⟨by (with_reducible repeat (first | refine blk_drewN ?_ _ | refine blk_drew ?_ | refine blk_alloc ?_ _)); refine blk_far ?_ NB168_174.out _; (with_reducible repeat (first | refine blk_drewN ?_ _ | refine blk_drew ?_ | refine blk_alloc ?_ _)); refine blk_far ?_ NB168_174.out _; (with_reducible repeat (first | refine blk_drewN ?_ _ | refine blk_drew ?_ | refine blk_alloc ?_ _)); exact BK168.out⟩, ⟨by (with_reducible repeat (first | refine blk_drewN ?_ _ | refine blk_drew ?_ | refine blk_alloc ?_ _)); refine blk_put (cs := #[.slice Ao29 t169.length co29, .int .i64 0]) ?_ 1 _ rfl; (with_reducible repeat (first | refine blk_drewN ?_ _ | refine blk_drew ?_ | refine blk_alloc ?_ _)); refine blk_put (cs := #[.slice none 0 0, .int .i64 0]) ?_ 0 _ rfl; (with_reducible repeat (first | refine blk_drewN ?_ _ | refine blk_drew ?_ | refine blk_alloc ?_ _)); exact BK174.out⟩, ⟨by repeat (first | (with_reducible first | exact HB.out | apply below_alloc | apply pw_below_drewN | apply below_drew1 | refine below_set ?_ (IsS60.ge HI150.out) | refine below_set ?_ GE162.out | refine below_set ?_ GE168.out | refine below_set ?_ GE174.out) | exact HB.out)⟩⟩
                  · rw [if_neg c45] at H
                    have c45b0 : decide ((wrap64 (t161 + 8)) ≤ t166) = false := decide_eq_false c45
                    clear c45
                    replace H := Option.bind_eq_some_iff.mp H
                    obtain ⟨t175, A530, H⟩ := H
                    replace H : (if t175 = true then ((synopticref07_Same.f t163 t166 t169 t172).bind fun t176 => (synopticlaw07_BitsPads.j1 k1 x4_1 (!t176) t158 t161 t163 t166)) else (synopticlaw07_BitsPads.j1 k1 x4_1 true t158 t161 t163 t166)) = some r := H
                    have A53 := Aside0.mk A530
                    clear A530
                    by_cases c54 : t175 = true
                    · subst c54
                      have H1 : ((synopticref07_Same.f t163 t166 t169 t172).bind fun t176 => (synopticlaw07_BitsPads.j1 k1 x4_1 (!t176) t158 t161 t163 t166)) = some r := by rw [if_pos rfl] at H; exact H
                      clear H
                      have H := H1
                      clear H1
                      replace H := Option.bind_eq_some_iff.mp H
                      obtain ⟨t176, A550, H⟩ := H
                      replace H : (synopticlaw07_BitsPads.j1 k1 x4_1 (!t176) t158 t161 t163 t166) = some r := H
                      have A55 := Aside0.mk A550
                      clear A550
                      have H' := Aside0.mk H
                      clear H
                      have hnb56 := NB168_162.out
                      have hnc56 := NB162_168.out
                      have hnb57 := NB168_174.out
                      have hnc57 := NB174_168.out
                      have hnb58 := NB168_150.out
                      have hnc58 := NB150_168.out
                      have hcz59_0 : w28.cell? ⟨gb168, 0, none⟩ = some (.slice Ao23 t163.length co23) := (blk_cell BK168.out 0).trans rfl
                      have hcz59_1 : w28.cell? ⟨gb168, 1, none⟩ = some (.int .i64 t166) := (blk_cell BK168.out 1).trans rfl
                      have hfz59_0 := blk_frozen BK168.out 0
                      have hfz59_1 := blk_frozen BK168.out 1
                      have hnb60 := NB162_174.out
                      have hnc60 := NB174_162.out
                      have hnb61 := NB162_150.out
                      have hnc61 := NB150_162.out
                      have hcz62_0 : w28.cell? ⟨gb162, 0, none⟩ = some (.slice Ao18 t158.length co18) := (blk_cell BK162.out 0).trans rfl
                      have hcz62_1 : w28.cell? ⟨gb162, 1, none⟩ = some (.int .i64 t161) := (blk_cell BK162.out 1).trans rfl
                      have hfz62_0 := blk_frozen BK162.out 0
                      have hfz62_1 := blk_frozen BK162.out 1
                      go_wp2_with (first | (go_at_call 13; (with_reducible refine (synopticref07_Valid.calls k1 _ _ t163 t166 true _ ?side1 ?side2 A53.out).mono ?_); (case side1 => refine (Kd.R_reads' (e := 5) (base := w.heap.size) (ok := fun k_ => ((True ∧ some k_ ≠ (.slice Ao18 t158.length co18 : Value).ownBlock) ∧ some k_ ≠ (.slice Ao29 t169.length co29 : Value).ownBlock)) (n := t163.length) (c := co23) ?_).2.2; exact (by (with_reducible repeat (first | apply Kd.R_alloc | apply Kd.R_drewN | apply Kd.R_drew)); exact (Kd.R_mono (Kd.R_far (p := ⟨gb174, 1, none⟩) (Kd.R_far (p := ⟨gb174, 0, none⟩) (Kd.R_types HO165.out BK174.out (by decide)) (fun _ hk => hk.2) (.slice Ao29 t169.length co29)) (fun _ hk => hk.2) (.int .i64 t172)) (fun _ h_ => h_.1)))); (case side2 => exact (Kd.R_reads' HO165.out).2.1); rintro e w63 ⟨rfl, hb⟩; have n0_ := Aside0.mk (Kd.R_below (by (with_reducible repeat (first | apply Kd.R_alloc | apply Kd.R_drewN | apply Kd.R_drew)); exact (Kd.R_mono (Kd.R_far (p := ⟨gb174, 1, none⟩) (Kd.R_far (p := ⟨gb174, 0, none⟩) (Kd.R_types HO_4.out BK174.out (by decide)) (fun _ hk => hk.2) (.slice Ao29 t169.length co29)) (fun _ hk => hk.2) (.int .i64 t172)) (fun _ h_ => h_.1))) hb); have n1_ := Aside0.mk (Kd.R_below (by (with_reducible repeat (first | apply Kd.R_alloc | apply Kd.R_drewN | apply Kd.R_drew)); exact (Kd.R_mono (Kd.R_far (p := ⟨gb174, 1, none⟩) (Kd.R_far (p := ⟨gb174, 0, none⟩) (Kd.R_types HO160.out BK174.out (by decide)) (fun _ hk => hk.2) (.slice Ao29 t169.length co29)) (fun _ hk => hk.2) (.int .i64 t172)) (fun _ h_ => h_.1))) hb); have n2_ := Aside0.mk (Kd.R_below (by (with_reducible repeat (first | apply Kd.R_alloc | apply Kd.R_drewN | apply Kd.R_drew)); exact (Kd.R_mono (Kd.R_far (p := ⟨gb174, 1, none⟩) (Kd.R_far (p := ⟨gb174, 0, none⟩) (Kd.R_types HO165.out BK174.out (by decide)) (fun _ hk => hk.2) (.slice Ao29 t169.length co29)) (fun _ hk => hk.2) (.int .i64 t172)) (fun _ h_ => h_.1))) hb); have n3_ := Aside0.mk (Kd.R_below (by (with_reducible repeat (first | apply Kd.R_alloc | apply Kd.R_drewN | apply Kd.R_drew)); exact (Kd.R_mono (Kd.R_far (p := ⟨gb174, 1, none⟩) (Kd.R_far (p := ⟨gb174, 0, none⟩) (Kd.R_types HO171.out BK174.out (by decide)) (fun _ hk => hk.2) (.slice Ao29 t169.length co29)) (fun _ hk => hk.2) (.int .i64 t172)) (fun _ h_ => h_.1))) hb); have n4_ := Aside0.mk (IsS60.below (show IsS60 w ((w28.setCell ⟨gb174, 0, none⟩ (.slice Ao29 t169.length co29)).setCell ⟨gb174, 1, none⟩ (.int .i64 t172)) g150 t148 x151001_1 from by repeat (first | (with_reducible first | exact HI150.out | apply IsS60.alloc | apply IsS60.drewN | apply IsS60.drew | apply IsS60.set_1 | refine IsS60.far ?_ NB150_162.out _ | refine IsS60.far ?_ NB150_168.out _ | refine IsS60.far ?_ NB150_174.out _) | exact HI150.out)) hb); have n5_ := Aside0.mk (blk_below (g := gb162) (o := .cells #[.slice Ao18 t158.length co18, .int .i64 t161] 28 (0, 0)) (by (with_reducible repeat (first | refine blk_drewN ?_ _ | refine blk_drew ?_ | refine blk_alloc ?_ _)); refine blk_far ?_ NB162_174.out _; (with_reducible repeat (first | refine blk_drewN ?_ _ | refine blk_drew ?_ | refine blk_alloc ?_ _)); refine blk_far ?_ NB162_174.out _; (with_reducible repeat (first | refine blk_drewN ?_ _ | refine blk_drew ?_ | refine blk_alloc ?_ _)); exact BK162.out) hb); have n6_ := Aside0.mk (blk_below (g := gb168) (o := .cells #[.slice Ao23 t163.length co23, .int .i64 t166] 28 (0, 0)) (by (with_reducible repeat (first | refine blk_drewN ?_ _ | refine blk_drew ?_ | refine blk_alloc ?_ _)); refine blk_far ?_ NB168_174.out _; (with_reducible repeat (first | refine blk_drewN ?_ _ | refine blk_drew ?_ | refine blk_alloc ?_ _)); refine blk_far ?_ NB168_174.out _; (with_reducible repeat (first | refine blk_drewN ?_ _ | refine blk_drew ?_ | refine blk_alloc ?_ _)); exact BK168.out) hb); have n7_ := Aside0.mk (blk_below (g := gb174) (o := .cells #[.slice Ao29 t169.length co29, .int .i64 t172] 28 (0, 0)) (by (with_reducible repeat (first | refine blk_drewN ?_ _ | refine blk_drew ?_ | refine blk_alloc ?_ _)); refine blk_put (cs := #[.slice Ao29 t169.length co29, .int .i64 0]) ?_ 1 _ rfl; (with_reducible repeat (first | refine blk_drewN ?_ _ | refine blk_drew ?_ | refine blk_alloc ?_ _)); refine blk_put (cs := #[.slice none 0 0, .int .i64 0]) ?_ 0 _ rfl; (with_reducible repeat (first | refine blk_drewN ?_ _ | refine blk_drew ?_ | refine blk_alloc ?_ _)); exact BK174.out) hb); have n8_ := Aside0.mk (below_step (by repeat (first | (with_reducible first | exact HB.out | apply below_alloc | apply pw_below_drewN | apply below_drew1 | refine below_set ?_ (IsS60.ge HI150.out) | refine below_set ?_ GE162.out | refine below_set ?_ GE168.out | refine below_set ?_ GE174.out) | exact HB.out)) hb); clear HO_4; clear HO160; clear HO165; clear HO171; clear HI150; clear BK162; clear BK168; clear BK174; clear HB; have HO_4 := n0_; have HO160 := n1_; have HO165 := n2_; have HO171 := n3_; have HI150 := n4_; have BK162 := n5_; have BK168 := n6_; have BK174 := n7_; have HB := n8_; clear n0_ n1_ n2_ n3_ n4_ n5_ n6_ n7_ n8_; (try clear hb); (try clear hb2); (try clear hk); (try clear hi); have hcz64_0 : w63.cell? ⟨gb168, 0, none⟩ = some (.slice Ao23 t163.length co23) := (blk_cell BK168.out 0).trans rfl; have hcz64_1 : w63.cell? ⟨gb168, 1, none⟩ = some (.int .i64 t166) := (blk_cell BK168.out 1).trans rfl; have hfz64_0 := blk_frozen BK168.out 0; have hfz64_1 := blk_frozen BK168.out 1; have hnb65 := NB174_150.out; have hnc65 := NB150_174.out; have hcz66_0 : w63.cell? ⟨gb174, 0, none⟩ = some (.slice Ao29 t169.length co29) := (blk_cell BK174.out 0).trans rfl; have hcz66_1 : w63.cell? ⟨gb174, 1, none⟩ = some (.int .i64 t172) := (blk_cell BK174.out 1).trans rfl; have hfz66_0 := blk_frozen BK174.out 0; have hfz66_1 := blk_frozen BK174.out 1) | (go_at_call 14; (with_reducible refine (synopticref07_Same.calls _ _ t163 t166 _ _ t169 t172 t176 _ ?side1 ?side2 ?side3 ?side4 A55.out).mono ?_); (case side1 => repeat (first | exact (Kd.R_reads' HO165.out).2.2 | (with_reducible refine Kd.C_alloc ?_ _) | (with_reducible refine Kd.C_drewN ?_ _) | (with_reducible refine Kd.C_drew ?_))); (case side2 => exact (Kd.R_reads' HO165.out).2.1); (case side3 => repeat (first | exact (Kd.R_reads' HO171.out).2.2 | (with_reducible refine Kd.C_alloc ?_ _) | (with_reducible refine Kd.C_drewN ?_ _) | (with_reducible refine Kd.C_drew ?_))); (case side4 => exact (Kd.R_reads' HO171.out).2.1); rintro e w67 ⟨rfl, hb⟩; have n0_ := Aside0.mk (Kd.R_below (by (with_reducible repeat (first | apply Kd.R_alloc | apply Kd.R_drewN | apply Kd.R_drew)); exact HO_4.out) hb); have n1_ := Aside0.mk (Kd.R_below (by (with_reducible repeat (first | apply Kd.R_alloc | apply Kd.R_drewN | apply Kd.R_drew)); exact HO160.out) hb); have n2_ := Aside0.mk (Kd.R_below (by (with_reducible repeat (first | apply Kd.R_alloc | apply Kd.R_drewN | apply Kd.R_drew)); exact HO165.out) hb); have n3_ := Aside0.mk (Kd.R_below (by (with_reducible repeat (first | apply Kd.R_alloc | apply Kd.R_drewN | apply Kd.R_drew)); exact HO171.out) hb); have n4_ := Aside0.mk (IsS60.below (by repeat (first | (with_reducible first | exact HI150.out | apply IsS60.alloc | apply IsS60.drewN | apply IsS60.drew | apply IsS60.set_1 | refine IsS60.far ?_ NB150_162.out _ | refine IsS60.far ?_ NB150_168.out _ | refine IsS60.far ?_ NB150_174.out _) | exact HI150.out)) hb); have n5_ := Aside0.mk (blk_below (g := gb162) (o := .cells #[.slice Ao18 t158.length co18, .int .i64 t161] 28 (0, 0)) (by (with_reducible repeat (first | refine blk_drewN ?_ _ | refine blk_drew ?_ | refine blk_alloc ?_ _)); exact BK162.out) hb); have n6_ := Aside0.mk (blk_below (g := gb168) (o := .cells #[.slice Ao23 t163.length co23, .int .i64 t166] 28 (0, 0)) (by (with_reducible repeat (first | refine blk_drewN ?_ _ | refine blk_drew ?_ | refine blk_alloc ?_ _)); exact BK168.out) hb); have n7_ := Aside0.mk (blk_below (g := gb174) (o := .cells #[.slice Ao29 t169.length co29, .int .i64 t172] 28 (0, 0)) (by (with_reducible repeat (first | refine blk_drewN ?_ _ | refine blk_drew ?_ | refine blk_alloc ?_ _)); exact BK174.out) hb); have n8_ := Aside0.mk (below_step (by repeat (first | (with_reducible first | exact HB.out | apply below_alloc | apply pw_below_drewN | apply below_drew1 | refine below_set ?_ (IsS60.ge HI150.out) | refine below_set ?_ GE162.out | refine below_set ?_ GE168.out | refine below_set ?_ GE174.out) | exact HB.out)) hb); clear HO_4; clear HO160; clear HO165; clear HO171; clear HI150; clear BK162; clear BK168; clear BK174; clear HB; have HO_4 := n0_; have HO160 := n1_; have HO165 := n2_; have HO171 := n3_; have HI150 := n4_; have BK162 := n5_; have BK168 := n6_; have BK174 := n7_; have HB := n8_; clear n0_ n1_ n2_ n3_ n4_ n5_ n6_ n7_ n8_; (try clear hb); (try clear hb2); (try clear hk); (try clear hi)))
                      go_meet
                      case rel => exact ⟨_, (!t176), (by first | rfl | (simp; done) | (simp [*]; done)), H', ⟨by have := HK1.out; first | omega | exact Nat.le_refl _⟩, ⟨by (with_reducible repeat (first | apply Kd.R_alloc | apply Kd.R_drewN | apply Kd.R_drew)); exact HO_4.out⟩, ⟨by (with_reducible repeat (first | apply Kd.R_alloc | apply Kd.R_drewN | apply Kd.R_drew)); exact Kd.R_mono HO160.out (fun _ hk => ⟨hk.1.2, hk.2⟩)⟩, ⟨by (with_reducible repeat (first | apply Kd.R_alloc | apply Kd.R_drewN | apply Kd.R_drew)); exact Kd.R_mono HO165.out (fun _ hk => ⟨hk.1.2, hk.2⟩)⟩, ⟨by (with_reducible repeat (first | apply Kd.R_alloc | apply Kd.R_drewN | apply Kd.R_drew)); exact Kd.R_mono HO171.out (fun _ hk => ⟨hk.1.2, hk.2⟩)⟩, ⟨by (with_reducible repeat (first | refine blk_drewN ?_ _ | refine blk_drew ?_ | refine blk_alloc ?_ _)); exact BK162.out⟩, ⟨by (with_reducible repeat (first | refine blk_drewN ?_ _ | refine blk_drew ?_ | refine blk_alloc ?_ _)); exact BK168.out⟩, ⟨by (with_reducible repeat (first | refine blk_drewN ?_ _ | refine blk_drew ?_ | refine blk_alloc ?_ _)); exact BK174.out⟩, ⟨by repeat (first | (with_reducible first | exact HB.out | apply below_alloc | apply pw_below_drewN | apply below_drew1 | refine below_set ?_ (IsS60.ge HI150.out) | refine below_set ?_ GE162.out | refine below_set ?_ GE168.out | refine below_set ?_ GE174.out) | exact HB.out)⟩⟩
                    · replace c54 := Bool.eq_false_iff.mpr c54
                      subst c54
                      have H1 : (synopticlaw07_BitsPads.j1 k1 x4_1 true t158 t161 t163 t166) = some r := by rw [if_neg (show ¬ (false = true) by decide)] at H; exact H
                      clear H
                      have H := H1
                      clear H1
                      have H' := Aside0.mk H
                      clear H
                      have hnb68 := NB168_162.out
                      have hnc68 := NB162_168.out
                      have hnb69 := NB168_174.out
                      have hnc69 := NB174_168.out
                      have hnb70 := NB168_150.out
                      have hnc70 := NB150_168.out
                      have hcz71_0 : w28.cell? ⟨gb168, 0, none⟩ = some (.slice Ao23 t163.length co23) := (blk_cell BK168.out 0).trans rfl
                      have hcz71_1 : w28.cell? ⟨gb168, 1, none⟩ = some (.int .i64 t166) := (blk_cell BK168.out 1).trans rfl
                      have hfz71_0 := blk_frozen BK168.out 0
                      have hfz71_1 := blk_frozen BK168.out 1
                      have hnb72 := NB162_174.out
                      have hnc72 := NB174_162.out
                      have hnb73 := NB162_150.out
                      have hnc73 := NB150_162.out
                      have hcz74_0 : w28.cell? ⟨gb162, 0, none⟩ = some (.slice Ao18 t158.length co18) := (blk_cell BK162.out 0).trans rfl
                      have hcz74_1 : w28.cell? ⟨gb162, 1, none⟩ = some (.int .i64 t161) := (blk_cell BK162.out 1).trans rfl
                      have hfz74_0 := blk_frozen BK162.out 0
                      have hfz74_1 := blk_frozen BK162.out 1
                      go_wp2_with (first | (go_at_call 13; (with_reducible refine (synopticref07_Valid.calls k1 _ _ t163 t166 false _ ?side1 ?side2 A53.out).mono ?_); (case side1 => refine (Kd.R_reads' (e := 5) (base := w.heap.size) (ok := fun k_ => ((True ∧ some k_ ≠ (.slice Ao18 t158.length co18 : Value).ownBlock) ∧ some k_ ≠ (.slice Ao29 t169.length co29 : Value).ownBlock)) (n := t163.length) (c := co23) ?_).2.2; exact (by (with_reducible repeat (first | apply Kd.R_alloc | apply Kd.R_drewN | apply Kd.R_drew)); exact (Kd.R_mono (Kd.R_far (p := ⟨gb174, 1, none⟩) (Kd.R_far (p := ⟨gb174, 0, none⟩) (Kd.R_types HO165.out BK174.out (by decide)) (fun _ hk => hk.2) (.slice Ao29 t169.length co29)) (fun _ hk => hk.2) (.int .i64 t172)) (fun _ h_ => h_.1)))); (case side2 => exact (Kd.R_reads' HO165.out).2.1); rintro e w75 ⟨rfl, hb⟩; have n0_ := Aside0.mk (Kd.R_below (by (with_reducible repeat (first | apply Kd.R_alloc | apply Kd.R_drewN | apply Kd.R_drew)); exact (Kd.R_mono (Kd.R_far (p := ⟨gb174, 1, none⟩) (Kd.R_far (p := ⟨gb174, 0, none⟩) (Kd.R_types HO_4.out BK174.out (by decide)) (fun _ hk => hk.2) (.slice Ao29 t169.length co29)) (fun _ hk => hk.2) (.int .i64 t172)) (fun _ h_ => h_.1))) hb); have n1_ := Aside0.mk (Kd.R_below (by (with_reducible repeat (first | apply Kd.R_alloc | apply Kd.R_drewN | apply Kd.R_drew)); exact (Kd.R_mono (Kd.R_far (p := ⟨gb174, 1, none⟩) (Kd.R_far (p := ⟨gb174, 0, none⟩) (Kd.R_types HO160.out BK174.out (by decide)) (fun _ hk => hk.2) (.slice Ao29 t169.length co29)) (fun _ hk => hk.2) (.int .i64 t172)) (fun _ h_ => h_.1))) hb); have n2_ := Aside0.mk (Kd.R_below (by (with_reducible repeat (first | apply Kd.R_alloc | apply Kd.R_drewN | apply Kd.R_drew)); exact (Kd.R_mono (Kd.R_far (p := ⟨gb174, 1, none⟩) (Kd.R_far (p := ⟨gb174, 0, none⟩) (Kd.R_types HO165.out BK174.out (by decide)) (fun _ hk => hk.2) (.slice Ao29 t169.length co29)) (fun _ hk => hk.2) (.int .i64 t172)) (fun _ h_ => h_.1))) hb); have n3_ := Aside0.mk (Kd.R_below (by (with_reducible repeat (first | apply Kd.R_alloc | apply Kd.R_drewN | apply Kd.R_drew)); exact (Kd.R_mono (Kd.R_far (p := ⟨gb174, 1, none⟩) (Kd.R_far (p := ⟨gb174, 0, none⟩) (Kd.R_types HO171.out BK174.out (by decide)) (fun _ hk => hk.2) (.slice Ao29 t169.length co29)) (fun _ hk => hk.2) (.int .i64 t172)) (fun _ h_ => h_.1))) hb); have n4_ := Aside0.mk (IsS60.below (show IsS60 w ((w28.setCell ⟨gb174, 0, none⟩ (.slice Ao29 t169.length co29)).setCell ⟨gb174, 1, none⟩ (.int .i64 t172)) g150 t148 x151001_1 from by repeat (first | (with_reducible first | exact HI150.out | apply IsS60.alloc | apply IsS60.drewN | apply IsS60.drew | apply IsS60.set_1 | refine IsS60.far ?_ NB150_162.out _ | refine IsS60.far ?_ NB150_168.out _ | refine IsS60.far ?_ NB150_174.out _) | exact HI150.out)) hb); have n5_ := Aside0.mk (blk_below (g := gb162) (o := .cells #[.slice Ao18 t158.length co18, .int .i64 t161] 28 (0, 0)) (by (with_reducible repeat (first | refine blk_drewN ?_ _ | refine blk_drew ?_ | refine blk_alloc ?_ _)); refine blk_far ?_ NB162_174.out _; (with_reducible repeat (first | refine blk_drewN ?_ _ | refine blk_drew ?_ | refine blk_alloc ?_ _)); refine blk_far ?_ NB162_174.out _; (with_reducible repeat (first | refine blk_drewN ?_ _ | refine blk_drew ?_ | refine blk_alloc ?_ _)); exact BK162.out) hb); have n6_ := Aside0.mk (blk_below (g := gb168) (o := .cells #[.slice Ao23 t163.length co23, .int .i64 t166] 28 (0, 0)) (by (with_reducible repeat (first | refine blk_drewN ?_ _ | refine blk_drew ?_ | refine blk_alloc ?_ _)); refine blk_far ?_ NB168_174.out _; (with_reducible repeat (first | refine blk_drewN ?_ _ | refine blk_drew ?_ | refine blk_alloc ?_ _)); refine blk_far ?_ NB168_174.out _; (with_reducible repeat (first | refine blk_drewN ?_ _ | refine blk_drew ?_ | refine blk_alloc ?_ _)); exact BK168.out) hb); have n7_ := Aside0.mk (blk_below (g := gb174) (o := .cells #[.slice Ao29 t169.length co29, .int .i64 t172] 28 (0, 0)) (by (with_reducible repeat (first | refine blk_drewN ?_ _ | refine blk_drew ?_ | refine blk_alloc ?_ _)); refine blk_put (cs := #[.slice Ao29 t169.length co29, .int .i64 0]) ?_ 1 _ rfl; (with_reducible repeat (first | refine blk_drewN ?_ _ | refine blk_drew ?_ | refine blk_alloc ?_ _)); refine blk_put (cs := #[.slice none 0 0, .int .i64 0]) ?_ 0 _ rfl; (with_reducible repeat (first | refine blk_drewN ?_ _ | refine blk_drew ?_ | refine blk_alloc ?_ _)); exact BK174.out) hb); have n8_ := Aside0.mk (below_step (by repeat (first | (with_reducible first | exact HB.out | apply below_alloc | apply pw_below_drewN | apply below_drew1 | refine below_set ?_ (IsS60.ge HI150.out) | refine below_set ?_ GE162.out | refine below_set ?_ GE168.out | refine below_set ?_ GE174.out) | exact HB.out)) hb); clear HO_4; clear HO160; clear HO165; clear HO171; clear HI150; clear BK162; clear BK168; clear BK174; clear HB; have HO_4 := n0_; have HO160 := n1_; have HO165 := n2_; have HO171 := n3_; have HI150 := n4_; have BK162 := n5_; have BK168 := n6_; have BK174 := n7_; have HB := n8_; clear n0_ n1_ n2_ n3_ n4_ n5_ n6_ n7_ n8_; (try clear hb); (try clear hb2); (try clear hk); (try clear hi)))
                      go_meet
                      case rel => exact ⟨_, (true), (by first | rfl | (simp; done) | (simp [*]; done)), H', ⟨by have := HK1.out; first | omega | exact Nat.le_refl _⟩, ⟨by (with_reducible repeat (first | apply Kd.R_alloc | apply Kd.R_drewN | apply Kd.R_drew)); exact HO_4.out⟩, ⟨by (with_reducible repeat (first | apply Kd.R_alloc | apply Kd.R_drewN | apply Kd.R_drew)); exact Kd.R_mono HO160.out (fun _ hk => ⟨hk.1.2, hk.2⟩)⟩, ⟨by (with_reducible repeat (first | apply Kd.R_alloc | apply Kd.R_drewN | apply Kd.R_drew)); exact Kd.R_mono HO165.out (fun _ hk => ⟨hk.1.2, hk.2⟩)⟩, ⟨by (with_reducible repeat (first | apply Kd.R_alloc | apply Kd.R_drewN | apply Kd.R_drew)); exact Kd.R_mono HO171.out (fun _ hk => ⟨hk.1.2, hk.2⟩)⟩, ⟨by (with_reducible repeat (first | refine blk_drewN ?_ _ | refine blk_drew ?_ | refine blk_alloc ?_ _)); exact BK162.out⟩, ⟨by (with_reducible repeat (first | refine blk_drewN ?_ _ | refine blk_drew ?_ | refine blk_alloc ?_ _)); exact BK168.out⟩, ⟨by (with_reducible repeat (first | refine blk_drewN ?_ _ | refine blk_drew ?_ | refine blk_alloc ?_ _)); exact BK174.out⟩, ⟨by repeat (first | (with_reducible first | exact HB.out | apply below_alloc | apply pw_below_drewN | apply below_drew1 | refine below_set ?_ (IsS60.ge HI150.out) | refine below_set ?_ GE162.out | refine below_set ?_ GE168.out | refine below_set ?_ GE174.out) | exact HB.out)⟩⟩
              · rw [if_neg c36] at H
                have c36b0 : ((Int.tmod t166 8) == 0) = false := beq_eq_false_iff_ne.mpr c36
                have c36b1 : ((Int.tmod t166 8) != 0) = true := bne_iff_ne.mpr c36
                have H' := Aside0.mk H
                clear H
                have hnb76 := NB168_162.out
                have hnc76 := NB162_168.out
                have hnb77 := NB168_174.out
                have hnc77 := NB174_168.out
                have hnb78 := NB168_150.out
                have hnc78 := NB150_168.out
                have hcz79_0 : w28.cell? ⟨gb168, 0, none⟩ = some (.slice Ao23 t163.length co23) := (blk_cell BK168.out 0).trans rfl
                have hcz79_1 : w28.cell? ⟨gb168, 1, none⟩ = some (.int .i64 t166) := (blk_cell BK168.out 1).trans rfl
                have hfz79_0 := blk_frozen BK168.out 0
                have hfz79_1 := blk_frozen BK168.out 1
                go_wp2
                go_meet
                case rel => exact ⟨_, (true), (by first | rfl | (simp; done) | (simp [*]; done)), H', ⟨by have := HK1.out; first | omega | exact Nat.le_refl _⟩, ⟨by (with_reducible repeat (first | apply Kd.R_alloc | apply Kd.R_drewN | apply Kd.R_drew)); exact Kd.R_mono (Kd.R_far (p := ⟨gb174, 1, none⟩) (Kd.R_far (p := ⟨gb174, 0, none⟩) (Kd.R_types HO_4.out BK174.out (by decide)) (fun _ hk => hk.2) (.slice Ao29 t169.length co29)) (fun _ hk => hk.2) (.int .i64 t172)) (fun _ hk => trivial)⟩, ⟨by (with_reducible repeat (first | apply Kd.R_alloc | apply Kd.R_drewN | apply Kd.R_drew)); exact Kd.R_mono (Kd.R_far (p := ⟨gb174, 1, none⟩) (Kd.R_far (p := ⟨gb174, 0, none⟩) (Kd.R_types HO160.out BK174.out (by decide)) (fun _ hk => hk.2) (.slice Ao29 t169.length co29)) (fun _ hk => hk.2) (.int .i64 t172)) (fun _ hk => ⟨hk.1.1.2, hk.1.2⟩)⟩, ⟨by (with_reducible repeat (first | apply Kd.R_alloc | apply Kd.R_drewN | apply Kd.R_drew)); exact Kd.R_mono (Kd.R_far (p := ⟨gb174, 1, none⟩) (Kd.R_far (p := ⟨gb174, 0, none⟩) (Kd.R_types HO165.out BK174.out (by decide)) (fun _ hk => hk.2) (.slice Ao29 t169.length co29)) (fun _ hk => hk.2) (.int .i64 t172)) (fun _ hk => ⟨hk.1.1.2, hk.1.2⟩)⟩, ⟨by (with_reducible repeat (first | apply Kd.R_alloc | apply Kd.R_drewN | apply Kd.R_drew)); exact Kd.R_mono (Kd.R_far (p := ⟨gb174, 1, none⟩) (Kd.R_far (p := ⟨gb174, 0, none⟩) (Kd.R_types HO171.out BK174.out (by decide)) (fun _ hk => hk.2) (.slice Ao29 t169.length co29)) (fun _ hk => hk.2) (.int .i64 t172)) (fun _ hk => ⟨hk.1.1.2, hk.1.2⟩)⟩, ⟨by (with_reducible repeat (first | refine blk_drewN ?_ _ | refine blk_drew ?_ | refine blk_alloc ?_ _)); refine blk_far ?_ NB162_174.out _; (with_reducible repeat (first | refine blk_drewN ?_ _ | refine blk_drew ?_ | refine blk_alloc ?_ _)); refine blk_far ?_ NB162_174.out _; (with_reducible repeat (first | refine blk_drewN ?_ _ | refine blk_drew ?_ | refine blk_alloc ?_ _)); exact BK162.out⟩, ⟨by (with_reducible repeat (first | refine blk_drewN ?_ _ | refine blk_drew ?_ | refine blk_alloc ?_ _)); refine blk_far ?_ NB168_174.out _; (with_reducible repeat (first | refine blk_drewN ?_ _ | refine blk_drew ?_ | refine blk_alloc ?_ _)); refine blk_far ?_ NB168_174.out _; (with_reducible repeat (first | refine blk_drewN ?_ _ | refine blk_drew ?_ | refine blk_alloc ?_ _)); exact BK168.out⟩, ⟨by (with_reducible repeat (first | refine blk_drewN ?_ _ | refine blk_drew ?_ | refine blk_alloc ?_ _)); refine blk_put (cs := #[.slice Ao29 t169.length co29, .int .i64 0]) ?_ 1 _ rfl; (with_reducible repeat (first | refine blk_drewN ?_ _ | refine blk_drew ?_ | refine blk_alloc ?_ _)); refine blk_put (cs := #[.slice none 0 0, .int .i64 0]) ?_ 0 _ rfl; (with_reducible repeat (first | refine blk_drewN ?_ _ | refine blk_drew ?_ | refine blk_alloc ?_ _)); exact BK174.out⟩, ⟨by repeat (first | (with_reducible first | exact HB.out | apply below_alloc | apply pw_below_drewN | apply below_drew1 | refine below_set ?_ (IsS60.ge HI150.out) | refine below_set ?_ GE162.out | refine below_set ?_ GE168.out | refine below_set ?_ GE174.out) | exact HB.out)⟩⟩
            · rw [if_neg c35] at H
              have c35b0 : (t173 == 0) = false := beq_eq_false_iff_ne.mpr c35
              have c35b1 : (t173 != 0) = true := bne_iff_ne.mpr c35
              have H' := Aside0.mk H
              clear H
              go_wp2
              go_meet
              case rel => exact ⟨_, (true), (by first | rfl | (simp; done) | (simp [*]; done)), H', ⟨by have := HK1.out; first | omega | exact Nat.le_refl _⟩, ⟨by (with_reducible repeat (first | apply Kd.R_alloc | apply Kd.R_drewN | apply Kd.R_drew)); exact Kd.R_mono (Kd.R_far (p := ⟨gb174, 1, none⟩) (Kd.R_far (p := ⟨gb174, 0, none⟩) (Kd.R_types HO_4.out BK174.out (by decide)) (fun _ hk => hk.2) (.slice Ao29 t169.length co29)) (fun _ hk => hk.2) (.int .i64 t172)) (fun _ hk => trivial)⟩, ⟨by (with_reducible repeat (first | apply Kd.R_alloc | apply Kd.R_drewN | apply Kd.R_drew)); exact Kd.R_mono (Kd.R_far (p := ⟨gb174, 1, none⟩) (Kd.R_far (p := ⟨gb174, 0, none⟩) (Kd.R_types HO160.out BK174.out (by decide)) (fun _ hk => hk.2) (.slice Ao29 t169.length co29)) (fun _ hk => hk.2) (.int .i64 t172)) (fun _ hk => ⟨hk.1.1.2, hk.1.2⟩)⟩, ⟨by (with_reducible repeat (first | apply Kd.R_alloc | apply Kd.R_drewN | apply Kd.R_drew)); exact Kd.R_mono (Kd.R_far (p := ⟨gb174, 1, none⟩) (Kd.R_far (p := ⟨gb174, 0, none⟩) (Kd.R_types HO165.out BK174.out (by decide)) (fun _ hk => hk.2) (.slice Ao29 t169.length co29)) (fun _ hk => hk.2) (.int .i64 t172)) (fun _ hk => ⟨hk.1.1.2, hk.1.2⟩)⟩, ⟨by (with_reducible repeat (first | apply Kd.R_alloc | apply Kd.R_drewN | apply Kd.R_drew)); exact Kd.R_mono (Kd.R_far (p := ⟨gb174, 1, none⟩) (Kd.R_far (p := ⟨gb174, 0, none⟩) (Kd.R_types HO171.out BK174.out (by decide)) (fun _ hk => hk.2) (.slice Ao29 t169.length co29)) (fun _ hk => hk.2) (.int .i64 t172)) (fun _ hk => ⟨hk.1.1.2, hk.1.2⟩)⟩, ⟨by (with_reducible repeat (first | refine blk_drewN ?_ _ | refine blk_drew ?_ | refine blk_alloc ?_ _)); refine blk_far ?_ NB162_174.out _; (with_reducible repeat (first | refine blk_drewN ?_ _ | refine blk_drew ?_ | refine blk_alloc ?_ _)); refine blk_far ?_ NB162_174.out _; (with_reducible repeat (first | refine blk_drewN ?_ _ | refine blk_drew ?_ | refine blk_alloc ?_ _)); exact BK162.out⟩, ⟨by (with_reducible repeat (first | refine blk_drewN ?_ _ | refine blk_drew ?_ | refine blk_alloc ?_ _)); refine blk_far ?_ NB168_174.out _; (with_reducible repeat (first | refine blk_drewN ?_ _ | refine blk_drew ?_ | refine blk_alloc ?_ _)); refine blk_far ?_ NB168_174.out _; (with_reducible repeat (first | refine blk_drewN ?_ _ | refine blk_drew ?_ | refine blk_alloc ?_ _)); exact BK168.out⟩, ⟨by (with_reducible repeat (first | refine blk_drewN ?_ _ | refine blk_drew ?_ | refine blk_alloc ?_ _)); refine blk_put (cs := #[.slice Ao29 t169.length co29, .int .i64 0]) ?_ 1 _ rfl; (with_reducible repeat (first | refine blk_drewN ?_ _ | refine blk_drew ?_ | refine blk_alloc ?_ _)); refine blk_put (cs := #[.slice none 0 0, .int .i64 0]) ?_ 0 _ rfl; (with_reducible repeat (first | refine blk_drewN ?_ _ | refine blk_drew ?_ | refine blk_alloc ?_ _)); exact BK174.out⟩, ⟨by repeat (first | (with_reducible first | exact HB.out | apply below_alloc | apply pw_below_drewN | apply below_drew1 | refine below_set ?_ (IsS60.ge HI150.out) | refine below_set ?_ GE162.out | refine below_set ?_ GE168.out | refine below_set ?_ GE174.out) | exact HB.out)⟩⟩
          · rw [if_neg c34] at H
            have c34b0 : (t167 == 0) = false := beq_eq_false_iff_ne.mpr c34
            have c34b1 : (t167 != 0) = true := bne_iff_ne.mpr c34
            (first | rw [c34b0] | (simp only [i64_w, i32_w]; rw [c34b0]) | skip)
            have H' := Aside0.mk H
            clear H
            go_wp2
            go_meet
            case rel => exact ⟨_, (true), (by first | rfl | (simp; done) | (simp [*]; done)), H', ⟨by have := HK1.out; first | omega | exact Nat.le_refl _⟩, ⟨by (with_reducible repeat (first | apply Kd.R_alloc | apply Kd.R_drewN | apply Kd.R_drew)); exact Kd.R_mono (Kd.R_far (p := ⟨gb174, 1, none⟩) (Kd.R_far (p := ⟨gb174, 0, none⟩) (Kd.R_types HO_4.out BK174.out (by decide)) (fun _ hk => hk.2) (.slice Ao29 t169.length co29)) (fun _ hk => hk.2) (.int .i64 t172)) (fun _ hk => trivial)⟩, ⟨by (with_reducible repeat (first | apply Kd.R_alloc | apply Kd.R_drewN | apply Kd.R_drew)); exact Kd.R_mono (Kd.R_far (p := ⟨gb174, 1, none⟩) (Kd.R_far (p := ⟨gb174, 0, none⟩) (Kd.R_types HO160.out BK174.out (by decide)) (fun _ hk => hk.2) (.slice Ao29 t169.length co29)) (fun _ hk => hk.2) (.int .i64 t172)) (fun _ hk => ⟨hk.1.1.2, hk.1.2⟩)⟩, ⟨by (with_reducible repeat (first | apply Kd.R_alloc | apply Kd.R_drewN | apply Kd.R_drew)); exact Kd.R_mono (Kd.R_far (p := ⟨gb174, 1, none⟩) (Kd.R_far (p := ⟨gb174, 0, none⟩) (Kd.R_types HO165.out BK174.out (by decide)) (fun _ hk => hk.2) (.slice Ao29 t169.length co29)) (fun _ hk => hk.2) (.int .i64 t172)) (fun _ hk => ⟨hk.1.1.2, hk.1.2⟩)⟩, ⟨by (with_reducible repeat (first | apply Kd.R_alloc | apply Kd.R_drewN | apply Kd.R_drew)); exact Kd.R_mono (Kd.R_far (p := ⟨gb174, 1, none⟩) (Kd.R_far (p := ⟨gb174, 0, none⟩) (Kd.R_types HO171.out BK174.out (by decide)) (fun _ hk => hk.2) (.slice Ao29 t169.length co29)) (fun _ hk => hk.2) (.int .i64 t172)) (fun _ hk => ⟨hk.1.1.2, hk.1.2⟩)⟩, ⟨by (with_reducible repeat (first | refine blk_drewN ?_ _ | refine blk_drew ?_ | refine blk_alloc ?_ _)); refine blk_far ?_ NB162_174.out _; (with_reducible repeat (first | refine blk_drewN ?_ _ | refine blk_drew ?_ | refine blk_alloc ?_ _)); refine blk_far ?_ NB162_174.out _; (with_reducible repeat (first | refine blk_drewN ?_ _ | refine blk_drew ?_ | refine blk_alloc ?_ _)); exact BK162.out⟩, ⟨by (with_reducible repeat (first | refine blk_drewN ?_ _ | refine blk_drew ?_ | refine blk_alloc ?_ _)); refine blk_far ?_ NB168_174.out _; (with_reducible repeat (first | refine blk_drewN ?_ _ | refine blk_drew ?_ | refine blk_alloc ?_ _)); refine blk_far ?_ NB168_174.out _; (with_reducible repeat (first | refine blk_drewN ?_ _ | refine blk_drew ?_ | refine blk_alloc ?_ _)); exact BK168.out⟩, ⟨by (with_reducible repeat (first | refine blk_drewN ?_ _ | refine blk_drew ?_ | refine blk_alloc ?_ _)); refine blk_put (cs := #[.slice Ao29 t169.length co29, .int .i64 0]) ?_ 1 _ rfl; (with_reducible repeat (first | refine blk_drewN ?_ _ | refine blk_drew ?_ | refine blk_alloc ?_ _)); refine blk_put (cs := #[.slice none 0 0, .int .i64 0]) ?_ 0 _ rfl; (with_reducible repeat (first | refine blk_drewN ?_ _ | refine blk_drew ?_ | refine blk_alloc ?_ _)); exact BK174.out⟩, ⟨by repeat (first | (with_reducible first | exact HB.out | apply below_alloc | apply pw_below_drewN | apply below_drew1 | refine below_set ?_ (IsS60.ge HI150.out) | refine below_set ?_ GE162.out | refine below_set ?_ GE168.out | refine below_set ?_ GE174.out) | exact HB.out)⟩⟩
        case rest =>
          clear HC14
          try clear c1
          try clear c2
          try clear p2
          try clear c3
          try clear c4
          try clear c5
          try clear c6
          try clear c6b0
          try clear p6
          try clear c7
          try clear c8
          try clear c9
          try clear c10
          try clear c11
          try clear c12
          try clear c19
          try clear c24
          try clear c25
          try clear c30
          try clear c31
          try clear c32
          try clear c34
          try clear c34b0
          try clear c34b1
          try clear c35
          try clear c35b0
          try clear c35b1
          try clear c36
          try clear c36b0
          try clear c36b1
          try clear c37
          try clear c37b0
          try clear c38
          try clear c39
          try clear c40
          try clear c42
          try clear c43
          try clear c45
          try clear c45b0
          try clear c46
          try clear c47
          try clear c48
          try clear c50
          try clear c51
          try clear c54
          try clear c56
          try clear c57
          try clear c58
          try clear c60
          try clear c61
          try clear p64
          try clear c65
          try clear c68
          try clear c69
          try clear c70
          try clear c72
          try clear c73
          try clear c76
          try clear c77
          try clear c78
          try clear hcz20_0
          try clear hcz20_1
          try clear hcz26_0
          try clear hcz26_1
          try clear hcz33_0
          try clear hcz33_1
          try clear hcz41_0
          try clear hcz41_1
          try clear hcz44_0
          try clear hcz44_1
          try clear hcz49_0
          try clear hcz49_1
          try clear hcz52_0
          try clear hcz52_1
          try clear hcz59_0
          try clear hcz59_1
          try clear hcz62_0
          try clear hcz62_1
          try clear hcz64_0
          try clear hcz64_1
          try clear hcz66_0
          try clear hcz66_1
          try clear hcz71_0
          try clear hcz71_1
          try clear hcz74_0
          try clear hcz74_1
          try clear hcz79_0
          try clear hcz79_1
          try clear hfz20_0
          try clear hfz20_1
          try clear hfz26_0
          try clear hfz26_1
          try clear hfz33_0
          try clear hfz33_1
          try clear hfz41_0
          try clear hfz41_1
          try clear hfz44_0
          try clear hfz44_1
          try clear hfz49_0
          try clear hfz49_1
          try clear hfz52_0
          try clear hfz52_1
          try clear hfz59_0
          try clear hfz59_1
          try clear hfz62_0
          try clear hfz62_1
          try clear hfz64_0
          try clear hfz64_1
          try clear hfz66_0
          try clear hfz66_1
          try clear hfz71_0
          try clear hfz71_1
          try clear hfz74_0
          try clear hfz74_1
          try clear hfz79_0
          try clear hfz79_1
          try clear p2
          obtain ⟨kq, x75_13, rfl, HA, HJ13, HO_4, HO_163000, HO_169000, HO_175000, BK162, BK168, BK174, HB⟩ := hcut
          cases kq with
          | zero => exact absurd HA.out (by simp [synopticlaw07_BitsPads.j1])
          | succ kj13 =>
            have H := HA.out
            clear HA
            simp only [synopticlaw07_BitsPads.j1] at H
            by_cases c80 : x75_13 = true
            · subst c80
              have H1 : (some false) = some r := by rw [if_pos rfl] at H; exact H
              clear H
              have H := H1
              clear H1
              obtain rfl := Option.some.inj H
              go_wp2
              go_ret
              exact ⟨by first | rfl | (simp [errW_none, errW_some] <;> rfl) | (simp [*, errW_none, errW_some] <;> rfl), by repeat (first | (with_reducible first | exact HB.out | apply below_alloc | apply pw_below_drewN | apply below_drew1 | refine below_set ?_ GE162.out | refine below_set ?_ GE168.out | refine below_set ?_ GE174.out) | exact HB.out)⟩
            · replace c80 := Bool.eq_false_iff.mpr c80
              subst c80
              have H1 : (synopticlaw07_BitsPads.l1 kj13 x4_1 0 t158 t161 t163 t166) = some r := by rw [if_neg (show ¬ (false = true) by decide)] at H; exact H
              clear H
              have H := H1
              clear H1
              have H' := Aside0.mk H
              clear H
              go_wp2
              go_loopg [11] kj13 (fun kq v11 w' => ∃ (x11_3 : Int), v11 = .int .i64 x11_3 ∧ Aside0 (synopticlaw07_BitsPads.l1 kq x4_1 x11_3 t158 t161 t163 t166 = some r) ∧ Aside0 (kq ≤ kj13) ∧ Aside0 (Kd.R (Kd.int .i64) 3 w' w.heap.size (fun _ => True) (.slice Ao15 x4_1.length co15) x4_1) ∧ Aside0 (Kd.R (Kd.int .u8) 5 w' w.heap.size (fun k_ => some k_ ≠ ((.slice Ao23 t163.length co23) : Value).ownBlock ∧ some k_ ≠ ((.slice Ao29 t169.length co29) : Value).ownBlock) (.slice Ao18 t158.length co18) t158) ∧ Aside0 (Kd.R (Kd.int .u8) 5 w' w.heap.size (fun k_ => some k_ ≠ ((.slice Ao18 t158.length co18) : Value).ownBlock ∧ some k_ ≠ ((.slice Ao29 t169.length co29) : Value).ownBlock) (.slice Ao23 t163.length co23) t163) ∧ Aside0 (Kd.R (Kd.int .u8) 5 w' w.heap.size (fun k_ => some k_ ≠ ((.slice Ao18 t158.length co18) : Value).ownBlock ∧ some k_ ≠ ((.slice Ao23 t163.length co23) : Value).ownBlock) (.slice Ao29 t169.length co29) t169) ∧ Aside0 (w'.heap[gb162]? = some (.cells #[(.slice Ao18 t158.length co18), .int .i64 t161] 28 (0, 0))) ∧ Aside0 (w'.heap[gb168]? = some (.cells #[(.slice Ao23 t163.length co23), .int .i64 t166] 28 (0, 0))) ∧ Aside0 (w'.heap[gb174]? = some (.cells #[(.slice Ao29 t169.length co29), .int .i64 t172] 28 (0, 0))) ∧ Aside0 (Below w.heap.size w w'))
              case atStart => exact ⟨(0), (by first | rfl | (simp; done) | (simp [*]; done)), H', ⟨Nat.le_refl _⟩, ⟨by (with_reducible repeat (first | apply Kd.R_alloc | apply Kd.R_drewN | apply Kd.R_drew)); exact HO_4.out⟩, ⟨by (with_reducible repeat (first | apply Kd.R_alloc | apply Kd.R_drewN | apply Kd.R_drew)); exact HO_163000.out⟩, ⟨by (with_reducible repeat (first | apply Kd.R_alloc | apply Kd.R_drewN | apply Kd.R_drew)); exact HO_169000.out⟩, ⟨by (with_reducible repeat (first | apply Kd.R_alloc | apply Kd.R_drewN | apply Kd.R_drew)); exact HO_175000.out⟩, ⟨by (with_reducible repeat (first | refine blk_drewN ?_ _ | refine blk_drew ?_ | refine blk_alloc ?_ _)); exact BK162.out⟩, ⟨by (with_reducible repeat (first | refine blk_drewN ?_ _ | refine blk_drew ?_ | refine blk_alloc ?_ _)); exact BK168.out⟩, ⟨by (with_reducible repeat (first | refine blk_drewN ?_ _ | refine blk_drew ?_ | refine blk_alloc ?_ _)); exact BK174.out⟩, ⟨by repeat (first | (with_reducible first | exact HB.out | apply below_alloc | apply pw_below_drewN | apply below_drew1 | refine below_set ?_ GE162.out | refine below_set ?_ GE168.out | refine below_set ?_ GE174.out) | exact HB.out)⟩⟩
              case round =>
                clear H'
                try clear c1
                try clear c2
                try clear p2
                try clear c3
                try clear c4
                try clear c5
                try clear c6
                try clear c6b0
                try clear p6
                try clear c7
                try clear c8
                try clear c9
                try clear c10
                try clear c11
                try clear c12
                try clear c19
                try clear c24
                try clear c25
                try clear c30
                try clear c31
                try clear c32
                try clear c34
                try clear c34b0
                try clear c34b1
                try clear c35
                try clear c35b0
                try clear c35b1
                try clear c36
                try clear c36b0
                try clear c36b1
                try clear c37
                try clear c37b0
                try clear c38
                try clear c39
                try clear c40
                try clear c42
                try clear c43
                try clear c45
                try clear c45b0
                try clear c46
                try clear c47
                try clear c48
                try clear c50
                try clear c51
                try clear c54
                try clear c56
                try clear c57
                try clear c58
                try clear c60
                try clear c61
                try clear p64
                try clear c65
                try clear c68
                try clear c69
                try clear c70
                try clear c72
                try clear c73
                try clear c76
                try clear c77
                try clear c78
                try clear c80
                try clear hcz20_0
                try clear hcz20_1
                try clear hcz26_0
                try clear hcz26_1
                try clear hcz33_0
                try clear hcz33_1
                try clear hcz41_0
                try clear hcz41_1
                try clear hcz44_0
                try clear hcz44_1
                try clear hcz49_0
                try clear hcz49_1
                try clear hcz52_0
                try clear hcz52_1
                try clear hcz59_0
                try clear hcz59_1
                try clear hcz62_0
                try clear hcz62_1
                try clear hcz64_0
                try clear hcz64_1
                try clear hcz66_0
                try clear hcz66_1
                try clear hcz71_0
                try clear hcz71_1
                try clear hcz74_0
                try clear hcz74_1
                try clear hcz79_0
                try clear hcz79_1
                try clear hfz20_0
                try clear hfz20_1
                try clear hfz26_0
                try clear hfz26_1
                try clear hfz33_0
                try clear hfz33_1
                try clear hfz41_0
                try clear hfz41_1
                try clear hfz44_0
                try clear hfz44_1
                try clear hfz49_0
                try clear hfz49_1
                try clear hfz52_0
                try clear hfz52_1
                try clear hfz59_0
                try clear hfz59_1
                try clear hfz62_0
                try clear hfz62_1
                try clear hfz64_0
                try clear hfz64_1
                try clear hfz66_0
                try clear hfz66_1
                try clear hfz71_0
                try clear hfz71_1
                try clear hfz74_0
                try clear hfz74_1
                try clear hfz79_0
                try clear hfz79_1
                try clear p2
                try clear p6
                try clear p64
                obtain ⟨x11_3, rfl, HA, HK3, HO_4, HO_163000, HO_169000, HO_175000, BK162, BK168, BK174, HB⟩ := hrel
                cases gk with
                | zero => exact absurd HA.out (by simp [synopticlaw07_BitsPads.l1])
                | succ k3 =>
                  have H := HA.out
                  clear HA
                  simp only [synopticlaw07_BitsPads.l1] at H
                  by_cases c81 : x11_3 < t166
                  · rw [if_pos c81] at H
                    have c81b0 : decide (x11_3 < t166) = true := decide_eq_true c81
                    clear c81
                    by_cases c82 : x11_3 < t161
                    · rw [if_pos c82] at H
                      have c82b0 : decide (x11_3 < t161) = true := decide_eq_true c82
                      clear c82
                      by_cases c83 : 0 ≤ x11_3
                      · rw [if_pos c83] at H
                        have c83b0 : decide (0 ≤ x11_3) = true := decide_eq_true c83
                        clear c83
                        by_cases c84 : x11_3 < (x4_1.length : Int)
                        · rw [if_pos c84] at H
                          have c84b0 : decide (x11_3 < (x4_1.length : Int)) = true := decide_eq_true c84
                          clear c84
                          replace H := Option.bind_eq_some_iff.mp H
                          obtain ⟨t179, A850, H⟩ := H
                          replace H : (if t179 = (rd x4_1 x11_3) then (synopticlaw07_BitsPads.l1 k3 x4_1 (wrap64 (x11_3 + 1)) t158 t161 t163 t166) else (some false)) = some r := H
                          have A85 := Aside0.mk A850
                          clear A850
                          by_cases c86 : t179 = (rd x4_1 x11_3)
                          · rw [if_pos c86] at H
                            have c86b0 : (t179 == (rd x4_1 x11_3)) = true := beq_iff_eq.mpr c86
                            have c86b1 : (t179 != (rd x4_1 x11_3)) = false := bne_eq_false_iff_eq.mpr c86
                            clear c86
                            have H' := Aside0.mk H
                            clear H
                            have hnb87 := NB168_162.out
                            have hnc87 := NB162_168.out
                            have hnb88 := NB168_174.out
                            have hnc88 := NB174_168.out
                            have hcz89_0 : wr.cell? ⟨gb168, 0, none⟩ = some (.slice Ao23 t163.length co23) := (blk_cell BK168.out 0).trans rfl
                            have hcz89_1 : wr.cell? ⟨gb168, 1, none⟩ = some (.int .i64 t166) := (blk_cell BK168.out 1).trans rfl
                            have hfz89_0 := blk_frozen BK168.out 0
                            have hfz89_1 := blk_frozen BK168.out 1
                            have hnb90 := NB162_174.out
                            have hnc90 := NB174_162.out
                            have hcz91_0 : wr.cell? ⟨gb162, 0, none⟩ = some (.slice Ao18 t158.length co18) := (blk_cell BK162.out 0).trans rfl
                            have hcz91_1 : wr.cell? ⟨gb162, 1, none⟩ = some (.int .i64 t161) := (blk_cell BK162.out 1).trans rfl
                            have hfz91_0 := blk_frozen BK162.out 0
                            have hfz91_1 := blk_frozen BK162.out 1
                            have p178 : 0 ≤ (x11_3 : Int) := of_decide_eq_true (by first | (with_reducible assumption) | assumption)
                            have q178 : x11_3 < (x4_1.length : Int) := of_decide_eq_true (by first | (with_reducible assumption) | assumption)
                            obtain ⟨ad178, e178, hx178_0⟩ := Kd.at_int (Kd.R_reads' HO_4.out).2.2 x11_3 p178 q178
                            cases e178
                            replace p178 := eq_true p178
                            replace q178 := eq_true q178
                            go_wp2_with (first | ((with_reducible refine gate_callee (f := 15) rfl ?_); refine goesL_ (some 92) rfl rfl Try.func15 (by kernel_rfl) rfl #[.agg #[.slice Ao23 t163.length co23, .int .i64 t166], .int .i64 x11_3] rfl (by (try simp only [List.map_toArray, List.map_cons, List.map_nil]); first | done | rfl | (simp only [List.length_drop, List.length_take]; rfl)) ?_; (with_reducible refine (synopticref07_At.calls _ _ t163 t166 x11_3 t179 _ ?side1 ?side2 A85.out).mono ?_); (case side1 => repeat (first | exact (Kd.R_reads' HO_169000.out).2.2 | (with_reducible refine Kd.C_alloc ?_ _) | (with_reducible refine Kd.C_drewN ?_ _) | (with_reducible refine Kd.C_drew ?_))); (case side2 => exact (Kd.R_reads' HO_169000.out).2.1); rintro e w92 ⟨rfl, hb⟩; refine ⟨_, rfl, ?_⟩; have n0_ := Aside0.mk (Kd.R_below (by (with_reducible repeat (first | apply Kd.R_alloc | apply Kd.R_drewN | apply Kd.R_drew)); exact HO_4.out) hb); have n1_ := Aside0.mk (Kd.R_below (by (with_reducible repeat (first | apply Kd.R_alloc | apply Kd.R_drewN | apply Kd.R_drew)); exact HO_163000.out) hb); have n2_ := Aside0.mk (Kd.R_below (by (with_reducible repeat (first | apply Kd.R_alloc | apply Kd.R_drewN | apply Kd.R_drew)); exact HO_169000.out) hb); have n3_ := Aside0.mk (Kd.R_below (by (with_reducible repeat (first | apply Kd.R_alloc | apply Kd.R_drewN | apply Kd.R_drew)); exact HO_175000.out) hb); have n4_ := Aside0.mk (blk_below (g := gb162) (o := .cells #[.slice Ao18 t158.length co18, .int .i64 t161] 28 (0, 0)) (by (with_reducible repeat (first | refine blk_drewN ?_ _ | refine blk_drew ?_ | refine blk_alloc ?_ _)); exact BK162.out) hb); have n5_ := Aside0.mk (blk_below (g := gb168) (o := .cells #[.slice Ao23 t163.length co23, .int .i64 t166] 28 (0, 0)) (by (with_reducible repeat (first | refine blk_drewN ?_ _ | refine blk_drew ?_ | refine blk_alloc ?_ _)); exact BK168.out) hb); have n6_ := Aside0.mk (blk_below (g := gb174) (o := .cells #[.slice Ao29 t169.length co29, .int .i64 t172] 28 (0, 0)) (by (with_reducible repeat (first | refine blk_drewN ?_ _ | refine blk_drew ?_ | refine blk_alloc ?_ _)); exact BK174.out) hb); have n7_ := Aside0.mk (below_step (by repeat (first | (with_reducible first | exact HB.out | apply below_alloc | apply pw_below_drewN | apply below_drew1 | refine below_set ?_ GE162.out | refine below_set ?_ GE168.out | refine below_set ?_ GE174.out) | exact HB.out)) hb); clear HO_4; clear HO_163000; clear HO_169000; clear HO_175000; clear BK162; clear BK168; clear BK174; clear HB; have HO_4 := n0_; have HO_163000 := n1_; have HO_169000 := n2_; have HO_175000 := n3_; have BK162 := n4_; have BK168 := n5_; have BK174 := n6_; have HB := n7_; clear n0_ n1_ n2_ n3_ n4_ n5_ n6_ n7_; (try clear hb); (try clear hb2); (try clear hk); (try clear hi)))
                            go_roundg k3
                            case measure => have := HK1.out; have := HJ13.out; have := HK3.out; omega
                            case rel => exact ⟨(wrap64 (x11_3 + 1)), (by first | rfl | (simp; done) | (simp [*]; done)), H', ⟨by have := HK1.out; have := HJ13.out; have := HK3.out; omega⟩, ⟨by (with_reducible repeat (first | apply Kd.R_alloc | apply Kd.R_drewN | apply Kd.R_drew)); exact HO_4.out⟩, ⟨by (with_reducible repeat (first | apply Kd.R_alloc | apply Kd.R_drewN | apply Kd.R_drew)); exact HO_163000.out⟩, ⟨by (with_reducible repeat (first | apply Kd.R_alloc | apply Kd.R_drewN | apply Kd.R_drew)); exact HO_169000.out⟩, ⟨by (with_reducible repeat (first | apply Kd.R_alloc | apply Kd.R_drewN | apply Kd.R_drew)); exact HO_175000.out⟩, ⟨by (with_reducible repeat (first | refine blk_drewN ?_ _ | refine blk_drew ?_ | refine blk_alloc ?_ _)); exact BK162.out⟩, ⟨by (with_reducible repeat (first | refine blk_drewN ?_ _ | refine blk_drew ?_ | refine blk_alloc ?_ _)); exact BK168.out⟩, ⟨by (with_reducible repeat (first | refine blk_drewN ?_ _ | refine blk_drew ?_ | refine blk_alloc ?_ _)); exact BK174.out⟩, ⟨by repeat (first | (with_reducible first | exact HB.out | apply below_alloc | apply pw_below_drewN | apply below_drew1 | refine below_set ?_ GE162.out | refine below_set ?_ GE168.out | refine below_set ?_ GE174.out) | exact HB.out)⟩⟩
                          · rw [if_neg c86] at H
                            have c86b0 : (t179 == (rd x4_1 x11_3)) = false := beq_eq_false_iff_ne.mpr c86
                            have c86b1 : (t179 != (rd x4_1 x11_3)) = true := bne_iff_ne.mpr c86
                            obtain rfl := Option.some.inj H
                            have hnb93 := NB168_162.out
                            have hnc93 := NB162_168.out
                            have hnb94 := NB168_174.out
                            have hnc94 := NB174_168.out
                            have hcz95_0 : wr.cell? ⟨gb168, 0, none⟩ = some (.slice Ao23 t163.length co23) := (blk_cell BK168.out 0).trans rfl
                            have hcz95_1 : wr.cell? ⟨gb168, 1, none⟩ = some (.int .i64 t166) := (blk_cell BK168.out 1).trans rfl
                            have hfz95_0 := blk_frozen BK168.out 0
                            have hfz95_1 := blk_frozen BK168.out 1
                            have hnb96 := NB162_174.out
                            have hnc96 := NB174_162.out
                            have hcz97_0 : wr.cell? ⟨gb162, 0, none⟩ = some (.slice Ao18 t158.length co18) := (blk_cell BK162.out 0).trans rfl
                            have hcz97_1 : wr.cell? ⟨gb162, 1, none⟩ = some (.int .i64 t161) := (blk_cell BK162.out 1).trans rfl
                            have hfz97_0 := blk_frozen BK162.out 0
                            have hfz97_1 := blk_frozen BK162.out 1
                            have p178 : 0 ≤ (x11_3 : Int) := of_decide_eq_true (by first | (with_reducible assumption) | assumption)
                            have q178 : x11_3 < (x4_1.length : Int) := of_decide_eq_true (by first | (with_reducible assumption) | assumption)
                            obtain ⟨ad178, e178, hx178_0⟩ := Kd.at_int (Kd.R_reads' HO_4.out).2.2 x11_3 p178 q178
                            cases e178
                            replace p178 := eq_true p178
                            replace q178 := eq_true q178
                            go_wp2_with (first | ((with_reducible refine gate_callee (f := 15) rfl ?_); refine goesL_ (some 92) rfl rfl Try.func15 (by kernel_rfl) rfl #[.agg #[.slice Ao23 t163.length co23, .int .i64 t166], .int .i64 x11_3] rfl (by (try simp only [List.map_toArray, List.map_cons, List.map_nil]); first | done | rfl | (simp only [List.length_drop, List.length_take]; rfl)) ?_; (with_reducible refine (synopticref07_At.calls _ _ t163 t166 x11_3 t179 _ ?side1 ?side2 A85.out).mono ?_); (case side1 => repeat (first | exact (Kd.R_reads' HO_169000.out).2.2 | (with_reducible refine Kd.C_alloc ?_ _) | (with_reducible refine Kd.C_drewN ?_ _) | (with_reducible refine Kd.C_drew ?_))); (case side2 => exact (Kd.R_reads' HO_169000.out).2.1); rintro e w98 ⟨rfl, hb⟩; refine ⟨_, rfl, ?_⟩; have n0_ := Aside0.mk (Kd.R_below (by (with_reducible repeat (first | apply Kd.R_alloc | apply Kd.R_drewN | apply Kd.R_drew)); exact HO_4.out) hb); have n1_ := Aside0.mk (Kd.R_below (by (with_reducible repeat (first | apply Kd.R_alloc | apply Kd.R_drewN | apply Kd.R_drew)); exact HO_163000.out) hb); have n2_ := Aside0.mk (Kd.R_below (by (with_reducible repeat (first | apply Kd.R_alloc | apply Kd.R_drewN | apply Kd.R_drew)); exact HO_169000.out) hb); have n3_ := Aside0.mk (Kd.R_below (by (with_reducible repeat (first | apply Kd.R_alloc | apply Kd.R_drewN | apply Kd.R_drew)); exact HO_175000.out) hb); have n4_ := Aside0.mk (blk_below (g := gb162) (o := .cells #[.slice Ao18 t158.length co18, .int .i64 t161] 28 (0, 0)) (by (with_reducible repeat (first | refine blk_drewN ?_ _ | refine blk_drew ?_ | refine blk_alloc ?_ _)); exact BK162.out) hb); have n5_ := Aside0.mk (blk_below (g := gb168) (o := .cells #[.slice Ao23 t163.length co23, .int .i64 t166] 28 (0, 0)) (by (with_reducible repeat (first | refine blk_drewN ?_ _ | refine blk_drew ?_ | refine blk_alloc ?_ _)); exact BK168.out) hb); have n6_ := Aside0.mk (blk_below (g := gb174) (o := .cells #[.slice Ao29 t169.length co29, .int .i64 t172] 28 (0, 0)) (by (with_reducible repeat (first | refine blk_drewN ?_ _ | refine blk_drew ?_ | refine blk_alloc ?_ _)); exact BK174.out) hb); have n7_ := Aside0.mk (below_step (by repeat (first | (with_reducible first | exact HB.out | apply below_alloc | apply pw_below_drewN | apply below_drew1 | refine below_set ?_ GE162.out | refine below_set ?_ GE168.out | refine below_set ?_ GE174.out) | exact HB.out)) hb); clear HO_4; clear HO_163000; clear HO_169000; clear HO_175000; clear BK162; clear BK168; clear BK174; clear HB; have HO_4 := n0_; have HO_163000 := n1_; have HO_169000 := n2_; have HO_175000 := n3_; have BK162 := n4_; have BK168 := n5_; have BK174 := n6_; have HB := n7_; clear n0_ n1_ n2_ n3_ n4_ n5_ n6_ n7_; (try clear hb); (try clear hb2); (try clear hk); (try clear hi)))
                            go_ret
                            exact ⟨by first | rfl | (simp [errW_none, errW_some] <;> rfl) | (simp [*, errW_none, errW_some] <;> rfl), by repeat (first | (with_reducible first | exact HB.out | apply below_alloc | apply pw_below_drewN | apply below_drew1 | refine below_set ?_ GE162.out | refine below_set ?_ GE168.out | refine below_set ?_ GE174.out) | exact HB.out)⟩
                        · rw [if_neg c84] at H
                          exact absurd H (by simp)
                      · rw [if_neg c83] at H
                        exact absurd H (by simp)
                    · rw [if_neg c82] at H
                      have c82b0 : decide (x11_3 < t161) = false := decide_eq_false c82
                      clear c82
                      replace H := Option.bind_eq_some_iff.mp H
                      obtain ⟨t180, A990, H⟩ := H
                      replace H : (if t180 = 0 then (synopticlaw07_BitsPads.l1 k3 x4_1 (wrap64 (x11_3 + 1)) t158 t161 t163 t166) else (some false)) = some r := H
                      have A99 := Aside0.mk A990
                      clear A990
                      by_cases c100 : t180 = 0
                      · rw [if_pos c100] at H
                        have c100b0 : (t180 == 0) = true := beq_iff_eq.mpr c100
                        have c100b1 : (t180 != 0) = false := bne_eq_false_iff_eq.mpr c100
                        clear c100
                        have H' := Aside0.mk H
                        clear H
                        have hnb101 := NB168_162.out
                        have hnc101 := NB162_168.out
                        have hnb102 := NB168_174.out
                        have hnc102 := NB174_168.out
                        have hcz103_0 : wr.cell? ⟨gb168, 0, none⟩ = some (.slice Ao23 t163.length co23) := (blk_cell BK168.out 0).trans rfl
                        have hcz103_1 : wr.cell? ⟨gb168, 1, none⟩ = some (.int .i64 t166) := (blk_cell BK168.out 1).trans rfl
                        have hfz103_0 := blk_frozen BK168.out 0
                        have hfz103_1 := blk_frozen BK168.out 1
                        have hnb104 := NB162_174.out
                        have hnc104 := NB174_162.out
                        have hcz105_0 : wr.cell? ⟨gb162, 0, none⟩ = some (.slice Ao18 t158.length co18) := (blk_cell BK162.out 0).trans rfl
                        have hcz105_1 : wr.cell? ⟨gb162, 1, none⟩ = some (.int .i64 t161) := (blk_cell BK162.out 1).trans rfl
                        have hfz105_0 := blk_frozen BK162.out 0
                        have hfz105_1 := blk_frozen BK162.out 1
                        go_wp2_with (first | ((with_reducible refine gate_callee (f := 15) rfl ?_); refine goesL_ (some 92) rfl rfl Try.func15 (by kernel_rfl) rfl #[.agg #[.slice Ao23 t163.length co23, .int .i64 t166], .int .i64 x11_3] rfl (by (try simp only [List.map_toArray, List.map_cons, List.map_nil]); first | done | rfl | (simp only [List.length_drop, List.length_take]; rfl)) ?_; (with_reducible refine (synopticref07_At.calls _ _ t163 t166 x11_3 t180 _ ?side1 ?side2 A99.out).mono ?_); (case side1 => repeat (first | exact (Kd.R_reads' HO_169000.out).2.2 | (with_reducible refine Kd.C_alloc ?_ _) | (with_reducible refine Kd.C_drewN ?_ _) | (with_reducible refine Kd.C_drew ?_))); (case side2 => exact (Kd.R_reads' HO_169000.out).2.1); rintro e w106 ⟨rfl, hb⟩; refine ⟨_, rfl, ?_⟩; have n0_ := Aside0.mk (Kd.R_below (by (with_reducible repeat (first | apply Kd.R_alloc | apply Kd.R_drewN | apply Kd.R_drew)); exact HO_4.out) hb); have n1_ := Aside0.mk (Kd.R_below (by (with_reducible repeat (first | apply Kd.R_alloc | apply Kd.R_drewN | apply Kd.R_drew)); exact HO_163000.out) hb); have n2_ := Aside0.mk (Kd.R_below (by (with_reducible repeat (first | apply Kd.R_alloc | apply Kd.R_drewN | apply Kd.R_drew)); exact HO_169000.out) hb); have n3_ := Aside0.mk (Kd.R_below (by (with_reducible repeat (first | apply Kd.R_alloc | apply Kd.R_drewN | apply Kd.R_drew)); exact HO_175000.out) hb); have n4_ := Aside0.mk (blk_below (g := gb162) (o := .cells #[.slice Ao18 t158.length co18, .int .i64 t161] 28 (0, 0)) (by (with_reducible repeat (first | refine blk_drewN ?_ _ | refine blk_drew ?_ | refine blk_alloc ?_ _)); exact BK162.out) hb); have n5_ := Aside0.mk (blk_below (g := gb168) (o := .cells #[.slice Ao23 t163.length co23, .int .i64 t166] 28 (0, 0)) (by (with_reducible repeat (first | refine blk_drewN ?_ _ | refine blk_drew ?_ | refine blk_alloc ?_ _)); exact BK168.out) hb); have n6_ := Aside0.mk (blk_below (g := gb174) (o := .cells #[.slice Ao29 t169.length co29, .int .i64 t172] 28 (0, 0)) (by (with_reducible repeat (first | refine blk_drewN ?_ _ | refine blk_drew ?_ | refine blk_alloc ?_ _)); exact BK174.out) hb); have n7_ := Aside0.mk (below_step (by repeat (first | (with_reducible first | exact HB.out | apply below_alloc | apply pw_below_drewN | apply below_drew1 | refine below_set ?_ GE162.out | refine below_set ?_ GE168.out | refine below_set ?_ GE174.out) | exact HB.out)) hb); clear HO_4; clear HO_163000; clear HO_169000; clear HO_175000; clear BK162; clear BK168; clear BK174; clear HB; have HO_4 := n0_; have HO_163000 := n1_; have HO_169000 := n2_; have HO_175000 := n3_; have BK162 := n4_; have BK168 := n5_; have BK174 := n6_; have HB := n7_; clear n0_ n1_ n2_ n3_ n4_ n5_ n6_ n7_; (try clear hb); (try clear hb2); (try clear hk); (try clear hi)))
                        go_roundg k3
                        case measure => have := HK1.out; have := HJ13.out; have := HK3.out; omega
                        case rel => exact ⟨(wrap64 (x11_3 + 1)), (by first | rfl | (simp; done) | (simp [*]; done)), H', ⟨by have := HK1.out; have := HJ13.out; have := HK3.out; omega⟩, ⟨by (with_reducible repeat (first | apply Kd.R_alloc | apply Kd.R_drewN | apply Kd.R_drew)); exact HO_4.out⟩, ⟨by (with_reducible repeat (first | apply Kd.R_alloc | apply Kd.R_drewN | apply Kd.R_drew)); exact HO_163000.out⟩, ⟨by (with_reducible repeat (first | apply Kd.R_alloc | apply Kd.R_drewN | apply Kd.R_drew)); exact HO_169000.out⟩, ⟨by (with_reducible repeat (first | apply Kd.R_alloc | apply Kd.R_drewN | apply Kd.R_drew)); exact HO_175000.out⟩, ⟨by (with_reducible repeat (first | refine blk_drewN ?_ _ | refine blk_drew ?_ | refine blk_alloc ?_ _)); exact BK162.out⟩, ⟨by (with_reducible repeat (first | refine blk_drewN ?_ _ | refine blk_drew ?_ | refine blk_alloc ?_ _)); exact BK168.out⟩, ⟨by (with_reducible repeat (first | refine blk_drewN ?_ _ | refine blk_drew ?_ | refine blk_alloc ?_ _)); exact BK174.out⟩, ⟨by repeat (first | (with_reducible first | exact HB.out | apply below_alloc | apply pw_below_drewN | apply below_drew1 | refine below_set ?_ GE162.out | refine below_set ?_ GE168.out | refine below_set ?_ GE174.out) | exact HB.out)⟩⟩
                      · rw [if_neg c100] at H
                        have c100b0 : (t180 == 0) = false := beq_eq_false_iff_ne.mpr c100
                        have c100b1 : (t180 != 0) = true := bne_iff_ne.mpr c100
                        obtain rfl := Option.some.inj H
                        have hnb107 := NB168_162.out
                        have hnc107 := NB162_168.out
                        have hnb108 := NB168_174.out
                        have hnc108 := NB174_168.out
                        have hcz109_0 : wr.cell? ⟨gb168, 0, none⟩ = some (.slice Ao23 t163.length co23) := (blk_cell BK168.out 0).trans rfl
                        have hcz109_1 : wr.cell? ⟨gb168, 1, none⟩ = some (.int .i64 t166) := (blk_cell BK168.out 1).trans rfl
                        have hfz109_0 := blk_frozen BK168.out 0
                        have hfz109_1 := blk_frozen BK168.out 1
                        have hnb110 := NB162_174.out
                        have hnc110 := NB174_162.out
                        have hcz111_0 : wr.cell? ⟨gb162, 0, none⟩ = some (.slice Ao18 t158.length co18) := (blk_cell BK162.out 0).trans rfl
                        have hcz111_1 : wr.cell? ⟨gb162, 1, none⟩ = some (.int .i64 t161) := (blk_cell BK162.out 1).trans rfl
                        have hfz111_0 := blk_frozen BK162.out 0
                        have hfz111_1 := blk_frozen BK162.out 1
                        go_wp2_with (first | ((with_reducible refine gate_callee (f := 15) rfl ?_); refine goesL_ (some 92) rfl rfl Try.func15 (by kernel_rfl) rfl #[.agg #[.slice Ao23 t163.length co23, .int .i64 t166], .int .i64 x11_3] rfl (by (try simp only [List.map_toArray, List.map_cons, List.map_nil]); first | done | rfl | (simp only [List.length_drop, List.length_take]; rfl)) ?_; (with_reducible refine (synopticref07_At.calls _ _ t163 t166 x11_3 t180 _ ?side1 ?side2 A99.out).mono ?_); (case side1 => repeat (first | exact (Kd.R_reads' HO_169000.out).2.2 | (with_reducible refine Kd.C_alloc ?_ _) | (with_reducible refine Kd.C_drewN ?_ _) | (with_reducible refine Kd.C_drew ?_))); (case side2 => exact (Kd.R_reads' HO_169000.out).2.1); rintro e w112 ⟨rfl, hb⟩; refine ⟨_, rfl, ?_⟩; have n0_ := Aside0.mk (Kd.R_below (by (with_reducible repeat (first | apply Kd.R_alloc | apply Kd.R_drewN | apply Kd.R_drew)); exact HO_4.out) hb); have n1_ := Aside0.mk (Kd.R_below (by (with_reducible repeat (first | apply Kd.R_alloc | apply Kd.R_drewN | apply Kd.R_drew)); exact HO_163000.out) hb); have n2_ := Aside0.mk (Kd.R_below (by (with_reducible repeat (first | apply Kd.R_alloc | apply Kd.R_drewN | apply Kd.R_drew)); exact HO_169000.out) hb); have n3_ := Aside0.mk (Kd.R_below (by (with_reducible repeat (first | apply Kd.R_alloc | apply Kd.R_drewN | apply Kd.R_drew)); exact HO_175000.out) hb); have n4_ := Aside0.mk (blk_below (g := gb162) (o := .cells #[.slice Ao18 t158.length co18, .int .i64 t161] 28 (0, 0)) (by (with_reducible repeat (first | refine blk_drewN ?_ _ | refine blk_drew ?_ | refine blk_alloc ?_ _)); exact BK162.out) hb); have n5_ := Aside0.mk (blk_below (g := gb168) (o := .cells #[.slice Ao23 t163.length co23, .int .i64 t166] 28 (0, 0)) (by (with_reducible repeat (first | refine blk_drewN ?_ _ | refine blk_drew ?_ | refine blk_alloc ?_ _)); exact BK168.out) hb); have n6_ := Aside0.mk (blk_below (g := gb174) (o := .cells #[.slice Ao29 t169.length co29, .int .i64 t172] 28 (0, 0)) (by (with_reducible repeat (first | refine blk_drewN ?_ _ | refine blk_drew ?_ | refine blk_alloc ?_ _)); exact BK174.out) hb); have n7_ := Aside0.mk (below_step (by repeat (first | (with_reducible first | exact HB.out | apply below_alloc | apply pw_below_drewN | apply below_drew1 | refine below_set ?_ GE162.out | refine below_set ?_ GE168.out | refine below_set ?_ GE174.out) | exact HB.out)) hb); clear HO_4; clear HO_163000; clear HO_169000; clear HO_175000; clear BK162; clear BK168; clear BK174; clear HB; have HO_4 := n0_; have HO_163000 := n1_; have HO_169000 := n2_; have HO_175000 := n3_; have BK162 := n4_; have BK168 := n5_; have BK174 := n6_; have HB := n7_; clear n0_ n1_ n2_ n3_ n4_ n5_ n6_ n7_; (try clear hb); (try clear hb2); (try clear hk); (try clear hi)))
                        go_ret
                        exact ⟨by first | rfl | (simp [errW_none, errW_some] <;> rfl) | (simp [*, errW_none, errW_some] <;> rfl), by repeat (first | (with_reducible first | exact HB.out | apply below_alloc | apply pw_below_drewN | apply below_drew1 | refine below_set ?_ GE162.out | refine below_set ?_ GE168.out | refine below_set ?_ GE174.out) | exact HB.out)⟩
                  · rw [if_neg c81] at H
                    have c81b0 : decide (x11_3 < t166) = false := decide_eq_false c81
                    clear c81
                    replace H := Option.bind_eq_some_iff.mp H
                    obtain ⟨t177, A1130, H⟩ := H
                    replace H : (some t177) = some r := H
                    have A113 := Aside0.mk A1130
                    clear A1130
                    obtain rfl := Option.some.inj H
                    have hnb114 := NB168_162.out
                    have hnc114 := NB162_168.out
                    have hnb115 := NB168_174.out
                    have hnc115 := NB174_168.out
                    have hcz116_0 : wr.cell? ⟨gb168, 0, none⟩ = some (.slice Ao23 t163.length co23) := (blk_cell BK168.out 0).trans rfl
                    have hcz116_1 : wr.cell? ⟨gb168, 1, none⟩ = some (.int .i64 t166) := (blk_cell BK168.out 1).trans rfl
                    have hfz116_0 := blk_frozen BK168.out 0
                    have hfz116_1 := blk_frozen BK168.out 1
                    go_wp2_with (first | ((with_reducible refine gate_callee (f := 16) rfl ?_); refine goesL_ (some 95) rfl rfl Try.func16 (by kernel_rfl) rfl #[] rfl (by (try simp only [List.map_toArray, List.map_cons, List.map_nil]); first | done | rfl | (simp only [List.length_drop, List.length_take]; rfl)) ?_; (with_reducible refine (synopticlaw07_awake.calls  t177 _ A113.out).mono ?_); rintro e w117 ⟨rfl, hb⟩; refine ⟨_, rfl, ?_⟩; have n0_ := Aside0.mk (Kd.R_below (by (with_reducible repeat (first | apply Kd.R_alloc | apply Kd.R_drewN | apply Kd.R_drew)); exact HO_4.out) hb); have n1_ := Aside0.mk (Kd.R_below (by (with_reducible repeat (first | apply Kd.R_alloc | apply Kd.R_drewN | apply Kd.R_drew)); exact HO_163000.out) hb); have n2_ := Aside0.mk (Kd.R_below (by (with_reducible repeat (first | apply Kd.R_alloc | apply Kd.R_drewN | apply Kd.R_drew)); exact HO_169000.out) hb); have n3_ := Aside0.mk (Kd.R_below (by (with_reducible repeat (first | apply Kd.R_alloc | apply Kd.R_drewN | apply Kd.R_drew)); exact HO_175000.out) hb); have n4_ := Aside0.mk (blk_below (g := gb162) (o := .cells #[.slice Ao18 t158.length co18, .int .i64 t161] 28 (0, 0)) (by (with_reducible repeat (first | refine blk_drewN ?_ _ | refine blk_drew ?_ | refine blk_alloc ?_ _)); exact BK162.out) hb); have n5_ := Aside0.mk (blk_below (g := gb168) (o := .cells #[.slice Ao23 t163.length co23, .int .i64 t166] 28 (0, 0)) (by (with_reducible repeat (first | refine blk_drewN ?_ _ | refine blk_drew ?_ | refine blk_alloc ?_ _)); exact BK168.out) hb); have n6_ := Aside0.mk (blk_below (g := gb174) (o := .cells #[.slice Ao29 t169.length co29, .int .i64 t172] 28 (0, 0)) (by (with_reducible repeat (first | refine blk_drewN ?_ _ | refine blk_drew ?_ | refine blk_alloc ?_ _)); exact BK174.out) hb); have n7_ := Aside0.mk (below_step (by repeat (first | (with_reducible first | exact HB.out | apply below_alloc | apply pw_below_drewN | apply below_drew1 | refine below_set ?_ GE162.out | refine below_set ?_ GE168.out | refine below_set ?_ GE174.out) | exact HB.out)) hb); clear HO_4; clear HO_163000; clear HO_169000; clear HO_175000; clear BK162; clear BK168; clear BK174; clear HB; have HO_4 := n0_; have HO_163000 := n1_; have HO_169000 := n2_; have HO_175000 := n3_; have BK162 := n4_; have BK168 := n5_; have BK174 := n6_; have HB := n7_; clear n0_ n1_ n2_ n3_ n4_ n5_ n6_ n7_; (try clear hb); (try clear hb2); (try clear hk); (try clear hi)))
                    go_ret
                    exact ⟨by first | rfl | (simp [errW_none, errW_some] <;> rfl) | (simp [*, errW_none, errW_some] <;> rfl), by repeat (first | (with_reducible first | exact HB.out | apply below_alloc | apply pw_below_drewN | apply below_drew1 | refine below_set ?_ GE162.out | refine below_set ?_ GE168.out | refine below_set ?_ GE174.out) | exact HB.out)⟩

/-- THE ONE PURE STATEMENT of synopticlaw07_BitsPads: yours. -/
def synopticlaw07_BitsPads.Pure : Prop := ∀ (l0 : List Int), l0.length ≤ maxLen → l0.length * 8 ≤ 140737488351232 → (∀ x ∈ l0, (Lit.int .i64 x).wf = true) → ∃ k, synopticlaw07_BitsPads.f k l0 = some true
theorem synopticlaw07_BitsPads.walk (P : synopticlaw07_BitsPads.Pure) (a0 : Option Addr) (len0 cap0 : Nat) (z0 : List Int) (w : World) (w0 : (a0 = none ∧ len0 = 0 ∧ cap0 = 0 ∧ z0 = []) ∨ ∃ x, a0 = some x ∧ len0 ≤ cap0 ∧ cap0 ≤ maxLen ∧ z0.length = cap0 ∧ (∀ i, i < z0.length → w.cell? (x.add i) = some (.int .i64 (z0.getD i 0))) ∧ ∀ n ∈ z0, (Lit.int .i64 n).wf = true) (y0 : len0 * 8 ≤ 140737488351232) :
    Calls Try.prog 3 #[.slice a0 len0 cap0] w fun e w' => e = .returned (.bool true) ∧ Below w.heap.size w w' := by
  obtain ⟨l0, rfl, hr0, hm0, hw0, hc0⟩ := ReadsInt.ofRowC w0
  obtain ⟨k, h⟩ := P l0 hm0 y0 hw0
  refine (synopticlaw07_BitsPads.calls k _ _ l0 true w (Kd.C_of_reads (d := (0 : Int)) (h1 := fun _ => rfl) hr0) hc0 h).mono ?_
  rintro e w' ⟨rfl, hd⟩
  exact ⟨rfl, hd⟩

-- NOT PRINTED: function 4 (synopticlaw07_BitsJoin)

end Go.Proofs.Yteeamcodapjccaa.X
