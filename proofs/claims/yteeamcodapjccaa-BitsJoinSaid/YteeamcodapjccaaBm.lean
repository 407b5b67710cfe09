/- The walk of BitsJoin. -/
import Derived.Test.YteeamcodapjccaaBl
import Derived.Deep.RegionHeld3
import Derived.BigRegion
namespace Go.Proofs.Yteeamcodapjccaa.Bm
open Go.RowKit Go.Proofs.YteeamcodapjccaaW.PrintWords Go.Proofs.YteeamcodapjccaaW.PrintLast Go.Proofs.YteeamcodapjccaaW.PrintMore
open Go.Proofs.Yteeamcodapjccaa.PBitsAnswers Go.Proofs.Yteeamcodapjccaa.Bb Go.Proofs.Yteeamcodapjccaa.Be Go.Proofs.Yteeamcodapjccaa.Bf Go.Proofs.Yteeamcodapjccaa.X Go.Proofs.Yteeamcodapjccaa.Bh Go.Proofs.Yteeamcodapjccaa.Bi Go.Proofs.Yteeamcodapjccaa.Bj Go.Proofs.Yteeamcodapjccaa.Bl
set_option linter.unusedVariables false
set_option linter.unusedSimpArgs false


set_option maxHeartbeats 8000000 in
set_option maxRecDepth 100000 in
theorem join_walk (l : List Int) (A : Option Addr) (c : Nat) (w : World) (hr : Kd.C (Kd.int .i64) w A l.length l) (hc : l.length ≤ c) (hwf : ∀ x ∈ l, (Lit.int .i64 x).wf = true) :
    Calls Try.prog 4 #[.slice A l.length c] w fun e w' => e = .returned (.bool true) ∧ Below w.heap.size w w' := by
  have hu28 := Try.underlying28
  have HB := Aside0.mk (Below.refl w.heap.size w)
  obtain ⟨ls, hnew, hs0⟩ := new_src hwf
  have HN := Aside0.mk hnew
  have HR := Aside0.mk hr
  have HC := Aside0.mk hc
  have HS := Aside0.mk hs0
  clear hnew hr hc hwf hs0
  go_enter Try.func4, Try.ntmps4
  go_wp2_with fail
  refine (synoptickeep_New.calls A c l ls 0 w _ HB.out HR.out HC.out HN.out).mono ?_
  rintro e w1 ⟨gs, rfl, hi, hb, hb2⟩
  have HI := Aside0.mk hi
  replace HB := Aside0.mk hb
  clear hi hb hb2
  go_wp2_with (first
    | ((with_reducible refine gate_dst (N := 4) rfl ?_); refine box_event ?hg (N := 4) ?hd (cs := #[.slice none 0 0, .int .i64 0, .slice none 0 0, .int .i64 0, .slice none 0 0, .int .i64 0]) (t := 38) ?hr ?_; (case hd => rfl); (case hg => rfl); (case hr => first | (go_simp; done) | (go_simp; rfl)); intro gx hg w3 hbox hb; have HX : Aside0 (XS w w3 gx []) := ⟨⟨hbox, by rw [hg]; exact below_size HB.out, fun t ht => by cases ht⟩⟩; replace HI := Aside0.mk (HI.out.below hb); replace HB := Aside0.mk (below_step HB.out hb); clear hbox hb hg)
    | fail)
  go_loopg [5] 3 (fun kq v5 w' => ∃ (tl : List Tri) (si : Int), v5 = .int .i64 (tl.length : Int) ∧ Aside0 (tl.length + kq = 3) ∧ Aside0 (Src ls si) ∧ Aside0 (IsS60 w w' gs ls si) ∧ Aside0 (XS w w' gx tl) ∧ Aside0 (Below w.heap.size w w'))
  case atStart => exact ⟨[], 0, rfl, ⟨rfl⟩, HS, HI, HX, HB⟩
  case round =>
    clear HS HI HX HB HN
    obtain ⟨tl, si, rfl, HL, HS, HI, HX, HB⟩ := hrel
    rcases tl with _ | ⟨t0, _ | ⟨t1, _ | ⟨t2, tl⟩⟩⟩
    · obtain ⟨v, j, hv, hs, h0, h1⟩ := n_src HS.out (show (1 : Int) ≤ 40 by omega) (by omega)
      obtain rfl : gk = 3 := by have := HL.out; simp at this; omega
      have HV := Aside0.mk hv
      have HS2 := Aside0.mk hs
      have HV0 := Aside0.mk (And.intro h0 h1)
      clear HS hv hs h0 h1
      go_wp2_with fail
      refine (synoptickeep_Src_N.calls gs ls si 40 v j w _ HI.out HB.out HV.out).mono ?_
      rintro e w1 ⟨rfl, hi, hb, hk⟩
      replace HX := Aside0.mk (HX.out.keep HI.out hk)
      replace HI := Aside0.mk hi
      replace HB := Aside0.mk hb
      clear hi hb hk
      go_wp2
      go_loopg [6, 7] 40 (fun kq v6 v7 w' => ∃ (ys : List Int) (k si : Int), v7 = .int .i64 k ∧ Aside0 (k ≤ (kq : Int)) ∧ Aside0 (0 ≤ k ∧ k + (ys.length : Int) ≤ 40) ∧ Aside0 (Src ls si) ∧ Aside0 (Kd.R (Kd.int .i64) 3 w' w.heap.size (fun _ => True) v6 ys) ∧ Aside0 (IsS60 w w' gs ls si) ∧ Aside0 (XS w w' gx []) ∧ Aside0 (Below w.heap.size w w'))
      case atStart => exact ⟨[], v, j, rfl, ⟨by have := HV0.out; omega⟩, ⟨by have := HV0.out; simp; omega⟩, HS2, ⟨Kd.R_nil _ _ _ _ _⟩, HI, HX, HB⟩
      case round =>
        clear HV HV0 HS2 HI HX HB HL
        obtain ⟨ys, k, si, rfl, HKQ, HK, HS, HO, HI, HX, HB⟩ := hrel
        by_cases hk0 : k > 0
        · have hd : decide (0 < k) = true := decide_eq_true hk0
          obtain ⟨v, j, hv, hs, h0, h1⟩ := n_src HS.out (show (1 : Int) ≤ 2 by omega) (by omega)
          have HV := Aside0.mk hv
          have HS2 := Aside0.mk hs
          have HV0 := Aside0.mk (And.intro h0 h1)
          have HKP := Aside0.mk hk0
          obtain ⟨ys2, hys⟩ : ∃ ys2, ys2 = ys ++ [v] := ⟨_, rfl⟩
          have HY := Aside0.mk hys
          clear HS hv hs h0 h1 hk0 hys
          go_wp2_with fail
          refine (synoptickeep_Src_N.calls gs ls si 2 v j w _ HI.out HB.out HV.out).mono ?_
          rintro e w1 ⟨rfl, hi, hb, hk⟩
          replace HX := Aside0.mk (HX.out.keep HI.out hk)
          replace HO := Aside0.mk (Kd.R_mono (ok' := fun _ => True) (Kd.R_keep (IsS60.apart HI.out HO.out (by decide)) hk (fun _ h => h.2)) (fun _ h => trivial))
          replace HI := Aside0.mk hi
          replace HB := Aside0.mk hb
          clear hi hb hk
          go_wp2_with (first
            | ((with_reducible refine gate_builtin (b := .append) (xs := #[.tmp 32, .tmp 35]) rfl ?_); at_builtin; refine Kd.R_append (Kd.int .i64) (w0 := w) w.heap.size rfl (.tmp 32) (.tmp 35) 22 3 (.int .i64 0) 8 rfl Try.underlying22 info3 rfl (by decide) (by omega) u6 ys v [.int .i64 v] (fun _ => True) (fun _ => False) rfl rfl ?aP (fun _ hk => hk.elim) ?aF ?aO ?aB ?aS ?aL ?_; (case aP => exact rfl); (case aB => exact HB.out); (case aF => exact (fun _ _ => trivial)); (case aO => exact HO.out); (case aS => exact below_size HB.out); (case aL => have := HK.out; omega); intro v156 w10 ho hb hg hat; rw [← HY.out] at ho; replace HX := Aside0.mk (HX.out.grown HO.out hg); replace HI := Aside0.mk (IsS60.grown HI.out hg (IsS60.own_ne HI.out HO.out (by decide))); replace HB := Aside0.mk hb; replace HO := Aside0.mk ho; clear ho hb hg hat)
            | fail)
          go_roundg (gk - 1)
          case measure => have := HKQ.out; have := HKP.out; omega
          case rel => exact ⟨ys2, k - 1, j, by first | rfl | (congr 1; have := HK.out; have := HKP.out; unfold wrap64; omega), ⟨by have := HKQ.out; have := HKP.out; omega⟩, ⟨by have := HK.out; have := HKP.out; rw [HY.out]; simp; omega⟩, HS2, HO, HI, HX, HB⟩
        · have hd : decide (0 < k) = false := decide_eq_false hk0
          obtain ⟨A6, c6, e6⟩ := Kd.R_slice HO.out
          first | subst e6 | (cases e6)
          obtain ⟨K, hof⟩ := of_ev (l := ys) (by have := HK.out; omega)
          replace hof := hof K (Nat.le_refl _)
          obtain ⟨bs, hbs⟩ : ∃ bs, bs = ones ys := ⟨_, rfl⟩
          have HBL : Aside0 (bs.length ≤ 40) := ⟨by rw [hbs, ones_length]; have := HK.out; omega⟩
          have hlen : ys.length = bs.length := by rw [hbs, ones_length]
          rw [← hbs, hlen] at hof
          have HOF := Aside0.mk hof
          clear hof hbs hk0 hlen
          go_wp2_with fail
          refine (synopticref07_Of.calls K A6 c6 ys (pack bs) (bs.length : Int) _ (Kd.R_reads' HO.out).2.2 (Kd.R_reads' HO.out).2.1 HOF.out).mono ?_
          rintro e w1 ⟨v0, rfl, ho, hb⟩
          obtain ⟨A9, k9, eo⟩ : ∃ A k, v0 = .slice A (pack bs).length k := (by obtain ⟨A, k, h⟩ := Kd.R_slice ho; exact ⟨A, k, by rw [h]⟩); subst eo
          have HR9 := Aside0.mk (Kd.R_lower ho (below_size HB.out))
          replace HX := Aside0.mk (HX.out.below hb)
          replace HI := Aside0.mk (HI.out.below hb)
          replace HB := Aside0.mk (below_step HB.out hb)
          clear ho hb HO HOF
          have z0 : w1.cell? ⟨gx, 0, none⟩ = some (.slice none 0 0) := (blk_cell HX.out.blk 0).trans rfl
          have z1 : w1.cell? ⟨gx, 1, none⟩ = some (.int .i64 0) := (blk_cell HX.out.blk 1).trans rfl
          have y0 := blk_frozen HX.out.blk 0
          have y1 := blk_frozen HX.out.blk 1
          go_wp2_with (first
            | ((with_reducible refine gate_store (t := 28) (p := 40) rfl ?_); refine store_event (t := 28) (p := 40) (v := ?vo0) (w1 := ((w1.setCell ⟨gx, 0, none⟩ (.slice A9 (pack bs).length k9)).setCell ⟨gx, 1, none⟩ (.int .i64 (bs.length : Int)))) ?hg ?ho ?hn ?hr ?_; (case ho => rfl); (case hg => rfl); (case hn => rfl); (case hr => first | (go_simp; done) | (go_simp; rfl)); intro w4 hw; have hne := (HI.out.ne_blk HX.out.blk (by decide)); have HI2 : Aside0 (IsS60 w w4 gs ls si) := ⟨by rw [hw]; exact IsS60.far (p := ⟨gx, 1, none⟩) (IsS60.far (p := ⟨gx, 0, none⟩) HI.out hne _) hne _⟩; have HB2 : Aside0 (Below w.heap.size w w4) := ⟨by rw [hw]; exact below_set (g := gx) (j := 1) (below_set (g := gx) (j := 0) HB.out HX.out.ge) HX.out.ge⟩; have HX2 : Aside0 (XS w w4 gx ([] ++ [⟨A9, k9, bs⟩])) := ⟨by rw [hw]; exact HX.out.put ⟨A9, k9, bs⟩ HR9.out HBL.out (by simp)⟩; clear hw z0 z1 y0 y1 hne HI HB HX HR9)
            | fail)
          go_roundg 2
          case measure => omega
          case rel => exact ⟨[] ++ [⟨A9, k9, bs⟩], si, rfl, ⟨rfl⟩, HS, HI2, HX2, HB2⟩
    · obtain ⟨v, j, hv, hs, h0, h1⟩ := n_src HS.out (show (1 : Int) ≤ 40 by omega) (by omega)
      obtain rfl : gk = 2 := by have := HL.out; simp at this; omega
      have HV := Aside0.mk hv
      have HS2 := Aside0.mk hs
      have HV0 := Aside0.mk (And.intro h0 h1)
      clear HS hv hs h0 h1
      go_wp2_with fail
      refine (synoptickeep_Src_N.calls gs ls si 40 v j w _ HI.out HB.out HV.out).mono ?_
      rintro e w1 ⟨rfl, hi, hb, hk⟩
      replace HX := Aside0.mk (HX.out.keep HI.out hk)
      replace HI := Aside0.mk hi
      replace HB := Aside0.mk hb
      clear hi hb hk
      go_wp2
      go_loopg [6, 7] 40 (fun kq v6 v7 w' => ∃ (ys : List Int) (k si : Int), v7 = .int .i64 k ∧ Aside0 (k ≤ (kq : Int)) ∧ Aside0 (0 ≤ k ∧ k + (ys.length : Int) ≤ 40) ∧ Aside0 (Src ls si) ∧ Aside0 (Kd.R (Kd.int .i64) 3 w' w.heap.size (fun _ => True) v6 ys) ∧ Aside0 (IsS60 w w' gs ls si) ∧ Aside0 (XS w w' gx [t0]) ∧ Aside0 (Below w.heap.size w w'))
      case atStart => exact ⟨[], v, j, rfl, ⟨by have := HV0.out; omega⟩, ⟨by have := HV0.out; simp; omega⟩, HS2, ⟨Kd.R_nil _ _ _ _ _⟩, HI, HX, HB⟩
      case round =>
        clear HV HV0 HS2 HI HX HB HL
        obtain ⟨ys, k, si, rfl, HKQ, HK, HS, HO, HI, HX, HB⟩ := hrel
        by_cases hk0 : k > 0
        · have hd : decide (0 < k) = true := decide_eq_true hk0
          obtain ⟨v, j, hv, hs, h0, h1⟩ := n_src HS.out (show (1 : Int) ≤ 2 by omega) (by omega)
          have HV := Aside0.mk hv
          have HS2 := Aside0.mk hs
          have HV0 := Aside0.mk (And.intro h0 h1)
          have HKP := Aside0.mk hk0
          obtain ⟨ys2, hys⟩ : ∃ ys2, ys2 = ys ++ [v] := ⟨_, rfl⟩
          have HY := Aside0.mk hys
          clear HS hv hs h0 h1 hk0 hys
          go_wp2_with fail
          refine (synoptickeep_Src_N.calls gs ls si 2 v j w _ HI.out HB.out HV.out).mono ?_
          rintro e w1 ⟨rfl, hi, hb, hk⟩
          replace HX := Aside0.mk (HX.out.keep HI.out hk)
          replace HO := Aside0.mk (Kd.R_mono (ok' := fun _ => True) (Kd.R_keep (IsS60.apart HI.out HO.out (by decide)) hk (fun _ h => h.2)) (fun _ h => trivial))
          replace HI := Aside0.mk hi
          replace HB := Aside0.mk hb
          clear hi hb hk
          go_wp2_with (first
            | ((with_reducible refine gate_builtin (b := .append) (xs := #[.tmp 32, .tmp 35]) rfl ?_); at_builtin; refine Kd.R_append (Kd.int .i64) (w0 := w) w.heap.size rfl (.tmp 32) (.tmp 35) 22 3 (.int .i64 0) 8 rfl Try.underlying22 info3 rfl (by decide) (by omega) u6 ys v [.int .i64 v] (fun _ => True) (fun _ => False) rfl rfl ?aP (fun _ hk => hk.elim) ?aF ?aO ?aB ?aS ?aL ?_; (case aP => exact rfl); (case aB => exact HB.out); (case aF => exact (fun _ _ => trivial)); (case aO => exact HO.out); (case aS => exact below_size HB.out); (case aL => have := HK.out; omega); intro v156 w10 ho hb hg hat; rw [← HY.out] at ho; replace HX := Aside0.mk (HX.out.grown HO.out hg); replace HI := Aside0.mk (IsS60.grown HI.out hg (IsS60.own_ne HI.out HO.out (by decide))); replace HB := Aside0.mk hb; replace HO := Aside0.mk ho; clear ho hb hg hat)
            | fail)
          go_roundg (gk - 1)
          case measure => have := HKQ.out; have := HKP.out; omega
          case rel => exact ⟨ys2, k - 1, j, by first | rfl | (congr 1; have := HK.out; have := HKP.out; unfold wrap64; omega), ⟨by have := HKQ.out; have := HKP.out; omega⟩, ⟨by have := HK.out; have := HKP.out; rw [HY.out]; simp; omega⟩, HS2, HO, HI, HX, HB⟩
        · have hd : decide (0 < k) = false := decide_eq_false hk0
          obtain ⟨A6, c6, e6⟩ := Kd.R_slice HO.out
          first | subst e6 | (cases e6)
          obtain ⟨K, hof⟩ := of_ev (l := ys) (by have := HK.out; omega)
          replace hof := hof K (Nat.le_refl _)
          obtain ⟨bs, hbs⟩ : ∃ bs, bs = ones ys := ⟨_, rfl⟩
          have HBL : Aside0 (bs.length ≤ 40) := ⟨by rw [hbs, ones_length]; have := HK.out; omega⟩
          have hlen : ys.length = bs.length := by rw [hbs, ones_length]
          rw [← hbs, hlen] at hof
          have HOF := Aside0.mk hof
          clear hof hbs hk0 hlen
          go_wp2_with fail
          refine (synopticref07_Of.calls K A6 c6 ys (pack bs) (bs.length : Int) _ (Kd.R_reads' HO.out).2.2 (Kd.R_reads' HO.out).2.1 HOF.out).mono ?_
          rintro e w1 ⟨v0, rfl, ho, hb⟩
          obtain ⟨A9, k9, eo⟩ : ∃ A k, v0 = .slice A (pack bs).length k := (by obtain ⟨A, k, h⟩ := Kd.R_slice ho; exact ⟨A, k, by rw [h]⟩); subst eo
          have HR9 := Aside0.mk (Kd.R_lower ho (below_size HB.out))
          replace HX := Aside0.mk (HX.out.below hb)
          replace HI := Aside0.mk (HI.out.below hb)
          replace HB := Aside0.mk (below_step HB.out hb)
          clear ho hb HO HOF
          have z0 : w1.cell? ⟨gx, 2, none⟩ = some (.slice none 0 0) := (blk_cell HX.out.blk 2).trans rfl
          have z1 : w1.cell? ⟨gx, 3, none⟩ = some (.int .i64 0) := (blk_cell HX.out.blk 3).trans rfl
          have y0 := blk_frozen HX.out.blk 2
          have y1 := blk_frozen HX.out.blk 3
          go_wp2_with (first
            | ((with_reducible refine gate_store (t := 28) (p := 40) rfl ?_); refine store_event (t := 28) (p := 40) (v := ?vo1) (w1 := ((w1.setCell ⟨gx, 2, none⟩ (.slice A9 (pack bs).length k9)).setCell ⟨gx, 3, none⟩ (.int .i64 (bs.length : Int)))) ?hg ?ho ?hn ?hr ?_; (case ho => rfl); (case hg => rfl); (case hn => rfl); (case hr => first | (go_simp; done) | (go_simp; rfl)); intro w4 hw; have hne := (HI.out.ne_blk HX.out.blk (by decide)); have HI2 : Aside0 (IsS60 w w4 gs ls si) := ⟨by rw [hw]; exact IsS60.far (p := ⟨gx, 3, none⟩) (IsS60.far (p := ⟨gx, 2, none⟩) HI.out hne _) hne _⟩; have HB2 : Aside0 (Below w.heap.size w w4) := ⟨by rw [hw]; exact below_set (g := gx) (j := 3) (below_set (g := gx) (j := 2) HB.out HX.out.ge) HX.out.ge⟩; have HX2 : Aside0 (XS w w4 gx ([t0] ++ [⟨A9, k9, bs⟩])) := ⟨by rw [hw]; exact HX.out.put ⟨A9, k9, bs⟩ HR9.out HBL.out (by simp)⟩; clear hw z0 z1 y0 y1 hne HI HB HX HR9)
            | fail)
          go_roundg 1
          case measure => omega
          case rel => exact ⟨[t0] ++ [⟨A9, k9, bs⟩], si, rfl, ⟨rfl⟩, HS, HI2, HX2, HB2⟩
    · obtain ⟨v, j, hv, hs, h0, h1⟩ := n_src HS.out (show (1 : Int) ≤ 40 by omega) (by omega)
      obtain rfl : gk = 1 := by have := HL.out; simp at this; omega
      have HV := Aside0.mk hv
      have HS2 := Aside0.mk hs
      have HV0 := Aside0.mk (And.intro h0 h1)
      clear HS hv hs h0 h1
      go_wp2_with fail
      refine (synoptickeep_Src_N.calls gs ls si 40 v j w _ HI.out HB.out HV.out).mono ?_
      rintro e w1 ⟨rfl, hi, hb, hk⟩
      replace HX := Aside0.mk (HX.out.keep HI.out hk)
      replace HI := Aside0.mk hi
      replace HB := Aside0.mk hb
      clear hi hb hk
      go_wp2
      go_loopg [6, 7] 40 (fun kq v6 v7 w' => ∃ (ys : List Int) (k si : Int), v7 = .int .i64 k ∧ Aside0 (k ≤ (kq : Int)) ∧ Aside0 (0 ≤ k ∧ k + (ys.length : Int) ≤ 40) ∧ Aside0 (Src ls si) ∧ Aside0 (Kd.R (Kd.int .i64) 3 w' w.heap.size (fun _ => True) v6 ys) ∧ Aside0 (IsS60 w w' gs ls si) ∧ Aside0 (XS w w' gx [t0, t1]) ∧ Aside0 (Below w.heap.size w w'))
      case atStart => exact ⟨[], v, j, rfl, ⟨by have := HV0.out; omega⟩, ⟨by have := HV0.out; simp; omega⟩, HS2, ⟨Kd.R_nil _ _ _ _ _⟩, HI, HX, HB⟩
      case round =>
        clear HV HV0 HS2 HI HX HB HL
        obtain ⟨ys, k, si, rfl, HKQ, HK, HS, HO, HI, HX, HB⟩ := hrel
        by_cases hk0 : k > 0
        · have hd : decide (0 < k) = true := decide_eq_true hk0
          obtain ⟨v, j, hv, hs, h0, h1⟩ := n_src HS.out (show (1 : Int) ≤ 2 by omega) (by omega)
          have HV := Aside0.mk hv
          have HS2 := Aside0.mk hs
          have HV0 := Aside0.mk (And.intro h0 h1)
          have HKP := Aside0.mk hk0
          obtain ⟨ys2, hys⟩ : ∃ ys2, ys2 = ys ++ [v] := ⟨_, rfl⟩
          have HY := Aside0.mk hys
          clear HS hv hs h0 h1 hk0 hys
          go_wp2_with fail
          refine (synoptickeep_Src_N.calls gs ls si 2 v j w _ HI.out HB.out HV.out).mono ?_
          rintro e w1 ⟨rfl, hi, hb, hk⟩
          replace HX := Aside0.mk (HX.out.keep HI.out hk)
          replace HO := Aside0.mk (Kd.R_mono (ok' := fun _ => True) (Kd.R_keep (IsS60.apart HI.out HO.out (by decide)) hk (fun _ h => h.2)) (fun _ h => trivial))
          replace HI := Aside0.mk hi
          replace HB := Aside0.mk hb
          clear hi hb hk
          go_wp2_with (first
            | ((with_reducible refine gate_builtin (b := .append) (xs := #[.tmp 32, .tmp 35]) rfl ?_); at_builtin; refine Kd.R_append (Kd.int .i64) (w0 := w) w.heap.size rfl (.tmp 32) (.tmp 35) 22 3 (.int .i64 0) 8 rfl Try.underlying22 info3 rfl (by decide) (by omega) u6 ys v [.int .i64 v] (fun _ => True) (fun _ => False) rfl rfl ?aP (fun _ hk => hk.elim) ?aF ?aO ?aB ?aS ?aL ?_; (case aP => exact rfl); (case aB => exact HB.out); (case aF => exact (fun _ _ => trivial)); (case aO => exact HO.out); (case aS => exact below_size HB.out); (case aL => have := HK.out; omega); intro v156 w10 ho hb hg hat; rw [← HY.out] at ho; replace HX := Aside0.mk (HX.out.grown HO.out hg); replace HI := Aside0.mk (IsS60.grown HI.out hg (IsS60.own_ne HI.out HO.out (by decide))); replace HB := Aside0.mk hb; replace HO := Aside0.mk ho; clear ho hb hg hat)
            | fail)
          go_roundg (gk - 1)
          case measure => have := HKQ.out; have := HKP.out; omega
          case rel => exact ⟨ys2, k - 1, j, by first | rfl | (congr 1; have := HK.out; have := HKP.out; unfold wrap64; omega), ⟨by have := HKQ.out; have := HKP.out; omega⟩, ⟨by have := HK.out; have := HKP.out; rw [HY.out]; simp; omega⟩, HS2, HO, HI, HX, HB⟩
        · have hd : decide (0 < k) = false := decide_eq_false hk0
          obtain ⟨A6, c6, e6⟩ := Kd.R_slice HO.out
          first | subst e6 | (cases e6)
          obtain ⟨K, hof⟩ := of_ev (l := ys) (by have := HK.out; omega)
          replace hof := hof K (Nat.le_refl _)
          obtain ⟨bs, hbs⟩ : ∃ bs, bs = ones ys := ⟨_, rfl⟩
          have HBL : Aside0 (bs.length ≤ 40) := ⟨by rw [hbs, ones_length]; have := HK.out; omega⟩
          have hlen : ys.length = bs.length := by rw [hbs, ones_length]
          rw [← hbs, hlen] at hof
          have HOF := Aside0.mk hof
          clear hof hbs hk0 hlen
          go_wp2_with fail
          refine (synopticref07_Of.calls K A6 c6 ys (pack bs) (bs.length : Int) _ (Kd.R_reads' HO.out).2.2 (Kd.R_reads' HO.out).2.1 HOF.out).mono ?_
          rintro e w1 ⟨v0, rfl, ho, hb⟩
          obtain ⟨A9, k9, eo⟩ : ∃ A k, v0 = .slice A (pack bs).length k := (by obtain ⟨A, k, h⟩ := Kd.R_slice ho; exact ⟨A, k, by rw [h]⟩); subst eo
          have HR9 := Aside0.mk (Kd.R_lower ho (below_size HB.out))
          replace HX := Aside0.mk (HX.out.below hb)
          replace HI := Aside0.mk (HI.out.below hb)
          replace HB := Aside0.mk (below_step HB.out hb)
          clear ho hb HO HOF
          have z0 : w1.cell? ⟨gx, 4, none⟩ = some (.slice none 0 0) := (blk_cell HX.out.blk 4).trans rfl
          have z1 : w1.cell? ⟨gx, 5, none⟩ = some (.int .i64 0) := (blk_cell HX.out.blk 5).trans rfl
          have y0 := blk_frozen HX.out.blk 4
          have y1 := blk_frozen HX.out.blk 5
          go_wp2_with (first
            | ((with_reducible refine gate_store (t := 28) (p := 40) rfl ?_); refine store_event (t := 28) (p := 40) (v := ?vo2) (w1 := ((w1.setCell ⟨gx, 4, none⟩ (.slice A9 (pack bs).length k9)).setCell ⟨gx, 5, none⟩ (.int .i64 (bs.length : Int)))) ?hg ?ho ?hn ?hr ?_; (case ho => rfl); (case hg => rfl); (case hn => rfl); (case hr => first | (go_simp; done) | (go_simp; rfl)); intro w4 hw; have hne := (HI.out.ne_blk HX.out.blk (by decide)); have HI2 : Aside0 (IsS60 w w4 gs ls si) := ⟨by rw [hw]; exact IsS60.far (p := ⟨gx, 5, none⟩) (IsS60.far (p := ⟨gx, 4, none⟩) HI.out hne _) hne _⟩; have HB2 : Aside0 (Below w.heap.size w w4) := ⟨by rw [hw]; exact below_set (g := gx) (j := 5) (below_set (g := gx) (j := 4) HB.out HX.out.ge) HX.out.ge⟩; have HX2 : Aside0 (XS w w4 gx ([t0, t1] ++ [⟨A9, k9, bs⟩])) := ⟨by rw [hw]; exact HX.out.put ⟨A9, k9, bs⟩ HR9.out HBL.out (by simp)⟩; clear hw z0 z1 y0 y1 hne HI HB HX HR9)
            | fail)
          go_roundg 0
          case measure => omega
          case rel => exact ⟨[t0, t1] ++ [⟨A9, k9, bs⟩], si, rfl, ⟨rfl⟩, HS, HI2, HX2, HB2⟩
    · obtain rfl : tl = [] := by have := HL.out; simp at this; exact List.eq_nil_of_length_eq_zero (by omega)
      obtain ⟨A0, k0, b0⟩ := t0
      obtain ⟨A1, k1, b1⟩ := t1
      obtain ⟨A2, k2, b2⟩ := t2
      have L0 : b0.length ≤ 40 := (HX.out.rows ⟨A0, k0, b0⟩ (by simp)).2
      have L1 : b1.length ≤ 40 := (HX.out.rows ⟨A1, k1, b1⟩ (by simp)).2
      have L2 : b2.length ≤ 40 := (HX.out.rows ⟨A2, k2, b2⟩ (by simp)).2
      have H3 : Aside0 (X3 w wr gx A0 k0 b0 A1 k1 b1 A2 k2 b2) := ⟨HX.out.full⟩
      obtain ⟨ab, hab⟩ : ∃ ab, ab = b0 ++ b1 := ⟨_, rfl⟩
      obtain ⟨bc, hbc⟩ : ∃ bc, bc = b1 ++ b2 := ⟨_, rfl⟩
      obtain ⟨pq, hpq⟩ : ∃ pq, pq = b0 ++ (b1 ++ b2) := ⟨_, rfl⟩
      have J1 : Aside0 (bits_Join.f (pack b0) (b0.length : Int) (pack b1) (b1.length : Int) = some (pack ab, (ab.length : Int), 0)) := ⟨by rw [hab]; exact join_pack (by omega)⟩
      have J2 : Aside0 (bits_Join.f (pack b1) (b1.length : Int) (pack b2) (b2.length : Int) = some (pack bc, (bc.length : Int), 0)) := ⟨by rw [hbc]; exact join_pack (by omega)⟩
      have J3 : Aside0 (bits_Join.f (pack ab) (ab.length : Int) (pack b2) (b2.length : Int) = some (pack pq, (pq.length : Int), 0)) := ⟨by rw [hpq, ← List.append_assoc, ← hab]; exact join_pack (by rw [hab, List.length_append]; omega)⟩
      have J4 : Aside0 (bits_Join.f (pack b0) (b0.length : Int) (pack bc) (bc.length : Int) = some (pack pq, (pq.length : Int), 0)) := ⟨by rw [hpq, ← hbc]; exact join_pack (by rw [hbc, List.length_append]; omega)⟩
      have HAB := Aside0.mk hab
      have HLL := Aside0.mk (And.intro L0 L1)
      clear HL HS HI HX hab hbc hpq L0 L1 L2
      have cX0 := H3.out.c0; have cX1 := H3.out.c1; have cX2 := H3.out.c2; have cX3 := H3.out.c3; have cX4 := H3.out.c4; have cX5 := H3.out.c5
      go_wp2_with fail
      refine (bits_Join.calls A0 k0 (pack b0) (b0.length : Int) A1 k1 (pack b1) (b1.length : Int) _ _ _ _ H3.out.read0 H3.out.cap0 H3.out.read1 H3.out.cap1 J1.out).mono ?_
      rintro e w1 ⟨v0, rfl, ho, hb⟩
      obtain ⟨A8, k8, eo⟩ : ∃ A k, v0 = .slice A (pack ab).length k := (by obtain ⟨A, k, h⟩ := Kd.R_slice ho; exact ⟨A, k, by rw [h]⟩); subst eo
      have HR := Aside0.mk (Kd.R_lower ho (below_size HB.out))
      clear ho
      clear cX0 cX1 cX2 cX3 cX4 cX5; replace HB := Aside0.mk (below_step HB.out hb); replace H3 := Aside0.mk (H3.out.step hb); clear hb; have cX0 := H3.out.c0; have cX1 := H3.out.c1; have cX2 := H3.out.c2; have cX3 := H3.out.c3; have cX4 := H3.out.c4; have cX5 := H3.out.c5
      go_wp2_with (first
        | ((with_reducible refine gate_dst (N := 8) rfl ?_); refine box_event ?hg (N := 8) ?hd (cs := #[.slice none 0 0, .int .i64 0]) (t := 28) ?hr ?_; (case hd => rfl); (case hg => rfl); (case hr => first | (go_simp; done) | (go_simp; rfl)); intro g8 hg w3 hbox hb; have HK := Aside0.mk hbox; have HBA := Aside0.mk hb; have HGE := Aside0.mk hg; clear hbox hb hg; have z0 : w3.cell? ⟨g8, 0, none⟩ = some (.slice none 0 0) := (blk_cell HK.out 0).trans rfl; have z1 : w3.cell? ⟨g8, 1, none⟩ = some (.int .i64 0) := (blk_cell HK.out 1).trans rfl; have y0 := blk_frozen HK.out 0; have y1 := blk_frozen HK.out 1)
        | ((with_reducible refine gate_store (t := 28) (p := 8) rfl ?_); refine store_event (t := 28) (p := 8) (v := ?vo8) (w1 := ((w3.setCell ⟨g8, 0, none⟩ (.slice A8 (pack ab).length k8)).setCell ⟨g8, 1, none⟩ (.int .i64 (ab.length : Int)))) ?hg ?ho ?hn ?hr ?_; (case ho => rfl); (case hg => rfl); (case hn => rfl); (case hr => first | (go_simp; done) | (go_simp; rfl)); intro w4 hw; have hb := below_set (g := g8) (j := 1) (v := (.int .i64 (ab.length : Int))) (below_set (g := g8) (j := 0) (v := (.slice A8 (pack ab).length k8)) HBA.out (Nat.le_of_eq HGE.out.symm)) (Nat.le_of_eq HGE.out.symm); rw [← hw] at hb; have H8 : Aside0 (Bx w w4 g8 A8 k8 ab ((ab.length : Int))) := ⟨by rw [hw]; exact Bx.new HR.out HBA.out HK.out⟩; clear hw z0 z1 y0 y1 HK HBA HGE; clear cX0 cX1 cX2 cX3 cX4 cX5; replace HB := Aside0.mk (below_step HB.out hb); replace H3 := Aside0.mk (H3.out.step hb); clear hb; have cX0 := H3.out.c0; have cX1 := H3.out.c1; have cX2 := H3.out.c2; have cX3 := H3.out.c3; have cX4 := H3.out.c4; have cX5 := H3.out.c5; have cH80 := H8.out.c0; have cH81 := H8.out.c1)
        | fail)
      refine (bits_Join.calls A1 k1 (pack b1) (b1.length : Int) A2 k2 (pack b2) (b2.length : Int) _ _ _ _ H3.out.read1 H3.out.cap1 H3.out.read2 H3.out.cap2 J2.out).mono ?_
      rintro e w1 ⟨v0, rfl, ho, hb⟩
      obtain ⟨A10, k10, eo⟩ : ∃ A k, v0 = .slice A (pack bc).length k := (by obtain ⟨A, k, h⟩ := Kd.R_slice ho; exact ⟨A, k, by rw [h]⟩); subst eo
      have HR := Aside0.mk (Kd.R_lower ho (below_size HB.out))
      clear ho
      clear cX0 cX1 cX2 cX3 cX4 cX5 cH80 cH81; replace HB := Aside0.mk (below_step HB.out hb); replace H3 := Aside0.mk (H3.out.step hb); replace H8 := Aside0.mk (H8.out.step hb); clear hb; have cX0 := H3.out.c0; have cX1 := H3.out.c1; have cX2 := H3.out.c2; have cX3 := H3.out.c3; have cX4 := H3.out.c4; have cX5 := H3.out.c5; have cH80 := H8.out.c0; have cH81 := H8.out.c1
      go_wp2_with (first
        | ((with_reducible refine gate_dst (N := 10) rfl ?_); refine box_event ?hg (N := 10) ?hd (cs := #[.slice none 0 0, .int .i64 0]) (t := 28) ?hr ?_; (case hd => rfl); (case hg => rfl); (case hr => first | (go_simp; done) | (go_simp; rfl)); intro g10 hg w3 hbox hb; have HK := Aside0.mk hbox; have HBA := Aside0.mk hb; have HGE := Aside0.mk hg; clear hbox hb hg; have z0 : w3.cell? ⟨g10, 0, none⟩ = some (.slice none 0 0) := (blk_cell HK.out 0).trans rfl; have z1 : w3.cell? ⟨g10, 1, none⟩ = some (.int .i64 0) := (blk_cell HK.out 1).trans rfl; have y0 := blk_frozen HK.out 0; have y1 := blk_frozen HK.out 1)
        | ((with_reducible refine gate_store (t := 28) (p := 10) rfl ?_); refine store_event (t := 28) (p := 10) (v := ?vo10) (w1 := ((w3.setCell ⟨g10, 0, none⟩ (.slice A10 (pack bc).length k10)).setCell ⟨g10, 1, none⟩ (.int .i64 (bc.length : Int)))) ?hg ?ho ?hn ?hr ?_; (case ho => rfl); (case hg => rfl); (case hn => rfl); (case hr => first | (go_simp; done) | (go_simp; rfl)); intro w4 hw; have hb := below_set (g := g10) (j := 1) (v := (.int .i64 (bc.length : Int))) (below_set (g := g10) (j := 0) (v := (.slice A10 (pack bc).length k10)) HBA.out (Nat.le_of_eq HGE.out.symm)) (Nat.le_of_eq HGE.out.symm); rw [← hw] at hb; have H10 : Aside0 (Bx w w4 g10 A10 k10 bc ((bc.length : Int))) := ⟨by rw [hw]; exact Bx.new HR.out HBA.out HK.out⟩; clear hw z0 z1 y0 y1 HK HBA HGE; clear cX0 cX1 cX2 cX3 cX4 cX5 cH80 cH81; replace HB := Aside0.mk (below_step HB.out hb); replace H3 := Aside0.mk (H3.out.step hb); replace H8 := Aside0.mk (H8.out.step hb); clear hb; have cX0 := H3.out.c0; have cX1 := H3.out.c1; have cX2 := H3.out.c2; have cX3 := H3.out.c3; have cX4 := H3.out.c4; have cX5 := H3.out.c5; have cH80 := H8.out.c0; have cH81 := H8.out.c1; have cH100 := H10.out.c0; have cH101 := H10.out.c1)
        | fail)
      refine (bits_Join.calls A8 k8 (pack ab) (ab.length : Int) A2 k2 (pack b2) (b2.length : Int) _ _ _ _ H8.out.read H8.out.cap H3.out.read2 H3.out.cap2 J3.out).mono ?_
      rintro e w1 ⟨v0, rfl, ho, hb⟩
      obtain ⟨A12, k12, eo⟩ : ∃ A k, v0 = .slice A (pack pq).length k := (by obtain ⟨A, k, h⟩ := Kd.R_slice ho; exact ⟨A, k, by rw [h]⟩); subst eo
      have HR := Aside0.mk (Kd.R_lower ho (below_size HB.out))
      clear ho
      clear cX0 cX1 cX2 cX3 cX4 cX5 cH80 cH81 cH100 cH101; replace HB := Aside0.mk (below_step HB.out hb); replace H3 := Aside0.mk (H3.out.step hb); replace H8 := Aside0.mk (H8.out.step hb); replace H10 := Aside0.mk (H10.out.step hb); clear hb; have cX0 := H3.out.c0; have cX1 := H3.out.c1; have cX2 := H3.out.c2; have cX3 := H3.out.c3; have cX4 := H3.out.c4; have cX5 := H3.out.c5; have cH80 := H8.out.c0; have cH81 := H8.out.c1; have cH100 := H10.out.c0; have cH101 := H10.out.c1
      go_wp2_with (first
        | ((with_reducible refine gate_dst (N := 12) rfl ?_); refine box_event ?hg (N := 12) ?hd (cs := #[.slice none 0 0, .int .i64 0]) (t := 28) ?hr ?_; (case hd => rfl); (case hg => rfl); (case hr => first | (go_simp; done) | (go_simp; rfl)); intro g12 hg w3 hbox hb; have HK := Aside0.mk hbox; have HBA := Aside0.mk hb; have HGE := Aside0.mk hg; clear hbox hb hg; have z0 : w3.cell? ⟨g12, 0, none⟩ = some (.slice none 0 0) := (blk_cell HK.out 0).trans rfl; have z1 : w3.cell? ⟨g12, 1, none⟩ = some (.int .i64 0) := (blk_cell HK.out 1).trans rfl; have y0 := blk_frozen HK.out 0; have y1 := blk_frozen HK.out 1)
        | ((with_reducible refine gate_store (t := 28) (p := 12) rfl ?_); refine store_event (t := 28) (p := 12) (v := ?vo12) (w1 := ((w3.setCell ⟨g12, 0, none⟩ (.slice A12 (pack pq).length k12)).setCell ⟨g12, 1, none⟩ (.int .i64 (pq.length : Int)))) ?hg ?ho ?hn ?hr ?_; (case ho => rfl); (case hg => rfl); (case hn => rfl); (case hr => first | (go_simp; done) | (go_simp; rfl)); intro w4 hw; have hb := below_set (g := g12) (j := 1) (v := (.int .i64 (pq.length : Int))) (below_set (g := g12) (j := 0) (v := (.slice A12 (pack pq).length k12)) HBA.out (Nat.le_of_eq HGE.out.symm)) (Nat.le_of_eq HGE.out.symm); rw [← hw] at hb; have H12 : Aside0 (Bx w w4 g12 A12 k12 pq ((pq.length : Int))) := ⟨by rw [hw]; exact Bx.new HR.out HBA.out HK.out⟩; clear hw z0 z1 y0 y1 HK HBA HGE; clear cX0 cX1 cX2 cX3 cX4 cX5 cH80 cH81 cH100 cH101; replace HB := Aside0.mk (below_step HB.out hb); replace H3 := Aside0.mk (H3.out.step hb); replace H8 := Aside0.mk (H8.out.step hb); replace H10 := Aside0.mk (H10.out.step hb); clear hb; have cX0 := H3.out.c0; have cX1 := H3.out.c1; have cX2 := H3.out.c2; have cX3 := H3.out.c3; have cX4 := H3.out.c4; have cX5 := H3.out.c5; have cH80 := H8.out.c0; have cH81 := H8.out.c1; have cH100 := H10.out.c0; have cH101 := H10.out.c1; have cH120 := H12.out.c0; have cH121 := H12.out.c1)
        | fail)
      refine (bits_Join.calls A0 k0 (pack b0) (b0.length : Int) A10 k10 (pack bc) (bc.length : Int) _ _ _ _ H3.out.read0 H3.out.cap0 H10.out.read H10.out.cap J4.out).mono ?_
      rintro e w1 ⟨v0, rfl, ho, hb⟩
      obtain ⟨A14, k14, eo⟩ : ∃ A k, v0 = .slice A (pack pq).length k := (by obtain ⟨A, k, h⟩ := Kd.R_slice ho; exact ⟨A, k, by rw [h]⟩); subst eo
      have HR := Aside0.mk (Kd.R_lower ho (below_size HB.out))
      clear ho
      clear cX0 cX1 cX2 cX3 cX4 cX5 cH80 cH81 cH100 cH101 cH120 cH121; replace HB := Aside0.mk (below_step HB.out hb); replace H3 := Aside0.mk (H3.out.step hb); replace H8 := Aside0.mk (H8.out.step hb); replace H10 := Aside0.mk (H10.out.step hb); replace H12 := Aside0.mk (H12.out.step hb); clear hb; have cX0 := H3.out.c0; have cX1 := H3.out.c1; have cX2 := H3.out.c2; have cX3 := H3.out.c3; have cX4 := H3.out.c4; have cX5 := H3.out.c5; have cH80 := H8.out.c0; have cH81 := H8.out.c1; have cH100 := H10.out.c0; have cH101 := H10.out.c1; have cH120 := H12.out.c0; have cH121 := H12.out.c1
      go_wp2_with (first
        | ((with_reducible refine gate_dst (N := 14) rfl ?_); refine box_event ?hg (N := 14) ?hd (cs := #[.slice none 0 0, .int .i64 0]) (t := 28) ?hr ?_; (case hd => rfl); (case hg => rfl); (case hr => first | (go_simp; done) | (go_simp; rfl)); intro g14 hg w3 hbox hb; have HK := Aside0.mk hbox; have HBA := Aside0.mk hb; have HGE := Aside0.mk hg; clear hbox hb hg; have z0 : w3.cell? ⟨g14, 0, none⟩ = some (.slice none 0 0) := (blk_cell HK.out 0).trans rfl; have z1 : w3.cell? ⟨g14, 1, none⟩ = some (.int .i64 0) := (blk_cell HK.out 1).trans rfl; have y0 := blk_frozen HK.out 0; have y1 := blk_frozen HK.out 1)
        | ((with_reducible refine gate_store (t := 28) (p := 14) rfl ?_); refine store_event (t := 28) (p := 14) (v := ?vo14) (w1 := ((w3.setCell ⟨g14, 0, none⟩ (.slice A14 (pack pq).length k14)).setCell ⟨g14, 1, none⟩ (.int .i64 (pq.length : Int)))) ?hg ?ho ?hn ?hr ?_; (case ho => rfl); (case hg => rfl); (case hn => rfl); (case hr => first | (go_simp; done) | (go_simp; rfl)); intro w4 hw; have hb := below_set (g := g14) (j := 1) (v := (.int .i64 (pq.length : Int))) (below_set (g := g14) (j := 0) (v := (.slice A14 (pack pq).length k14)) HBA.out (Nat.le_of_eq HGE.out.symm)) (Nat.le_of_eq HGE.out.symm); rw [← hw] at hb; have H14 : Aside0 (Bx w w4 g14 A14 k14 pq ((pq.length : Int))) := ⟨by rw [hw]; exact Bx.new HR.out HBA.out HK.out⟩; clear hw z0 z1 y0 y1 HK HBA HGE; clear cX0 cX1 cX2 cX3 cX4 cX5 cH80 cH81 cH100 cH101 cH120 cH121; replace HB := Aside0.mk (below_step HB.out hb); replace H3 := Aside0.mk (H3.out.step hb); replace H8 := Aside0.mk (H8.out.step hb); replace H10 := Aside0.mk (H10.out.step hb); replace H12 := Aside0.mk (H12.out.step hb); clear hb; have cX0 := H3.out.c0; have cX1 := H3.out.c1; have cX2 := H3.out.c2; have cX3 := H3.out.c3; have cX4 := H3.out.c4; have cX5 := H3.out.c5; have cH80 := H8.out.c0; have cH81 := H8.out.c1; have cH100 := H10.out.c0; have cH101 := H10.out.c1; have cH120 := H12.out.c0; have cH121 := H12.out.c1; have cH140 := H14.out.c0; have cH141 := H14.out.c1)
        | fail)
      refine (synopticref07_Same.calls A12 k12 (pack pq) (pq.length : Int) A14 k14 (pack pq) (pq.length : Int) true _ H12.out.read H12.out.cap H14.out.read H14.out.cap (same_refl _ _)).mono ?_
      rintro e w1 ⟨rfl, hb⟩
      clear cX0 cX1 cX2 cX3 cX4 cX5 cH80 cH81 cH100 cH101 cH120 cH121 cH140 cH141; replace HB := Aside0.mk (below_step HB.out hb); replace H3 := Aside0.mk (H3.out.step hb); replace H8 := Aside0.mk (H8.out.step hb); replace H10 := Aside0.mk (H10.out.step hb); replace H12 := Aside0.mk (H12.out.step hb); replace H14 := Aside0.mk (H14.out.step hb); clear hb; have cX0 := H3.out.c0; have cX1 := H3.out.c1; have cX2 := H3.out.c2; have cX3 := H3.out.c3; have cX4 := H3.out.c4; have cX5 := H3.out.c5; have cH80 := H8.out.c0; have cH81 := H8.out.c1; have cH100 := H10.out.c0; have cH101 := H10.out.c1; have cH120 := H12.out.c0; have cH121 := H12.out.c1; have cH140 := H14.out.c0; have cH141 := H14.out.c1
      clear cX0 cX1 cX2 cX3 cX4 cX5 cH80 cH81 cH100 cH101 cH120 cH121 cH140 cH141
      clear H10 H12 H14 J1 J2 J3 J4
      have cX0 := H3.out.c0; have cX1 := H3.out.c1; have cX2 := H3.out.c2; have cX3 := H3.out.c3; have cX4 := H3.out.c4; have cX5 := H3.out.c5; have cH80 := H8.out.c0; have cH81 := H8.out.c1
      have HR := Aside0.mk H3.out.row0
      go_wp2_with (first
        | ((with_reducible refine gate_dst (N := 16) rfl ?_); refine box_event ?hg (N := 16) ?hd (cs := #[.slice none 0 0, .int .i64 0]) (t := 28) ?hr ?_; (case hd => rfl); (case hg => rfl); (case hr => first | (go_simp; done) | (go_simp; rfl)); intro g16 hg w3 hbox hb; have HK := Aside0.mk hbox; have HBA := Aside0.mk hb; have HGE := Aside0.mk hg; have HNE : Aside0 (g8 ≠ g16) := ⟨by rw [hg]; exact Nat.ne_of_lt (blk_lt H8.out.blk)⟩; have HG16 : Aside0 (w.heap.size ≤ g16) := ⟨by rw [hg]; exact below_size HB.out⟩; clear hbox hb hg; have z0 : w3.cell? ⟨g16, 0, none⟩ = some (.slice none 0 0) := (blk_cell HK.out 0).trans rfl; have z1 : w3.cell? ⟨g16, 1, none⟩ = some (.int .i64 0) := (blk_cell HK.out 1).trans rfl; have y0 := blk_frozen HK.out 0; have y1 := blk_frozen HK.out 1)
        | ((with_reducible refine gate_store (t := 28) (p := 16) rfl ?_); refine store_event (t := 28) (p := 16) (v := ?vo16) (w1 := ((w3.setCell ⟨g16, 0, none⟩ (.slice A0 (pack b0).length k0)).setCell ⟨g16, 1, none⟩ (.int .i64 (b0.length : Int)))) ?hg ?ho ?hn ?hr ?_; (case ho => rfl); (case hg => rfl); (case hn => rfl); (case hr => first | (go_simp; done) | (go_simp; rfl)); intro w4 hw; have hb := below_set (g := g16) (j := 1) (v := (.int .i64 (b0.length : Int))) (below_set (g := g16) (j := 0) (v := (.slice A0 (pack b0).length k0)) HBA.out (Nat.le_of_eq HGE.out.symm)) (Nat.le_of_eq HGE.out.symm); rw [← hw] at hb; have H16 : Aside0 (Bx w w4 g16 A0 k0 b0 ((b0.length : Int))) := ⟨by rw [hw]; exact Bx.new HR.out HBA.out HK.out⟩; clear hw z0 z1 y0 y1 HK HBA HGE; clear cX0 cX1 cX2 cX3 cX4 cX5 cH80 cH81; replace HB := Aside0.mk (below_step HB.out hb); replace H3 := Aside0.mk (H3.out.step hb); replace H8 := Aside0.mk (H8.out.step hb); clear hb; have cX0 := H3.out.c0; have cX1 := H3.out.c1; have cX2 := H3.out.c2; have cX3 := H3.out.c3; have cX4 := H3.out.c4; have cX5 := H3.out.c5; have cH80 := H8.out.c0; have cH81 := H8.out.c1; have cH160 := H16.out.c0; have cH161 := H16.out.c1)
        | fail)
      have HG16' := HG16
      go_loopg [17] b1.length (fun kq v17 w' => ∃ (j : Nat) (A : Option Addr) (k : Nat) (cs : List Bool), v17 = .int .i64 (j : Int) ∧ Aside0 (j + kq = b1.length) ∧ Aside0 (cs = b0 ++ b1.take j) ∧ Aside0 (Bx w w' g16 A k cs (cs.length : Int)) ∧ Aside0 (X3 w w' gx A0 k0 b0 A1 k1 b1 A2 k2 b2) ∧ Aside0 (Bx w w' g8 A8 k8 ab (ab.length : Int)) ∧ Aside0 (Below w.heap.size w w'))
      case atStart => exact ⟨0, A0, k0, b0, rfl, ⟨by simp⟩, ⟨by simp⟩, H16, H3, H8, HB⟩
      case round =>
        clear cX0 cX1 cX2 cX3 cX4 cX5 cH80 cH81 cH160 cH161 H16 H3 H8 HB HR HG16'
        obtain ⟨j, A, k, cs, rfl, HJ, HCS, H16, H3, H8, HB⟩ := hrel
        have c160 := H16.out.c0
        have c161 := H16.out.c1
        have cX2 := H3.out.c2
        have cX3 := H3.out.c3
        by_cases hj : j < b1.length
        · have hd : decide (j < b1.length) = true := decide_eq_true hj
          obtain ⟨cs2, hcs2⟩ : ∃ cs2, cs2 = cs ++ bitsOf (bn b1 j) 1 := ⟨_, rfl⟩
          have hcl : cs.length ≤ 80 := by have := HLL.out; rw [HCS.out, List.length_append, List.length_take]; omega
          have hap := append_pack (bs := cs) (v := bn b1 j) (k := 1) (by omega) (by omega) (by have := bn_le b1 j; omega) (by omega)
          rw [← hcs2] at hap
          have HAP : Aside0 (bits_Append.f (pack cs) (cs.length : Int) ((bn b1 j : Nat) : Int) 1 = some (pack cs2, (cs2.length : Int), 0)) := ⟨hap⟩
          have HAT := Aside0.mk (at_pack (bs := b1) (n := (b1.length : Int)) (i := j) (by omega) (by have := HLL.out; omega))
          have HC2 := Aside0.mk hcs2
          have HJL := Aside0.mk hj
          clear hap hcs2 hcl hj
          go_wp2_with fail
          obtain ⟨m, hm⟩ : ∃ m : Int, m = ((bn b1 j : Nat) : Int) := ⟨_, rfl⟩
          rw [← hm] at HAP HAT
          have HM := Aside0.mk hm
          clear hm
          go_cut [18, 19] from 93 to 111 (fun v18 v19 wx => ∃ (g18 : Nat) (A18 : Option Addr) (k18 : Nat), v18 = .pointer (some ⟨g18, 0, none⟩) ∧ v19 = .int .i64 0 ∧ Aside0 (Bx w wx g18 A18 k18 cs2 (cs2.length : Int)) ∧ Aside0 (Bx w wx g16 A k cs (cs.length : Int)) ∧ Aside0 (X3 w wx gx A0 k0 b0 A1 k1 b1 A2 k2 b2) ∧ Aside0 (Bx w wx g8 A8 k8 ab (ab.length : Int)) ∧ Aside0 (Below w.heap.size w wx))
          case first =>
            go_region_held3 (fun w' => w'.cell? ⟨g16, 0, none⟩ = some (.slice A (pack cs).length k) ∧ w'.cell? ⟨g16, 1, none⟩ = some (.int .i64 (cs.length : Int)) ∧ w'.cell? ⟨gx, 2, none⟩ = some (.slice A1 (pack b1).length k1) ∧ w'.cell? ⟨gx, 3, none⟩ = some (.int .i64 (b1.length : Int)))
            (first
              | (go_split_ands; refine ⟨?_, ?_, ?_, ?_⟩ <;> exact pw_cell_below hb (by assumption))
              | (go_split_ands; refine ⟨?_, ?_, ?_, ?_⟩ <;> assumption)
              | (refine ⟨?_, ?_, ?_, ?_⟩ <;> assumption)
              | (go_split_ands; refine ⟨?_, ?_, ?_, ?_⟩ <;> exact pw_cell_below (below_alloc (Below.refl _ _) _) (by assumption))
              | (refine ⟨?_, ?_, ?_, ?_⟩ <;> exact pw_cell_below (below_alloc (Below.refl _ _) _) (by assumption))
              | (refine ⟨?_, ?_, ?_, ?_⟩ <;> exact cell_set_ne (cell_set_ne (by assumption) (by assumption)) (by assumption))
              | go_keep)
            (first
              | (go_at_call 15; with_reducible refine (synopticref07_At.calls A1 k1 (pack b1) (b1.length : Int) (j : Int) m _ ?s1 ?s2 HAT.out).mono ?_; (case s1 => exact (H3.out.step (below_drew1 (Below.refl _ _))).read1); (case s2 => exact H3.out.cap1); rintro e w' ⟨rfl, hb⟩; have hb2 := below_step (below_drew1 (Below.refl _ _)) hb; replace H3 := Aside0.mk (H3.out.step hb2); replace H16 := Aside0.mk (H16.out.step hb2); replace H8 := Aside0.mk (H8.out.step hb2); replace HB := Aside0.mk (below_step HB.out hb2); clear hb2)
              | (go_at_call 15; with_reducible refine (synopticref07_At.calls A1 k1 (pack b1) (b1.length : Int) (j : Int) m _ ?s1 ?s2 HAT.out).mono ?_; (case s1 => exact (H3.out.step (below_drew1 (below_alloc (Below.refl _ _) _))).read1); (case s2 => exact H3.out.cap1); rintro e w' ⟨rfl, hb⟩; have hb2 := below_step (below_drew1 (below_alloc (Below.refl _ _) _)) hb; have HZ : Aside0 (w'.heap[wr.heap.size]? = some (.cells #[.slice none 0 0, .int .i64 0] 28 (0, 0))) := ⟨by first | exact blk_below (alloc_blk _ _) hb | exact blk_below (blk_drew (alloc_blk _ _)) hb⟩; have n16 : g16 ≠ wr.heap.size := Nat.ne_of_lt (blk_lt H16.out.blk); have nx : gx ≠ wr.heap.size := Nat.ne_of_lt (blk_lt H3.out.blk); have N8 : Aside0 (g8 ≠ wr.heap.size) := ⟨Nat.ne_of_lt (blk_lt H8.out.blk)⟩; have HGZ : Aside0 (w.heap.size ≤ wr.heap.size) := ⟨below_size HB.out⟩; replace H3 := Aside0.mk (H3.out.step hb2); replace H16 := Aside0.mk (H16.out.step hb2); replace H8 := Aside0.mk (H8.out.step hb2); replace HB := Aside0.mk (below_step HB.out hb2); clear hb2; have z0 : w'.cell? ⟨wr.heap.size, 0, none⟩ = some (.slice none 0 0) := (blk_cell HZ.out 0).trans rfl; have z1 : w'.cell? ⟨wr.heap.size, 1, none⟩ = some (.int .i64 0) := (blk_cell HZ.out 1).trans rfl; have y0 := blk_frozen HZ.out 0; have y1 := blk_frozen HZ.out 1)
              | (go_at_call 18; with_reducible refine (bits_Append.calls A k (pack cs) (cs.length : Int) m 1 (pack cs2) (cs2.length : Int) 0 _ H16.out.read H16.out.cap HAP.out).mono ?_; rintro e w' ⟨v0, rfl, ho, hb⟩; obtain ⟨A18, k18, eo⟩ : ∃ A k, v0 = .slice A (pack cs2).length k := (by obtain ⟨A, k, h⟩ := Kd.R_slice ho; exact ⟨A, k, by rw [h]⟩); subst eo; have HR := Aside0.mk (Kd.R_lower ho (below_size HB.out)); (try (have hz2 := Aside0.mk (blk_below HZ.out hb); replace HZ := hz2; clear hz2)); replace H3 := Aside0.mk (H3.out.step hb); replace H16 := Aside0.mk (H16.out.step hb); replace H8 := Aside0.mk (H8.out.step hb); replace HB := Aside0.mk (below_step HB.out hb); clear ho; have d0 := H16.out.c0; have d1 := H16.out.c1; have d2 := H3.out.c2; have d3 := H3.out.c3; (try (clear z0 z1 y0 y1; have z0 : w'.cell? ⟨wr.heap.size, 0, none⟩ = some (.slice none 0 0) := (blk_cell HZ.out 0).trans rfl; have z1 : w'.cell? ⟨wr.heap.size, 1, none⟩ = some (.int .i64 0) := (blk_cell HZ.out 1).trans rfl; have y0 := blk_frozen HZ.out 0; have y1 := blk_frozen HZ.out 1)))
              | (go_at_call 18; with_reducible refine (bits_Append.calls A k (pack cs) (cs.length : Int) m 1 (pack cs2) (cs2.length : Int) 0 _ (H16.out.step (below_alloc (Below.refl _ _) _)).read H16.out.cap HAP.out).mono ?_; rintro e w2 ⟨v0, rfl, ho, hb⟩; obtain ⟨A18, k18, eo⟩ : ∃ A k, v0 = .slice A (pack cs2).length k := (by obtain ⟨A, k, h⟩ := Kd.R_slice ho; exact ⟨A, k, by rw [h]⟩); subst eo; have hb2 := below_step (below_alloc (Below.refl _ _) _) hb; have HR := Aside0.mk (Kd.R_lower ho (below_size (below_step HB.out (below_alloc (Below.refl _ _) _)))); have HZ : Aside0 (w2.heap[w'.heap.size]? = some (.cells #[.slice none 0 0, .int .i64 0] 28 (0, 0))) := ⟨by first | exact blk_below (alloc_blk _ _) hb | exact blk_below (blk_drew (alloc_blk _ _)) hb⟩; have n16 : g16 ≠ w'.heap.size := Nat.ne_of_lt (blk_lt H16.out.blk); have nx : gx ≠ w'.heap.size := Nat.ne_of_lt (blk_lt H3.out.blk); have N8 : Aside0 (g8 ≠ w'.heap.size) := ⟨Nat.ne_of_lt (blk_lt H8.out.blk)⟩; have HGZ : Aside0 (w.heap.size ≤ w'.heap.size) := ⟨below_size HB.out⟩; replace H3 := Aside0.mk (H3.out.step hb2); replace H16 := Aside0.mk (H16.out.step hb2); replace H8 := Aside0.mk (H8.out.step hb2); replace HB := Aside0.mk (below_step HB.out hb2); clear ho hb2; have d0 := H16.out.c0; have d1 := H16.out.c1; have d2 := H3.out.c2; have d3 := H3.out.c3; have z0 : w2.cell? ⟨w'.heap.size, 0, none⟩ = some (.slice none 0 0) := (blk_cell HZ.out 0).trans rfl; have z1 : w2.cell? ⟨w'.heap.size, 1, none⟩ = some (.int .i64 0) := (blk_cell HZ.out 1).trans rfl; have y0 := blk_frozen HZ.out 0; have y1 := blk_frozen HZ.out 1))
            · go_wp2
              go_meet
              case rel => exact ⟨_, A18, k18, rfl, rfl, ⟨Bx.made HR.out⟩, ⟨H16.out.step (below_alloc (Below.refl _ _) _)⟩, ⟨H3.out.step (below_alloc (Below.refl _ _) _)⟩, ⟨H8.out.step (below_alloc (Below.refl _ _) _)⟩, ⟨below_alloc HB.out _⟩⟩
            · go_wp2
              go_meet
              case rel => exact ⟨_, A18, k18, rfl, rfl, ⟨Bx.laid HR.out HZ.out⟩, ⟨Bx.off H16.out HZ.out n16 _ _⟩, ⟨H3.out.off HZ.out nx _ _⟩, ⟨Bx.off H8.out HZ.out N8.out _ _⟩, ⟨below_set (below_set HB.out HGZ.out) HGZ.out⟩⟩
            · go_wp2
              go_meet
              case rel => exact ⟨_, A18, k18, rfl, rfl, ⟨Bx.laid HR.out HZ.out⟩, ⟨Bx.off H16.out HZ.out n16 _ _⟩, ⟨H3.out.off HZ.out nx _ _⟩, ⟨Bx.off H8.out HZ.out N8.out _ _⟩, ⟨below_set (below_set HB.out HGZ.out) HGZ.out⟩⟩
          case rest =>
            clear H16 H3 H8 HB c160 c161 cX2 cX3
            obtain ⟨g18, A18, k18, rfl, rfl, H18, H16, H3, H8, HB⟩ := hcut
            have c160 := H16.out.c0
            have c161 := H16.out.c1
            have c180 := H18.out.c0
            have c181 := H18.out.c1
            have y0 := blk_frozen H16.out.blk 0
            have y1 := blk_frozen H16.out.blk 1
            go_wp2_with (first
              | ((with_reducible refine gate_store (t := 28) (p := 16) rfl ?_); refine store_event (t := 28) (p := 16) (v := ?voc) (w1 := ((wc.setCell ⟨g16, 0, none⟩ (.slice A18 (pack cs2).length k18)).setCell ⟨g16, 1, none⟩ (.int .i64 (cs2.length : Int)))) ?hg ?ho ?hn ?hr ?_; (case ho => rfl); (case hg => rfl); (case hn => rfl); (case hr => first | (go_simp; done) | (go_simp; rfl)); intro w4 hw; have K16 : Aside0 (Bx w w4 g16 A18 k18 cs2 (cs2.length : Int)) := ⟨by rw [hw]; exact Bx.set H16.out H18.out.row⟩; have K3 : Aside0 (X3 w w4 gx A0 k0 b0 A1 k1 b1 A2 k2 b2) := ⟨by rw [hw]; exact X3.other H3.out H16.out _ _⟩; have K8 : Aside0 (Bx w w4 g8 A8 k8 ab (ab.length : Int)) := ⟨by rw [hw]; exact Bx.other H8.out H16.out HNE.out _ _⟩; have KB : Aside0 (Below w.heap.size w w4) := ⟨by rw [hw]; exact below_set (below_set HB.out HG16.out) HG16.out⟩; clear hw c160 c161 c180 c181 y0 y1)
              | fail)
            go_roundg (gk - 1)
            case measure => have := HJ.out; have := HJL.out; omega
            case rel => exact ⟨j + 1, A18, k18, cs2, by first | rfl | (congr 1; have := HLL.out; have := HJL.out; unfold wrap64; omega), ⟨by have := HJ.out; have := HJL.out; omega⟩, ⟨by rw [HC2.out, HCS.out, bits_one HJL.out, List.append_assoc, ← List.take_succ_eq_append_getElem]⟩, K16, K3, K8, KB⟩
        · have hd : decide (j < b1.length) = false := decide_eq_false hj
          have hcs : cs = ab := by rw [HCS.out, HAB.out, List.take_of_length_le (by omega)]
          subst hcs
          have c80 := H8.out.c0
          have c81 := H8.out.c1
          clear hj
          go_wp2_with fail
          refine (synopticref07_Same.calls A k (pack cs) (cs.length : Int) A8 k8 (pack cs) (cs.length : Int) true _ H16.out.read H16.out.cap H8.out.read H8.out.cap (same_refl _ _)).mono ?_
          rintro e w1 ⟨rfl, hb⟩
          clear c80 c81 c160 c161 cX2 cX3
          replace HB := Aside0.mk (below_step HB.out hb)
          clear hb
          go_wp2_with fail
          refine (synopticlaw07_awake.calls true _ awake_true).mono ?_
          rintro e w1 ⟨rfl, hb⟩
          replace HB := Aside0.mk (below_step HB.out hb)
          clear hb
          go_wp2
          go_ret
          exact ⟨rfl, HB.out⟩

theorem walk (a0 : Option Addr) (len0 cap0 : Nat) (z0 : List Int) (w : World) (w0 : (a0 = none ∧ len0 = 0 ∧ cap0 = 0 ∧ z0 = []) ∨ ∃ x, a0 = some x ∧ len0 ≤ cap0 ∧ cap0 ≤ maxLen ∧ z0.length = cap0 ∧ (∀ i, i < z0.length → w.cell? (x.add i) = some (.int .i64 (z0.getD i 0))) ∧ ∀ n ∈ z0, (Lit.int .i64 n).wf = true) :
    Calls Try.prog 4 #[.slice a0 len0 cap0] w fun e w' => e = .returned (.bool true) ∧ Below w.heap.size w w' := by
  obtain ⟨l0, rfl, hr0, hm0, hw0, hc0⟩ := ReadsInt.ofRowC w0
  exact join_walk l0 a0 cap0 w (Kd.C_of_reads (d := (0 : Int)) (h1 := fun _ => rfl) hr0) hc0 hw0


end Go.Proofs.Yteeamcodapjccaa.Bm
