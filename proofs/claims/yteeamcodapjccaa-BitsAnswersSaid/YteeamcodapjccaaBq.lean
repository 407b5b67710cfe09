/- The walk of BitsAnswers. -/
import Derived.Test.YteeamcodapjccaaBp
import Derived.Deep.RegionHeld3
import Derived.BigRegion
import Derived.Deep.CutRange
namespace Go.Proofs.Yteeamcodapjccaa.Bq
open Go.RowKit Go.Proofs.YteeamcodapjccaaW.PrintWords Go.Proofs.YteeamcodapjccaaW.PrintLast Go.Proofs.YteeamcodapjccaaW.PrintMore
open Go.Proofs.Yteeamcodapjccaa.PBitsAnswers Go.Proofs.Yteeamcodapjccaa.Bb Go.Proofs.Yteeamcodapjccaa.Be Go.Proofs.Yteeamcodapjccaa.Bf Go.Proofs.Yteeamcodapjccaa.X Go.Proofs.Yteeamcodapjccaa.Bh Go.Proofs.Yteeamcodapjccaa.Bi Go.Proofs.Yteeamcodapjccaa.Bj Go.Proofs.Yteeamcodapjccaa.Bl Go.Proofs.Yteeamcodapjccaa.Bo Go.Proofs.Yteeamcodapjccaa.Bp
set_option linter.unusedVariables false
set_option linter.unusedSimpArgs false

section
variable {P : Program} {o : Oper} {ops : Array Oper} {rest : List Oper} {a : Act} {Q : Exit → Act → World → Prop}
theorem lit_event {W : World} (hgd : o.guard = none) {N : Tmp} (_hd : o.dst = some N) {cs : Array Value} {t : TypeId} {n : Nat}
    (hrun : (execOp a.eval o).run P W = .ok (.value (.slice (some ⟨W.heap.size, 0, none⟩) n n)) (W.alloc (.cells cs t (0, 0))))
    (h : ∀ g, g = W.heap.size → ∀ w1, w1.heap[g]? = some (.cells cs t (0, 0)) → Below W.heap.size W w1 → wpList P ops Q rest (a.put o.dst (.slice (some ⟨g, 0, none⟩) n n)) w1) : wpList P ops Q (o :: rest) a W :=
  Kd.event_run hgd hrun (h _ rfl _ (blk_new W _) (below_alloc (Below.refl _ _) _))
end
def i64 (x : Int) : Prop := -9223372036854775808 ≤ x ∧ x ≤ 9223372036854775807
theorem i64_wrap (x : Int) : i64 (wrap64 x) := by unfold i64 wrap64; omega
theorem i64_of {x : Int} (h1 : -1000000000 ≤ x) (h2 : x ≤ 1000000000) : i64 x := ⟨by omega, by omega⟩

set_option maxHeartbeats 16000000 in
set_option maxRecDepth 100000 in
theorem answers_walk (A : Option Addr) (c : Nat) (l : List Int) (n : Int) (B : Option Addr) (cb : Nat) (ms : List Int) (a2 a3 a4 : Int) (w : World) (hl : okL l) (hr : Kd.C (Kd.int .u8) w A l.length l) (hc : l.length ≤ c) (hn : i64 n)
    (hm : Kd.C (Kd.int .i64) w B ms.length ms) (hcb : ms.length ≤ cb) (hwf : ∀ x ∈ ms, (Lit.int .i64 x).wf = true) (h2 : i64 a2) (h3 : i64 a3) (h4 : i64 a4) :
    Calls Try.prog 8 #[.agg #[.slice A l.length c, .int .i64 n], .slice B ms.length cb, .int .i64 a2, .int .i64 a3, .int .i64 a4] w fun e w' => e = .returned (.bool true) ∧ Below w.heap.size w w' := by
  have hu28 := Try.underlying28
  have HB := Aside0.mk (Below.refl w.heap.size w)
  obtain ⟨ls, hnew, hs0⟩ := new_src hwf
  have HN := Aside0.mk hnew
  have HR := Aside0.mk hr
  have HC := Aside0.mk hc
  have HM := Aside0.mk hm
  have HCB := Aside0.mk hcb
  have HS := Aside0.mk hs0
  have HL := Aside0.mk hl
  have I2 := Aside0.mk h2
  have I3 := Aside0.mk h3
  have I4 := Aside0.mk h4
  have IN := Aside0.mk hn
  clear hnew hr hc hwf hs0 hm hcb hl h2 h3 h4 hn
  go_enter Try.func8, Try.ntmps8
  go_upto_region 1 with (first
    | ((with_reducible refine gate_dst (N := 5) rfl ?_); refine box_event ?hg (N := 5) ?hd (cs := #[.slice A l.length c, .int .i64 n]) (t := 28) ?hr ?_; (case hd => rfl); (case hg => rfl); (case hr => first | (go_simp; done) | (go_simp; rfl)); intro g5 hg w3 hbox hb; have HK5 := Aside0.mk hbox; have HG5 : Aside0 (w.heap.size ≤ g5) := ⟨by rw [hg]; exact Nat.le_refl _⟩; replace HB := Aside0.mk (below_step HB.out hb); clear hbox hb hg; have c50 := (blk_cell HK5.out 0).trans (show _ = some (.slice A l.length c) from rfl); have c51 := (blk_cell HK5.out 1).trans (show _ = some (.int .i64 n) from rfl))
    | fail)
  by_cases hbig : (6000 : Int) < (l.length : Int)
  · have hd : decide ((6000 : Int) < (l.length : Int)) = true := decide_eq_true hbig
    clear hbig
    go_wp2_with fail
    refine (synopticlaw07_awake.calls true _ awake_true).mono ?_
    rintro e w1 ⟨rfl, hb⟩
    replace HB := Aside0.mk (below_step HB.out hb)
    clear hb
    go_wp2
    go_ret
    exact ⟨rfl, HB.out⟩
  have hd : decide ((6000 : Int) < (l.length : Int)) = false := decide_eq_false hbig
  have HLL : Aside0 (l.length ≤ 6000) := ⟨by omega⟩
  clear hbig
  go_wp2_with fail
  refine (synoptickeep_New.calls B cb ms ls 0 w _ HB.out HM.out HCB.out HN.out).mono ?_
  rintro e w1 ⟨gs, rfl, hi, hb, hb2⟩
  have HI := Aside0.mk hi
  have B5 : Aside0 (Blk w1 gs g5 28 #[.slice A l.length c, .int .i64 n]) := ⟨⟨blk_below HK5.out hb2, Ne.symm (hi.ne_blk (blk_below HK5.out hb2) (by decide))⟩⟩
  have HRAW : Aside0 (Held w1 gs A l) := ⟨Kd.C_foot_came (Kd.heap_int _) HR.out hb hi.ge⟩
  replace HB := Aside0.mk hb
  clear hi hb hb2 c50 c51 hd HK5 HN HM HCB HR
  obtain ⟨lx, nx, i1, hx, hs1, okx, llx, nx0, nx1⟩ := list_src HS.out
  obtain ⟨Kx, hx⟩ := hx.rounds
  obtain ⟨ly, ny, i2, hy, hs2, oky, lly, ny0, ny1⟩ := list_src hs1
  obtain ⟨Ky, hy⟩ := hy.rounds
  have EX := Aside0.mk hx
  have EY := Aside0.mk hy
  have OX := Aside0.mk okx
  have OY := Aside0.mk oky
  have LX : Aside0 (lx.length ≤ 6000) := ⟨by omega⟩
  have LY : Aside0 (ly.length ≤ 6000) := ⟨by omega⟩
  have NX : Aside0 (i64 nx) := ⟨i64_of (by omega) (by omega)⟩
  have NY : Aside0 (i64 ny) := ⟨i64_of (by omega) (by omega)⟩
  obtain ⟨rg, i3, hrg, hs3, rg0, rg1⟩ := range_src hs2 (show (-1000000 : Int) ≤ 1 by omega) (show (1 : Int) ≤ 24 by omega) (by omega)
  obtain ⟨kw, rfl⟩ := Int.eq_ofNat_of_zero_le (show 0 ≤ rg by omega)
  have hp2 : 2 ^ kw ≤ 2 ^ 24 := Nat.pow_le_pow_right (by omega) (by omega)
  have hp0 : 0 < 2 ^ kw := Nat.pow_pos (by omega)
  have hp3 : (2 : Int) ^ kw ≤ 2 ^ 24 := by exact_mod_cast hp2
  rw [show (2 : Int) ^ 24 = 16777216 by decide] at hp3
  have hp4 : (1 : Int) ≤ 2 ^ kw := by exact_mod_cast hp0
  obtain ⟨vv, i4, hvv, hs4, v0, v1⟩ := n_src hs3 hp4 (by omega)
  have ERG := Aside0.mk hrg
  have EVV := Aside0.mk hvv
  have KW1 : Aside0 (1 ≤ kw ∧ kw ≤ 24) := ⟨by omega⟩
  have HSH : Aside0 (wrap64 (2 ^ min (IntKind.u64.wrap (kw : Int)).toNat 64) = 2 ^ kw) := ⟨by rw [IntKind.wrap_u64, show ((kw : Int) % 18446744073709551616) = (kw : Int) by omega, Int.toNat_natCast, Nat.min_eq_left (show kw ≤ 64 by omega), wrap_pow (show kw ≤ 24 by omega)]⟩
  have VV1 : Aside0 (0 ≤ vv ∧ vv ≤ 16777216) := ⟨⟨v0, by omega⟩⟩
  replace HS := Aside0.mk hs4
  clear hx hy okx oky llx lly nx0 nx1 ny0 ny1 hrg hvv hs1 hs2 hs3 hs4 v0 v1 hp2 hp0 hp3 hp4 rg0 rg1
  go_wp2_with fail
  refine (synopticlaw07_list.calls Kx gs ls 0 lx nx i1 w _ HI.out HB.out EX.out).mono ?_
  rintro e w1 ⟨v0, rfl, ho, hi, hb, hk⟩
  obtain ⟨Ax, kx, eo⟩ : ∃ A k, v0 = .slice A (lx).length k := (by obtain ⟨A, k, h⟩ := Kd.R_slice ho; exact ⟨A, k, by rw [h]⟩); subst eo
  have RX := Aside0.mk ho
  replace B5 := Aside0.mk (B5.out.keep hk); replace HRAW := Aside0.mk (HRAW.out.keep hk); replace HI := Aside0.mk hi; replace HB := Aside0.mk hb; clear hi hb hk
  have HX := Aside0.mk (Held.own HI.out RX.out)
  have CX := Aside0.mk (Kd.R_reads' RX.out).2.1
  clear RX EX ho
  go_wp2_with fail
  refine (synopticlaw07_list.calls Ky gs ls i1 ly ny i2 w _ HI.out HB.out EY.out).mono ?_
  rintro e w1 ⟨v0, rfl, ho, hi, hb, hk⟩
  obtain ⟨Ay, ky, eo⟩ : ∃ A k, v0 = .slice A (ly).length k := (by obtain ⟨A, k, h⟩ := Kd.R_slice ho; exact ⟨A, k, by rw [h]⟩); subst eo
  have RX := Aside0.mk ho
  replace B5 := Aside0.mk (B5.out.keep hk); replace HRAW := Aside0.mk (HRAW.out.keep hk); replace HX := Aside0.mk (HX.out.keep hk); replace HI := Aside0.mk hi; replace HB := Aside0.mk hb; clear hi hb hk
  have HY := Aside0.mk (Held.own HI.out RX.out)
  have CY := Aside0.mk (Kd.R_reads' RX.out).2.1
  clear RX EY ho
  go_wp2_with (first
    | ((with_reducible refine gate_dst (N := 12) rfl ?_); refine box_event ?hg (N := 12) ?hd (cs := #[.slice none 0 0, .int .i64 0]) (t := 28) ?hr ?_; (case hd => rfl); (case hg => rfl); (case hr => first | (go_simp; done) | (go_simp; rfl)); intro g12 hg w3 hbox hb; have K12 := Aside0.mk hbox; have HBA := Aside0.mk hb; have G12 := Aside0.mk (Nat.le_of_eq hg.symm); have N12 : Aside0 (g12 ≠ gs) := ⟨HI.out.fresh _ G12.out⟩; clear hbox hb hg; have za0 : w3.cell? ⟨g12, 0, none⟩ = some (.slice none 0 0) := (blk_cell K12.out 0).trans rfl; have ya0 := blk_frozen K12.out 0; have za1 : w3.cell? ⟨g12, 1, none⟩ = some (.int .i64 0) := (blk_cell K12.out 1).trans rfl; have ya1 := blk_frozen K12.out 1)
    | ((with_reducible refine gate_dst (N := 13) rfl ?_); refine box_event ?hg (N := 13) ?hd (cs := #[.slice none 0 0, .int .i64 0]) (t := 28) ?hr ?_; (case hd => rfl); (case hg => rfl); (case hr => first | (go_simp; done) | (go_simp; rfl)); intro g13 hg w5 hbox hb; have K13 := Aside0.mk hbox; have D : Aside0 (g12 ≠ g13) := ⟨by rw [hg]; exact Nat.ne_of_lt (blk_lt K12.out)⟩; have G13 := Aside0.mk (show _ ≤ g13 by rw [hg]; exact below_size HBA.out); have N13 : Aside0 (g13 ≠ gs) := ⟨HI.out.fresh _ G13.out⟩; replace K12 := Aside0.mk (blk_below K12.out hb); replace HBA := Aside0.mk (below_step HBA.out hb); clear hbox hb hg; clear za0 za1 ya0 ya1; have za0 : w5.cell? ⟨g12, 0, none⟩ = some (.slice none 0 0) := (blk_cell K12.out 0).trans rfl; have ya0 := blk_frozen K12.out 0; have za1 : w5.cell? ⟨g12, 1, none⟩ = some (.int .i64 0) := (blk_cell K12.out 1).trans rfl; have ya1 := blk_frozen K12.out 1; have zb0 : w5.cell? ⟨g13, 0, none⟩ = some (.slice none 0 0) := (blk_cell K13.out 0).trans rfl; have yb0 := blk_frozen K13.out 0; have zb1 : w5.cell? ⟨g13, 1, none⟩ = some (.int .i64 0) := (blk_cell K13.out 1).trans rfl; have yb1 := blk_frozen K13.out 1)
    | ((with_reducible refine gate_store (t := 28) (p := 12) rfl ?_); refine store_event (t := 28) (p := 12) (v := ?vo12) (w1 := ((w5.setCell ⟨g12, 0, none⟩ (.slice Ax lx.length kx)).setCell ⟨g12, 1, none⟩ (.int .i64 nx))) ?hg ?ho ?hn ?hr ?_; (case ho => rfl); (case hg => rfl); (case hn => rfl); (case hr => first | (go_simp; done) | (go_simp; rfl)); intro w6 hw; replace K12 := Aside0.mk (show w6.heap[g12]? = some (.cells #[.slice Ax lx.length kx, .int .i64 nx] 28 (0, 0)) by rw [hw]; exact blk_put (blk_put K12.out 0 _ rfl) 1 _ rfl); replace K13 := Aside0.mk (show w6.heap[g13]? = some (.cells #[.slice none 0 0, .int .i64 0] 28 (0, 0)) by rw [hw]; exact blk_far (blk_far K13.out (Ne.symm D.out) _) (Ne.symm D.out) _); replace HBA := Aside0.mk (below_set (g := g12) (j := 1) (v := (.int .i64 nx)) (below_set (g := g12) (j := 0) (v := (.slice Ax lx.length kx)) HBA.out G12.out) G12.out); rw [← hw] at HBA; clear hw; clear za0 za1 ya0 ya1; clear zb0 zb1 yb0 yb1; have zb0 : w6.cell? ⟨g13, 0, none⟩ = some (.slice none 0 0) := (blk_cell K13.out 0).trans rfl; have yb0 := blk_frozen K13.out 0; have zb1 : w6.cell? ⟨g13, 1, none⟩ = some (.int .i64 0) := (blk_cell K13.out 1).trans rfl; have yb1 := blk_frozen K13.out 1)
    | ((with_reducible refine gate_store (t := 28) (p := 13) rfl ?_); refine store_event (t := 28) (p := 13) (v := ?vo13) (w1 := ((w6.setCell ⟨g13, 0, none⟩ (.slice Ay ly.length ky)).setCell ⟨g13, 1, none⟩ (.int .i64 ny))) ?hg ?ho ?hn ?hr ?_; (case ho => rfl); (case hg => rfl); (case hn => rfl); (case hr => first | (go_simp; done) | (go_simp; rfl)); intro w7 hw; have B12 : Aside0 (Blk w7 gs g12 28 #[.slice Ax lx.length kx, .int .i64 nx]) := ⟨⟨by rw [hw]; exact blk_far (blk_far K12.out D.out _) D.out _, N12.out⟩⟩; have B13 : Aside0 (Blk w7 gs g13 28 #[.slice Ay ly.length ky, .int .i64 ny]) := ⟨⟨by rw [hw]; exact blk_put (blk_put K13.out 0 _ rfl) 1 _ rfl, N13.out⟩⟩; replace HBA := Aside0.mk (below_set (g := g13) (j := 1) (v := (.int .i64 ny)) (below_set (g := g13) (j := 0) (v := (.slice Ay ly.length ky)) HBA.out G13.out) G13.out); rw [← hw] at HBA; clear hw; clear zb0 zb1 yb0 yb1; have hb := HBA.out; have hk := keep_of hb gs; replace B5 := Aside0.mk (B5.out.keep hk); replace HRAW := Aside0.mk (HRAW.out.keep hk); replace HX := Aside0.mk (HX.out.keep hk); replace HY := Aside0.mk (HY.out.keep hk); replace HI := Aside0.mk (HI.out.below hb); replace HB := Aside0.mk (below_step HB.out hb); clear hb hk; clear HBA K12 K13 D G12 G13 N12 N13)
    | fail)
  refine (synoptickeep_Src_Range.calls gs ls i2 1 24 (kw : Int) i3 w _ HI.out HB.out ERG.out).mono ?_
  rintro e w1 ⟨rfl, hi, hb, hk⟩
  replace B5 := Aside0.mk (B5.out.keep hk); replace HRAW := Aside0.mk (HRAW.out.keep hk); replace HX := Aside0.mk (HX.out.keep hk); replace HY := Aside0.mk (HY.out.keep hk); replace B12 := Aside0.mk (B12.out.keep hk); replace B13 := Aside0.mk (B13.out.keep hk); replace HI := Aside0.mk hi; replace HB := Aside0.mk hb; clear hi hb hk
  go_wp2_with fail
  rw [HSH.out]
  refine (synoptickeep_Src_N.calls gs ls i3 (2 ^ kw) vv i4 w _ HI.out HB.out EVV.out).mono ?_
  rintro e w1 ⟨rfl, hi, hb, hk⟩
  replace B5 := Aside0.mk (B5.out.keep hk); replace HRAW := Aside0.mk (HRAW.out.keep hk); replace HX := Aside0.mk (HX.out.keep hk); replace HY := Aside0.mk (HY.out.keep hk); replace B12 := Aside0.mk (B12.out.keep hk); replace B13 := Aside0.mk (B13.out.keep hk); replace HI := Aside0.mk hi; replace HB := Aside0.mk hb; clear hi hb hk
  clear ERG EVV HSH
  have c50 := (B5.out.cell 0).trans (show _ = some (.slice A l.length c) from rfl)
  have c51 := (B5.out.cell 1).trans (show _ = some (.int .i64 n) from rfl)
  have c120 := (B12.out.cell 0).trans (show _ = some (.slice Ax lx.length kx) from rfl)
  have c121 := (B12.out.cell 1).trans (show _ = some (.int .i64 nx) from rfl)
  have c130 := (B13.out.cell 0).trans (show _ = some (.slice Ay ly.length ky) from rfl)
  have c131 := (B13.out.cell 1).trans (show _ = some (.int .i64 ny) from rfl)
  go_wp2_with (first
    | ((with_reducible refine gate_dst (N := 59) rfl ?_); refine lit_event ?hg (N := 59) ?hd (cs := #[.slice A l.length c, .int .i64 n, .slice Ax lx.length kx, .int .i64 nx, .slice Ay ly.length ky, .int .i64 ny]) (t := 28) (n := 3) ?hr ?_; (case hd => rfl); (case hg => rfl); (case hr => first | (go_simp; done) | (go_simp; rfl)); intro gA hg w3 hbox hb; have BA : Aside0 (Blk w3 gs gA 28 #[.slice A l.length c, .int .i64 n, .slice Ax lx.length kx, .int .i64 nx, .slice Ay ly.length ky, .int .i64 ny]) := ⟨⟨hbox, by rw [hg]; exact HI.out.fresh _ (Nat.le_refl _)⟩⟩; clear hbox hg; have hk := keep_of hb gs; replace HRAW := Aside0.mk (HRAW.out.keep hk); replace HX := Aside0.mk (HX.out.keep hk); replace HY := Aside0.mk (HY.out.keep hk); replace B12 := Aside0.mk (B12.out.keep hk); replace HI := Aside0.mk (HI.out.below hb); replace HB := Aside0.mk (below_step HB.out hb); clear hb hk)
    | fail)
  clear c50 c51 c120 c121 c130 c131
  clear B5 B13
  go_loopg [61] 3 (fun kq v61 w' => ∃ (i : Nat) (si : Int), v61 = .int .i64 (i : Int) ∧ Aside0 (i + kq = 3) ∧ Aside0 (Src ls si) ∧ Aside0 (IsS60 w w' gs ls si) ∧ Aside0 (Held w' gs A l) ∧ Aside0 (Held w' gs Ax lx) ∧ Aside0 (Held w' gs Ay ly) ∧ Aside0 (Blk w' gs g12 28 #[.slice Ax lx.length kx, .int .i64 nx]) ∧ Aside0 (Blk w' gs gA 28 #[.slice A l.length c, .int .i64 n, .slice Ax lx.length kx, .int .i64 nx, .slice Ay ly.length ky, .int .i64 ny]) ∧ Aside0 (Below w.heap.size w w'))
  case atStart => exact ⟨0, i4, rfl, ⟨rfl⟩, HS, HI, HRAW, HX, HY, B12, BA, HB⟩
  case round =>
    clear HS HI HB HRAW HX HY B12 BA
    obtain ⟨i, si, rfl, HK, HS, HI, HRAW, HX, HY, B12, BA, HB⟩ := hrel
    by_cases hi3 : i = 3
    · subst hi3
      go_wp2_with fail
      refine (synopticlaw07_awake.calls true _ awake_true).mono ?_
      rintro e w1 ⟨rfl, hb⟩
      replace HB := Aside0.mk (below_step HB.out hb)
      clear hb
      go_wp2
      go_ret
      exact ⟨rfl, HB.out⟩
    have HI3 : Aside0 (i < 3) := ⟨by have := HK.out; omega⟩
    have hd1 : decide ((i : Int) < 3) = true := decide_eq_true (by have := HI3.out; omega)
    have hd2 : decide (i < 3) = true := decide_eq_true HI3.out
    clear hi3
    go_upto_region 9 with fail
    clear hd1 hd2
    go_cut [17, 61] from 61 to 212 (fun v17 v61 wx => ∃ (g17 : Nat) (Ab : Option Addr) (kb : Nat) (lb : List Int) (nb : Int), v17 = .pointer (some ⟨g17, 0, none⟩) ∧ v61 = .int .i64 (i : Int) ∧ Aside0 (Blk wx gs g17 28 #[.slice Ab lb.length kb, .int .i64 nb]) ∧ Aside0 (Held wx gs Ab lb) ∧ Aside0 (lb.length ≤ kb ∧ okL lb ∧ lb.length ≤ 6000 ∧ i64 nb) ∧ Aside0 (Src ls si) ∧ Aside0 (IsS60 w wx gs ls si) ∧ Aside0 (Held wx gs A l) ∧ Aside0 (Held wx gs Ax lx) ∧ Aside0 (Held wx gs Ay ly) ∧ Aside0 (Blk wx gs g12 28 #[.slice Ax lx.length kx, .int .i64 nx]) ∧ Aside0 (Blk wx gs gA 28 #[.slice A l.length c, .int .i64 n, .slice Ax lx.length kx, .int .i64 nx, .slice Ay ly.length ky, .int .i64 ny]) ∧ Aside0 (Below w.heap.size w wx))
    case first =>
      obtain rfl | rfl | rfl : i = 0 ∨ i = 1 ∨ i = 2 := by have := HI3.out; omega
      · skip
        have cA0 := (BA.out.cell 0).trans (show _ = some (.slice A l.length c) from rfl)
        have cA1 := (BA.out.cell 1).trans (show _ = some (.int .i64 n) from rfl)
        go_wp2_with (first
          | ((with_reducible refine gate_dst (N := 17) rfl ?_); refine box_event ?hg (N := 17) ?hd (cs := #[.slice none 0 0, .int .i64 0]) (t := 28) ?hr ?_; (case hd => rfl); (case hg => rfl); (case hr => first | (go_simp; done) | (go_simp; rfl)); intro g17 hg w3 hbox hb; have HK := Aside0.mk hbox; have HBA := Aside0.mk hb; have HGE := Aside0.mk hg; have HNG : Aside0 (g17 ≠ gs) := ⟨by rw [hg]; exact (HI.out.fresh _ (Nat.le_refl _))⟩; clear hbox hb hg; have z0 : w3.cell? ⟨g17, 0, none⟩ = some (.slice none 0 0) := (blk_cell HK.out 0).trans rfl; have y0 := blk_frozen HK.out 0; have z1 : w3.cell? ⟨g17, 1, none⟩ = some (.int .i64 0) := (blk_cell HK.out 1).trans rfl; have y1 := blk_frozen HK.out 1)
          | ((with_reducible refine gate_store (t := 28) (p := 17) rfl ?_); refine store_event (t := 28) (p := 17) (v := ?vo17) (w1 := ((w3.setCell ⟨g17, 0, none⟩ (.slice A l.length c)).setCell ⟨g17, 1, none⟩ (.int .i64 n))) ?hg ?ho ?hn ?hr ?_; (case ho => rfl); (case hg => rfl); (case hn => rfl); (case hr => first | (go_simp; done) | (go_simp; rfl)); intro w4 hw; have hb := below_set (g := g17) (j := 1) (v := (.int .i64 n)) (below_set (g := g17) (j := 0) (v := (.slice A l.length c)) HBA.out (Nat.le_of_eq HGE.out.symm)) (Nat.le_of_eq HGE.out.symm); rw [← hw] at hb; have B17 : Aside0 (Blk w4 gs g17 28 #[.slice A l.length c, .int .i64 n]) := ⟨⟨by rw [hw]; exact blk_put (blk_put HK.out 0 _ rfl) 1 _ rfl, HNG.out⟩⟩; clear hw z0 z1 y0 y1 HK HBA HGE HNG; have hk := keep_of hb gs; replace HRAW := Aside0.mk (HRAW.out.keep hk); replace HX := Aside0.mk (HX.out.keep hk); replace HY := Aside0.mk (HY.out.keep hk); replace B12 := Aside0.mk (B12.out.keep hk); replace BA := Aside0.mk (BA.out.keep hk); replace HI := Aside0.mk (HI.out.below hb); replace HB := Aside0.mk (below_step HB.out hb); clear hb hk)
          | fail)
        go_meet
        case rel => exact ⟨g17, A, c, l, n, rfl, rfl, B17, HRAW, ⟨HC.out, HL.out, HLL.out, IN.out⟩, HS, HI, HRAW, HX, HY, B12, BA, HB⟩
      · skip
        have cA2 := (BA.out.cell 2).trans (show _ = some (.slice Ax lx.length kx) from rfl)
        have cA3 := (BA.out.cell 3).trans (show _ = some (.int .i64 nx) from rfl)
        go_wp2_with (first
          | ((with_reducible refine gate_dst (N := 17) rfl ?_); refine box_event ?hg (N := 17) ?hd (cs := #[.slice none 0 0, .int .i64 0]) (t := 28) ?hr ?_; (case hd => rfl); (case hg => rfl); (case hr => first | (go_simp; done) | (go_simp; rfl)); intro g17 hg w3 hbox hb; have HK := Aside0.mk hbox; have HBA := Aside0.mk hb; have HGE := Aside0.mk hg; have HNG : Aside0 (g17 ≠ gs) := ⟨by rw [hg]; exact (HI.out.fresh _ (Nat.le_refl _))⟩; clear hbox hb hg; have z0 : w3.cell? ⟨g17, 0, none⟩ = some (.slice none 0 0) := (blk_cell HK.out 0).trans rfl; have y0 := blk_frozen HK.out 0; have z1 : w3.cell? ⟨g17, 1, none⟩ = some (.int .i64 0) := (blk_cell HK.out 1).trans rfl; have y1 := blk_frozen HK.out 1)
          | ((with_reducible refine gate_store (t := 28) (p := 17) rfl ?_); refine store_event (t := 28) (p := 17) (v := ?vo17) (w1 := ((w3.setCell ⟨g17, 0, none⟩ (.slice Ax lx.length kx)).setCell ⟨g17, 1, none⟩ (.int .i64 nx))) ?hg ?ho ?hn ?hr ?_; (case ho => rfl); (case hg => rfl); (case hn => rfl); (case hr => first | (go_simp; done) | (go_simp; rfl)); intro w4 hw; have hb := below_set (g := g17) (j := 1) (v := (.int .i64 nx)) (below_set (g := g17) (j := 0) (v := (.slice Ax lx.length kx)) HBA.out (Nat.le_of_eq HGE.out.symm)) (Nat.le_of_eq HGE.out.symm); rw [← hw] at hb; have B17 : Aside0 (Blk w4 gs g17 28 #[.slice Ax lx.length kx, .int .i64 nx]) := ⟨⟨by rw [hw]; exact blk_put (blk_put HK.out 0 _ rfl) 1 _ rfl, HNG.out⟩⟩; clear hw z0 z1 y0 y1 HK HBA HGE HNG; have hk := keep_of hb gs; replace HRAW := Aside0.mk (HRAW.out.keep hk); replace HX := Aside0.mk (HX.out.keep hk); replace HY := Aside0.mk (HY.out.keep hk); replace B12 := Aside0.mk (B12.out.keep hk); replace BA := Aside0.mk (BA.out.keep hk); replace HI := Aside0.mk (HI.out.below hb); replace HB := Aside0.mk (below_step HB.out hb); clear hb hk)
          | fail)
        go_meet
        case rel => exact ⟨g17, Ax, kx, lx, nx, rfl, rfl, B17, HX, ⟨CX.out, OX.out, LX.out, NX.out⟩, HS, HI, HRAW, HX, HY, B12, BA, HB⟩
      · skip
        have cA4 := (BA.out.cell 4).trans (show _ = some (.slice Ay ly.length ky) from rfl)
        have cA5 := (BA.out.cell 5).trans (show _ = some (.int .i64 ny) from rfl)
        go_wp2_with (first
          | ((with_reducible refine gate_dst (N := 17) rfl ?_); refine box_event ?hg (N := 17) ?hd (cs := #[.slice none 0 0, .int .i64 0]) (t := 28) ?hr ?_; (case hd => rfl); (case hg => rfl); (case hr => first | (go_simp; done) | (go_simp; rfl)); intro g17 hg w3 hbox hb; have HK := Aside0.mk hbox; have HBA := Aside0.mk hb; have HGE := Aside0.mk hg; have HNG : Aside0 (g17 ≠ gs) := ⟨by rw [hg]; exact (HI.out.fresh _ (Nat.le_refl _))⟩; clear hbox hb hg; have z0 : w3.cell? ⟨g17, 0, none⟩ = some (.slice none 0 0) := (blk_cell HK.out 0).trans rfl; have y0 := blk_frozen HK.out 0; have z1 : w3.cell? ⟨g17, 1, none⟩ = some (.int .i64 0) := (blk_cell HK.out 1).trans rfl; have y1 := blk_frozen HK.out 1)
          | ((with_reducible refine gate_store (t := 28) (p := 17) rfl ?_); refine store_event (t := 28) (p := 17) (v := ?vo17) (w1 := ((w3.setCell ⟨g17, 0, none⟩ (.slice Ay ly.length ky)).setCell ⟨g17, 1, none⟩ (.int .i64 ny))) ?hg ?ho ?hn ?hr ?_; (case ho => rfl); (case hg => rfl); (case hn => rfl); (case hr => first | (go_simp; done) | (go_simp; rfl)); intro w4 hw; have hb := below_set (g := g17) (j := 1) (v := (.int .i64 ny)) (below_set (g := g17) (j := 0) (v := (.slice Ay ly.length ky)) HBA.out (Nat.le_of_eq HGE.out.symm)) (Nat.le_of_eq HGE.out.symm); rw [← hw] at hb; have B17 : Aside0 (Blk w4 gs g17 28 #[.slice Ay ly.length ky, .int .i64 ny]) := ⟨⟨by rw [hw]; exact blk_put (blk_put HK.out 0 _ rfl) 1 _ rfl, HNG.out⟩⟩; clear hw z0 z1 y0 y1 HK HBA HGE HNG; have hk := keep_of hb gs; replace HRAW := Aside0.mk (HRAW.out.keep hk); replace HX := Aside0.mk (HX.out.keep hk); replace HY := Aside0.mk (HY.out.keep hk); replace B12 := Aside0.mk (B12.out.keep hk); replace BA := Aside0.mk (BA.out.keep hk); replace HI := Aside0.mk (HI.out.below hb); replace HB := Aside0.mk (below_step HB.out hb); clear hb hk)
          | fail)
        go_meet
        case rel => exact ⟨g17, Ay, ky, ly, ny, rfl, rfl, B17, HY, ⟨CY.out, OY.out, LY.out, NY.out⟩, HS, HI, HRAW, HX, HY, B12, BA, HB⟩
    case rest =>
      clear HS HI HB HRAW HX HY B12 BA
      obtain ⟨g17, Ab, kb, lb, nb, rfl, rfl, B17, HBB, HBF, HS, HI, HRAW, HX, HY, B12, BA, HB⟩ := hcut
      obtain ⟨ud, j1, hud, hs1, ud0, ud1⟩ := n_src HS.out (show (1 : Int) ≤ 2 by omega) (by omega)
      obtain ⟨ue, j2, hue, hs2, ue0, ue1⟩ := range_src hs1 (show (-1000000 : Int) ≤ 0 by omega) (show (0 : Int) ≤ 25 by omega) (by omega)
      have EUD := Aside0.mk hud
      have EUE := Aside0.mk hue
      have UE1 : Aside0 (i64 ue) := ⟨i64_of (by omega) (by omega)⟩
      replace HS := Aside0.mk hs2
      clear hud hue hs1 hs2 ud0 ud1 ue0 ue1
      go_wp2_with fail
      refine (synoptickeep_Src_N.calls gs ls si 2 ud j1 w _ HI.out HB.out EUD.out).mono ?_
      rintro e w1 ⟨rfl, hi, hb, hk⟩
      replace HRAW := Aside0.mk (HRAW.out.keep hk); replace HX := Aside0.mk (HX.out.keep hk); replace HY := Aside0.mk (HY.out.keep hk); replace B12 := Aside0.mk (B12.out.keep hk); replace BA := Aside0.mk (BA.out.keep hk); replace B17 := Aside0.mk (B17.out.keep hk); replace HBB := Aside0.mk (HBB.out.keep hk); replace HI := Aside0.mk hi; replace HB := Aside0.mk hb; clear hi hb hk
      go_wp2_with fail
      refine (synoptickeep_Src_Range.calls gs ls j1 0 25 ue j2 w _ HI.out HB.out EUE.out).mono ?_
      rintro e w1 ⟨rfl, hi, hb, hk⟩
      replace HRAW := Aside0.mk (HRAW.out.keep hk); replace HX := Aside0.mk (HX.out.keep hk); replace HY := Aside0.mk (HY.out.keep hk); replace B12 := Aside0.mk (B12.out.keep hk); replace BA := Aside0.mk (BA.out.keep hk); replace B17 := Aside0.mk (B17.out.keep hk); replace HBB := Aside0.mk (HBB.out.keep hk); replace HI := Aside0.mk hi; replace HB := Aside0.mk hb; clear hi hb hk
      clear EUD EUE
      go_wp2_with (first
        | ((with_reducible refine gate_dst (N := 81) rfl ?_); refine lit_event ?hg (N := 81) ?hd (cs := #[.int .i64 a2, .int .i64 a3, .int .i64 vv, .int .i64 (kw : Int), .int .i64 vv, .int .i64 a3, .int .i64 (wrap64 (vv + ud)), .int .i64 ue]) (t := 56) (n := 4) ?hr ?_; (case hd => rfl); (case hg => rfl); (case hr => first | (go_simp; done) | (go_simp; rfl)); intro gT hg w3 hbox hb; have BT : Aside0 (Blk w3 gs gT 56 #[.int .i64 a2, .int .i64 a3, .int .i64 vv, .int .i64 (kw : Int), .int .i64 vv, .int .i64 a3, .int .i64 (wrap64 (vv + ud)), .int .i64 ue]) := ⟨⟨hbox, by rw [hg]; exact HI.out.fresh _ (Nat.le_refl _)⟩⟩; clear hbox hg; have hk := keep_of hb gs; replace HRAW := Aside0.mk (HRAW.out.keep hk); replace HX := Aside0.mk (HX.out.keep hk); replace HY := Aside0.mk (HY.out.keep hk); replace B12 := Aside0.mk (B12.out.keep hk); replace BA := Aside0.mk (BA.out.keep hk); replace B17 := Aside0.mk (B17.out.keep hk); replace HBB := Aside0.mk (HBB.out.keep hk); replace HI := Aside0.mk (HI.out.below hb); replace HB := Aside0.mk (below_step HB.out hb); clear hb hk)
        | fail)
      go_loopg [83] 4 (fun kq v83 w' => ∃ (j : Nat) (si : Int), v83 = .int .i64 (j : Int) ∧ Aside0 (j + kq = 4) ∧ Aside0 (Src ls si) ∧ Aside0 (IsS60 w w' gs ls si) ∧ Aside0 (Held w' gs A l) ∧ Aside0 (Held w' gs Ax lx) ∧ Aside0 (Held w' gs Ay ly) ∧ Aside0 (Blk w' gs g12 28 #[.slice Ax lx.length kx, .int .i64 nx]) ∧ Aside0 (Blk w' gs gA 28 #[.slice A l.length c, .int .i64 n, .slice Ax lx.length kx, .int .i64 nx, .slice Ay ly.length ky, .int .i64 ny]) ∧ Aside0 (Blk w' gs g17 28 #[.slice Ab lb.length kb, .int .i64 nb]) ∧ Aside0 (Held w' gs Ab lb) ∧ Aside0 (Blk w' gs gT 56 #[.int .i64 a2, .int .i64 a3, .int .i64 vv, .int .i64 (kw : Int), .int .i64 vv, .int .i64 a3, .int .i64 (wrap64 (vv + ud)), .int .i64 ue]) ∧ Aside0 (Below w.heap.size w w'))
      case atStart => exact ⟨0, j2, rfl, ⟨rfl⟩, HS, HI, HRAW, HX, HY, B12, BA, B17, HBB, BT, HB⟩
      case round =>
        clear HS HI HB HRAW HX HY B12 BA B17 HBB BT
        obtain ⟨j, si, rfl, HKJ, HS, HI, HRAW, HX, HY, B12, BA, B17, HBB, BT, HB⟩ := hrel
        by_cases hj4 : j = 4
        · subst hj4
          clear BT
          obtain ⟨⟨p1, p2, p3⟩, he1, he2⟩ := join_ref HBF.out.2.1 OX.out nb nx
          obtain ⟨⟨d1, d2, d3⟩, hf1, hf2⟩ := pad_ref HBF.out.2.1 nb (by have := HBF.out.2.2.1; omega)
          obtain ⟨K1, he2⟩ := he2.rounds
          obtain ⟨K2, hf2⟩ := hf2.rounds
          obtain ⟨vb, hv1, hv2⟩ := ref_valid HBF.out.2.1 nb
          obtain ⟨K3, hv2⟩ := hv2.rounds
          obtain ⟨K4, hq1⟩ := (same_ev (l := lb) (m := lx) nb nx (by have := HBF.out.2.2.1; omega)).rounds
          have hq2 := ref_same HBF.out.2.1 OX.out nb nx
          obtain ⟨sb, hsb⟩ : ∃ sb, sb = decide (nb = nx ∧ lb = lx) := ⟨_, rfl⟩
          rw [← hsb] at hq1 hq2
          have E1 := Aside0.mk he1
          have E2 := Aside0.mk he2
          have F1 := Aside0.mk hf1
          have F2 := Aside0.mk hf2
          have V1 := Aside0.mk hv1
          have V2 := Aside0.mk hv2
          have Q1 := Aside0.mk hq1
          have Q2 := Aside0.mk hq2
          clear he1 he2 hf1 hf2 hv1 hv2 hq1 hq2 hsb
          have c170 := (B17.out.cell 0).trans (show _ = some (.slice Ab lb.length kb) from rfl)
          have c171 := (B17.out.cell 1).trans (show _ = some (.int .i64 nb) from rfl)
          have c120 := (B12.out.cell 0).trans (show _ = some (.slice Ax lx.length kx) from rfl)
          have c121 := (B12.out.cell 1).trans (show _ = some (.int .i64 nx) from rfl)
          go_wp2_with fail
          refine (bits_Join.calls Ab kb lb nb Ax kx lx nx p1 p2 p3 _ HBB.out.now HBF.out.1 HX.out.now CX.out E1.out).mono ?_
          rintro e w1 ⟨v0, rfl, ho, hb⟩
          obtain ⟨A30, k30, eo⟩ : ∃ A k, v0 = .slice A (p1).length k := (by obtain ⟨A, k, h⟩ := Kd.R_slice ho; exact ⟨A, k, by rw [h]⟩); subst eo
          have HR := Aside0.mk ho
          have C30 := Aside0.mk (Kd.R_reads' HR.out).2.1
          clear c170 c171 c120 c121
          have hk := keep_of hb gs; replace HRAW := Aside0.mk (HRAW.out.keep hk); replace HX := Aside0.mk (HX.out.keep hk); replace HY := Aside0.mk (HY.out.keep hk); replace B12 := Aside0.mk (B12.out.keep hk); replace BA := Aside0.mk (BA.out.keep hk); replace B17 := Aside0.mk (B17.out.keep hk); replace HBB := Aside0.mk (HBB.out.keep hk); replace HI := Aside0.mk (HI.out.below hb); replace HB := Aside0.mk (below_step HB.out hb); clear hb hk
          clear ho
          go_wp2_with (first
            | ((with_reducible refine gate_dst (N := 30) rfl ?_); refine box_event ?hg (N := 30) ?hd (cs := #[.slice none 0 0, .int .i64 0]) (t := 28) ?hr ?_; (case hd => rfl); (case hg => rfl); (case hr => first | (go_simp; done) | (go_simp; rfl)); intro g30 hg w3 hbox hb; have HK := Aside0.mk hbox; have HBA := Aside0.mk hb; have HGE := Aside0.mk hg; have HNG : Aside0 (g30 ≠ gs) := ⟨by rw [hg]; exact (HI.out.fresh _ (Nat.le_refl _))⟩; clear hbox hb hg; have z0 : w3.cell? ⟨g30, 0, none⟩ = some (.slice none 0 0) := (blk_cell HK.out 0).trans rfl; have y0 := blk_frozen HK.out 0; have z1 : w3.cell? ⟨g30, 1, none⟩ = some (.int .i64 0) := (blk_cell HK.out 1).trans rfl; have y1 := blk_frozen HK.out 1)
            | ((with_reducible refine gate_store (t := 28) (p := 30) rfl ?_); refine store_event (t := 28) (p := 30) (v := ?vo30) (w1 := ((w3.setCell ⟨g30, 0, none⟩ (.slice A30 p1.length k30)).setCell ⟨g30, 1, none⟩ (.int .i64 p2))) ?hg ?ho ?hn ?hr ?_; (case ho => rfl); (case hg => rfl); (case hn => rfl); (case hr => first | (go_simp; done) | (go_simp; rfl)); intro w4 hw; have hb := below_set (g := g30) (j := 1) (v := (.int .i64 p2)) (below_set (g := g30) (j := 0) (v := (.slice A30 p1.length k30)) HBA.out (Nat.le_of_eq HGE.out.symm)) (Nat.le_of_eq HGE.out.symm); rw [← hw] at hb; have B30 : Aside0 (Blk w4 gs g30 28 #[.slice A30 p1.length k30, .int .i64 p2]) := ⟨⟨by rw [hw]; exact blk_put (blk_put HK.out 0 _ rfl) 1 _ rfl, HNG.out⟩⟩; clear hw z0 z1 y0 y1 HK HBA HGE HNG; have HR4 := Aside0.mk (Kd.R_below HR.out hb); clear HR; have hk := keep_of hb gs; replace HRAW := Aside0.mk (HRAW.out.keep hk); replace HX := Aside0.mk (HX.out.keep hk); replace HY := Aside0.mk (HY.out.keep hk); replace B12 := Aside0.mk (B12.out.keep hk); replace BA := Aside0.mk (BA.out.keep hk); replace B17 := Aside0.mk (B17.out.keep hk); replace HBB := Aside0.mk (HBB.out.keep hk); replace HI := Aside0.mk (HI.out.below hb); replace HB := Aside0.mk (below_step HB.out hb); clear hb hk; have H30 := Aside0.mk (Held.own HI.out HR4.out); clear HR4; have c170 := (B17.out.cell 0).trans (show _ = some (.slice Ab lb.length kb) from rfl); have c171 := (B17.out.cell 1).trans (show _ = some (.int .i64 nb) from rfl); have c120 := (B12.out.cell 0).trans (show _ = some (.slice Ax lx.length kx) from rfl); have c121 := (B12.out.cell 1).trans (show _ = some (.int .i64 nx) from rfl))
            | fail)
          refine (synopticref07_Join.calls K1 Ab kb lb nb Ax kx lx nx p1 p2 p3 _ HBB.out.now HBF.out.1 HX.out.now CX.out E2.out).mono ?_
          rintro e w1 ⟨v0, rfl, ho, hb⟩
          obtain ⟨A32, k32, eo⟩ : ∃ A k, v0 = .slice A (p1).length k := (by obtain ⟨A, k, h⟩ := Kd.R_slice ho; exact ⟨A, k, by rw [h]⟩); subst eo
          have HR := Aside0.mk ho
          have C32 := Aside0.mk (Kd.R_reads' HR.out).2.1
          clear c170 c171 c120 c121
          have hk := keep_of hb gs; replace HRAW := Aside0.mk (HRAW.out.keep hk); replace HX := Aside0.mk (HX.out.keep hk); replace HY := Aside0.mk (HY.out.keep hk); replace B12 := Aside0.mk (B12.out.keep hk); replace BA := Aside0.mk (BA.out.keep hk); replace B17 := Aside0.mk (B17.out.keep hk); replace HBB := Aside0.mk (HBB.out.keep hk); replace B30 := Aside0.mk (B30.out.keep hk); replace H30 := Aside0.mk (H30.out.keep hk); replace HI := Aside0.mk (HI.out.below hb); replace HB := Aside0.mk (below_step HB.out hb); clear hb hk
          clear ho
          go_wp2_with (first
            | ((with_reducible refine gate_dst (N := 32) rfl ?_); refine box_event ?hg (N := 32) ?hd (cs := #[.slice none 0 0, .int .i64 0]) (t := 28) ?hr ?_; (case hd => rfl); (case hg => rfl); (case hr => first | (go_simp; done) | (go_simp; rfl)); intro g32 hg w3 hbox hb; have HK := Aside0.mk hbox; have HBA := Aside0.mk hb; have HGE := Aside0.mk hg; have HNG : Aside0 (g32 ≠ gs) := ⟨by rw [hg]; exact (HI.out.fresh _ (Nat.le_refl _))⟩; clear hbox hb hg; have z0 : w3.cell? ⟨g32, 0, none⟩ = some (.slice none 0 0) := (blk_cell HK.out 0).trans rfl; have y0 := blk_frozen HK.out 0; have z1 : w3.cell? ⟨g32, 1, none⟩ = some (.int .i64 0) := (blk_cell HK.out 1).trans rfl; have y1 := blk_frozen HK.out 1)
            | ((with_reducible refine gate_store (t := 28) (p := 32) rfl ?_); refine store_event (t := 28) (p := 32) (v := ?vo32) (w1 := ((w3.setCell ⟨g32, 0, none⟩ (.slice A32 p1.length k32)).setCell ⟨g32, 1, none⟩ (.int .i64 p2))) ?hg ?ho ?hn ?hr ?_; (case ho => rfl); (case hg => rfl); (case hn => rfl); (case hr => first | (go_simp; done) | (go_simp; rfl)); intro w4 hw; have hb := below_set (g := g32) (j := 1) (v := (.int .i64 p2)) (below_set (g := g32) (j := 0) (v := (.slice A32 p1.length k32)) HBA.out (Nat.le_of_eq HGE.out.symm)) (Nat.le_of_eq HGE.out.symm); rw [← hw] at hb; have B32 : Aside0 (Blk w4 gs g32 28 #[.slice A32 p1.length k32, .int .i64 p2]) := ⟨⟨by rw [hw]; exact blk_put (blk_put HK.out 0 _ rfl) 1 _ rfl, HNG.out⟩⟩; clear hw z0 z1 y0 y1 HK HBA HGE HNG; have HR4 := Aside0.mk (Kd.R_below HR.out hb); clear HR; have hk := keep_of hb gs; replace HRAW := Aside0.mk (HRAW.out.keep hk); replace HX := Aside0.mk (HX.out.keep hk); replace HY := Aside0.mk (HY.out.keep hk); replace B12 := Aside0.mk (B12.out.keep hk); replace BA := Aside0.mk (BA.out.keep hk); replace B17 := Aside0.mk (B17.out.keep hk); replace HBB := Aside0.mk (HBB.out.keep hk); replace B30 := Aside0.mk (B30.out.keep hk); replace H30 := Aside0.mk (H30.out.keep hk); replace HI := Aside0.mk (HI.out.below hb); replace HB := Aside0.mk (below_step HB.out hb); clear hb hk; have H32 := Aside0.mk (Held.own HI.out HR4.out); clear HR4; have c170 := (B17.out.cell 0).trans (show _ = some (.slice Ab lb.length kb) from rfl); have c171 := (B17.out.cell 1).trans (show _ = some (.int .i64 nb) from rfl); have c120 := (B12.out.cell 0).trans (show _ = some (.slice Ax lx.length kx) from rfl); have c121 := (B12.out.cell 1).trans (show _ = some (.int .i64 nx) from rfl))
            | fail)
          refine (bits_Pad.calls Ab kb lb nb d1 d2 d3 _ HBB.out.now HBF.out.1 F1.out).mono ?_
          rintro e w1 ⟨v0, rfl, ho, hb⟩
          obtain ⟨A34, k34, eo⟩ : ∃ A k, v0 = .slice A (d1).length k := (by obtain ⟨A, k, h⟩ := Kd.R_slice ho; exact ⟨A, k, by rw [h]⟩); subst eo
          have HR := Aside0.mk ho
          have C34 := Aside0.mk (Kd.R_reads' HR.out).2.1
          clear c170 c171 c120 c121
          have hk := keep_of hb gs; replace HRAW := Aside0.mk (HRAW.out.keep hk); replace HX := Aside0.mk (HX.out.keep hk); replace HY := Aside0.mk (HY.out.keep hk); replace B12 := Aside0.mk (B12.out.keep hk); replace BA := Aside0.mk (BA.out.keep hk); replace B17 := Aside0.mk (B17.out.keep hk); replace HBB := Aside0.mk (HBB.out.keep hk); replace B30 := Aside0.mk (B30.out.keep hk); replace H30 := Aside0.mk (H30.out.keep hk); replace B32 := Aside0.mk (B32.out.keep hk); replace H32 := Aside0.mk (H32.out.keep hk); replace HI := Aside0.mk (HI.out.below hb); replace HB := Aside0.mk (below_step HB.out hb); clear hb hk
          clear ho
          go_wp2_with (first
            | ((with_reducible refine gate_dst (N := 34) rfl ?_); refine box_event ?hg (N := 34) ?hd (cs := #[.slice none 0 0, .int .i64 0]) (t := 28) ?hr ?_; (case hd => rfl); (case hg => rfl); (case hr => first | (go_simp; done) | (go_simp; rfl)); intro g34 hg w3 hbox hb; have HK := Aside0.mk hbox; have HBA := Aside0.mk hb; have HGE := Aside0.mk hg; have HNG : Aside0 (g34 ≠ gs) := ⟨by rw [hg]; exact (HI.out.fresh _ (Nat.le_refl _))⟩; clear hbox hb hg; have z0 : w3.cell? ⟨g34, 0, none⟩ = some (.slice none 0 0) := (blk_cell HK.out 0).trans rfl; have y0 := blk_frozen HK.out 0; have z1 : w3.cell? ⟨g34, 1, none⟩ = some (.int .i64 0) := (blk_cell HK.out 1).trans rfl; have y1 := blk_frozen HK.out 1)
            | ((with_reducible refine gate_store (t := 28) (p := 34) rfl ?_); refine store_event (t := 28) (p := 34) (v := ?vo34) (w1 := ((w3.setCell ⟨g34, 0, none⟩ (.slice A34 d1.length k34)).setCell ⟨g34, 1, none⟩ (.int .i64 d2))) ?hg ?ho ?hn ?hr ?_; (case ho => rfl); (case hg => rfl); (case hn => rfl); (case hr => first | (go_simp; done) | (go_simp; rfl)); intro w4 hw; have hb := below_set (g := g34) (j := 1) (v := (.int .i64 d2)) (below_set (g := g34) (j := 0) (v := (.slice A34 d1.length k34)) HBA.out (Nat.le_of_eq HGE.out.symm)) (Nat.le_of_eq HGE.out.symm); rw [← hw] at hb; have B34 : Aside0 (Blk w4 gs g34 28 #[.slice A34 d1.length k34, .int .i64 d2]) := ⟨⟨by rw [hw]; exact blk_put (blk_put HK.out 0 _ rfl) 1 _ rfl, HNG.out⟩⟩; clear hw z0 z1 y0 y1 HK HBA HGE HNG; have HR4 := Aside0.mk (Kd.R_below HR.out hb); clear HR; have hk := keep_of hb gs; replace HRAW := Aside0.mk (HRAW.out.keep hk); replace HX := Aside0.mk (HX.out.keep hk); replace HY := Aside0.mk (HY.out.keep hk); replace B12 := Aside0.mk (B12.out.keep hk); replace BA := Aside0.mk (BA.out.keep hk); replace B17 := Aside0.mk (B17.out.keep hk); replace HBB := Aside0.mk (HBB.out.keep hk); replace B30 := Aside0.mk (B30.out.keep hk); replace H30 := Aside0.mk (H30.out.keep hk); replace B32 := Aside0.mk (B32.out.keep hk); replace H32 := Aside0.mk (H32.out.keep hk); replace HI := Aside0.mk (HI.out.below hb); replace HB := Aside0.mk (below_step HB.out hb); clear hb hk; have H34 := Aside0.mk (Held.own HI.out HR4.out); clear HR4; have c170 := (B17.out.cell 0).trans (show _ = some (.slice Ab lb.length kb) from rfl); have c171 := (B17.out.cell 1).trans (show _ = some (.int .i64 nb) from rfl); have c120 := (B12.out.cell 0).trans (show _ = some (.slice Ax lx.length kx) from rfl); have c121 := (B12.out.cell 1).trans (show _ = some (.int .i64 nx) from rfl))
            | fail)
          refine (synopticref07_Pad.calls K2 Ab kb lb nb d1 d2 d3 _ HBB.out.now HBF.out.1 F2.out).mono ?_
          rintro e w1 ⟨v0, rfl, ho, hb⟩
          obtain ⟨A36, k36, eo⟩ : ∃ A k, v0 = .slice A (d1).length k := (by obtain ⟨A, k, h⟩ := Kd.R_slice ho; exact ⟨A, k, by rw [h]⟩); subst eo
          have HR := Aside0.mk ho
          have C36 := Aside0.mk (Kd.R_reads' HR.out).2.1
          clear c170 c171 c120 c121
          have hk := keep_of hb gs; replace HRAW := Aside0.mk (HRAW.out.keep hk); replace HX := Aside0.mk (HX.out.keep hk); replace HY := Aside0.mk (HY.out.keep hk); replace B12 := Aside0.mk (B12.out.keep hk); replace BA := Aside0.mk (BA.out.keep hk); replace B17 := Aside0.mk (B17.out.keep hk); replace HBB := Aside0.mk (HBB.out.keep hk); replace B30 := Aside0.mk (B30.out.keep hk); replace H30 := Aside0.mk (H30.out.keep hk); replace B32 := Aside0.mk (B32.out.keep hk); replace H32 := Aside0.mk (H32.out.keep hk); replace B34 := Aside0.mk (B34.out.keep hk); replace H34 := Aside0.mk (H34.out.keep hk); replace HI := Aside0.mk (HI.out.below hb); replace HB := Aside0.mk (below_step HB.out hb); clear hb hk
          clear ho
          go_wp2_with (first
            | ((with_reducible refine gate_dst (N := 36) rfl ?_); refine box_event ?hg (N := 36) ?hd (cs := #[.slice none 0 0, .int .i64 0]) (t := 28) ?hr ?_; (case hd => rfl); (case hg => rfl); (case hr => first | (go_simp; done) | (go_simp; rfl)); intro g36 hg w3 hbox hb; have HK := Aside0.mk hbox; have HBA := Aside0.mk hb; have HGE := Aside0.mk hg; have HNG : Aside0 (g36 ≠ gs) := ⟨by rw [hg]; exact (HI.out.fresh _ (Nat.le_refl _))⟩; clear hbox hb hg; have z0 : w3.cell? ⟨g36, 0, none⟩ = some (.slice none 0 0) := (blk_cell HK.out 0).trans rfl; have y0 := blk_frozen HK.out 0; have z1 : w3.cell? ⟨g36, 1, none⟩ = some (.int .i64 0) := (blk_cell HK.out 1).trans rfl; have y1 := blk_frozen HK.out 1)
            | ((with_reducible refine gate_store (t := 28) (p := 36) rfl ?_); refine store_event (t := 28) (p := 36) (v := ?vo36) (w1 := ((w3.setCell ⟨g36, 0, none⟩ (.slice A36 d1.length k36)).setCell ⟨g36, 1, none⟩ (.int .i64 d2))) ?hg ?ho ?hn ?hr ?_; (case ho => rfl); (case hg => rfl); (case hn => rfl); (case hr => first | (go_simp; done) | (go_simp; rfl)); intro w4 hw; have hb := below_set (g := g36) (j := 1) (v := (.int .i64 d2)) (below_set (g := g36) (j := 0) (v := (.slice A36 d1.length k36)) HBA.out (Nat.le_of_eq HGE.out.symm)) (Nat.le_of_eq HGE.out.symm); rw [← hw] at hb; have B36 : Aside0 (Blk w4 gs g36 28 #[.slice A36 d1.length k36, .int .i64 d2]) := ⟨⟨by rw [hw]; exact blk_put (blk_put HK.out 0 _ rfl) 1 _ rfl, HNG.out⟩⟩; clear hw z0 z1 y0 y1 HK HBA HGE HNG; have HR4 := Aside0.mk (Kd.R_below HR.out hb); clear HR; have hk := keep_of hb gs; replace HRAW := Aside0.mk (HRAW.out.keep hk); replace HX := Aside0.mk (HX.out.keep hk); replace HY := Aside0.mk (HY.out.keep hk); replace B12 := Aside0.mk (B12.out.keep hk); replace BA := Aside0.mk (BA.out.keep hk); replace B17 := Aside0.mk (B17.out.keep hk); replace HBB := Aside0.mk (HBB.out.keep hk); replace B30 := Aside0.mk (B30.out.keep hk); replace H30 := Aside0.mk (H30.out.keep hk); replace B32 := Aside0.mk (B32.out.keep hk); replace H32 := Aside0.mk (H32.out.keep hk); replace B34 := Aside0.mk (B34.out.keep hk); replace H34 := Aside0.mk (H34.out.keep hk); replace HI := Aside0.mk (HI.out.below hb); replace HB := Aside0.mk (below_step HB.out hb); clear hb hk; have H36 := Aside0.mk (Held.own HI.out HR4.out); clear HR4; have c170 := (B17.out.cell 0).trans (show _ = some (.slice Ab lb.length kb) from rfl); have c171 := (B17.out.cell 1).trans (show _ = some (.int .i64 nb) from rfl); have c120 := (B12.out.cell 0).trans (show _ = some (.slice Ax lx.length kx) from rfl); have c121 := (B12.out.cell 1).trans (show _ = some (.int .i64 nx) from rfl); have c300 := (B30.out.cell 0).trans (show _ = some (.slice A30 p1.length k30) from rfl); have c301 := (B30.out.cell 1).trans (show _ = some (.int .i64 p2) from rfl); have c320 := (B32.out.cell 0).trans (show _ = some (.slice A32 p1.length k32) from rfl); have c321 := (B32.out.cell 1).trans (show _ = some (.int .i64 p2) from rfl); have c340 := (B34.out.cell 0).trans (show _ = some (.slice A34 d1.length k34) from rfl); have c341 := (B34.out.cell 1).trans (show _ = some (.int .i64 d2) from rfl); have c360 := (B36.out.cell 0).trans (show _ = some (.slice A36 d1.length k36) from rfl); have c361 := (B36.out.cell 1).trans (show _ = some (.int .i64 d2) from rfl))
            | fail)
          clear E1 E2 F1 F2
          go_region_held3 (fun w' => w'.cell? ⟨g30, 0, none⟩ = some (.slice A30 p1.length k30) ∧ w'.cell? ⟨g30, 1, none⟩ = some (.int .i64 p2) ∧ w'.cell? ⟨g32, 0, none⟩ = some (.slice A32 p1.length k32) ∧ w'.cell? ⟨g32, 1, none⟩ = some (.int .i64 p2) ∧ w'.cell? ⟨g34, 0, none⟩ = some (.slice A34 d1.length k34) ∧ w'.cell? ⟨g34, 1, none⟩ = some (.int .i64 d2) ∧ w'.cell? ⟨g36, 0, none⟩ = some (.slice A36 d1.length k36) ∧ w'.cell? ⟨g36, 1, none⟩ = some (.int .i64 d2) ∧ w'.cell? ⟨g17, 0, none⟩ = some (.slice Ab lb.length kb) ∧ w'.cell? ⟨g17, 1, none⟩ = some (.int .i64 nb) ∧ w'.cell? ⟨g12, 0, none⟩ = some (.slice Ax lx.length kx) ∧ w'.cell? ⟨g12, 1, none⟩ = some (.int .i64 nx))
            (first
              | (go_split_ands; refine ⟨?_, ?_, ?_, ?_, ?_, ?_, ?_, ?_, ?_, ?_, ?_, ?_⟩ <;> assumption)
              | (refine ⟨?_, ?_, ?_, ?_, ?_, ?_, ?_, ?_, ?_, ?_, ?_, ?_⟩ <;> assumption)
              | (refine ⟨(B30.out.cell 0).trans rfl, (B30.out.cell 1).trans rfl, (B32.out.cell 0).trans rfl, (B32.out.cell 1).trans rfl, (B34.out.cell 0).trans rfl, (B34.out.cell 1).trans rfl, (B36.out.cell 0).trans rfl, (B36.out.cell 1).trans rfl, (B17.out.cell 0).trans rfl, (B17.out.cell 1).trans rfl, (B12.out.cell 0).trans rfl, (B12.out.cell 1).trans rfl⟩)
              | go_keep)
            (first
              | (go_at_call 14; with_reducible refine (synopticref07_Same.calls A30 k30 p1 p2 A32 k32 p1 p2 true _ ?s1 C30.out ?s2 C32.out (same_refl _ _)).mono ?_; (case s1 => first | exact H30.out.now | exact Kd.C_drew H30.out.now); (case s2 => first | exact H32.out.now | exact Kd.C_drew H32.out.now); rintro e w' ⟨rfl, hb0⟩; (first | (have hb := below_step (below_drew1 (Below.refl _ _)) hb0) | (have hb := hb0)); have hk := keep_of hb gs; replace HRAW := Aside0.mk (HRAW.out.keep hk); replace HX := Aside0.mk (HX.out.keep hk); replace HY := Aside0.mk (HY.out.keep hk); replace B12 := Aside0.mk (B12.out.keep hk); replace BA := Aside0.mk (BA.out.keep hk); replace B17 := Aside0.mk (B17.out.keep hk); replace HBB := Aside0.mk (HBB.out.keep hk); replace B30 := Aside0.mk (B30.out.keep hk); replace H30 := Aside0.mk (H30.out.keep hk); replace B32 := Aside0.mk (B32.out.keep hk); replace H32 := Aside0.mk (H32.out.keep hk); replace B34 := Aside0.mk (B34.out.keep hk); replace H34 := Aside0.mk (H34.out.keep hk); replace B36 := Aside0.mk (B36.out.keep hk); replace H36 := Aside0.mk (H36.out.keep hk); replace HI := Aside0.mk (HI.out.below hb); replace HB := Aside0.mk (below_step HB.out hb); clear hk hb0)
              | (go_at_call 14; with_reducible refine (synopticref07_Same.calls A34 k34 d1 d2 A36 k36 d1 d2 true _ ?s1 C34.out ?s2 C36.out (same_refl _ _)).mono ?_; (case s1 => first | exact H34.out.now | exact Kd.C_drew H34.out.now); (case s2 => first | exact H36.out.now | exact Kd.C_drew H36.out.now); rintro e w' ⟨rfl, hb0⟩; (first | (have hb := below_step (below_drew1 (Below.refl _ _)) hb0) | (have hb := hb0)); have hk := keep_of hb gs; replace HRAW := Aside0.mk (HRAW.out.keep hk); replace HX := Aside0.mk (HX.out.keep hk); replace HY := Aside0.mk (HY.out.keep hk); replace B12 := Aside0.mk (B12.out.keep hk); replace BA := Aside0.mk (BA.out.keep hk); replace B17 := Aside0.mk (B17.out.keep hk); replace HBB := Aside0.mk (HBB.out.keep hk); replace B30 := Aside0.mk (B30.out.keep hk); replace H30 := Aside0.mk (H30.out.keep hk); replace B32 := Aside0.mk (B32.out.keep hk); replace H32 := Aside0.mk (H32.out.keep hk); replace B34 := Aside0.mk (B34.out.keep hk); replace H34 := Aside0.mk (H34.out.keep hk); replace B36 := Aside0.mk (B36.out.keep hk); replace H36 := Aside0.mk (H36.out.keep hk); replace HI := Aside0.mk (HI.out.below hb); replace HB := Aside0.mk (below_step HB.out hb); clear hk hb0)
              | (go_at_call 33; with_reducible refine (bits_Valid.calls Ab kb lb nb vb _ ?s1 HBF.out.1 V1.out).mono ?_; (case s1 => first | exact HBB.out.now | exact Kd.C_drew HBB.out.now); rintro e w' ⟨rfl, hb0⟩; (first | (have hb := below_step (below_drew1 (Below.refl _ _)) hb0) | (have hb := hb0)); have hk := keep_of hb gs; replace HRAW := Aside0.mk (HRAW.out.keep hk); replace HX := Aside0.mk (HX.out.keep hk); replace HY := Aside0.mk (HY.out.keep hk); replace B12 := Aside0.mk (B12.out.keep hk); replace BA := Aside0.mk (BA.out.keep hk); replace B17 := Aside0.mk (B17.out.keep hk); replace HBB := Aside0.mk (HBB.out.keep hk); replace B30 := Aside0.mk (B30.out.keep hk); replace H30 := Aside0.mk (H30.out.keep hk); replace B32 := Aside0.mk (B32.out.keep hk); replace H32 := Aside0.mk (H32.out.keep hk); replace B34 := Aside0.mk (B34.out.keep hk); replace H34 := Aside0.mk (H34.out.keep hk); replace B36 := Aside0.mk (B36.out.keep hk); replace H36 := Aside0.mk (H36.out.keep hk); replace HI := Aside0.mk (HI.out.below hb); replace HB := Aside0.mk (below_step HB.out hb); clear hk hb0)
              | (go_at_call 13; with_reducible refine (synopticref07_Valid.calls K3 Ab kb lb nb vb _ ?s1 HBF.out.1 V2.out).mono ?_; (case s1 => first | exact HBB.out.now | exact Kd.C_drew HBB.out.now); rintro e w' ⟨rfl, hb0⟩; (first | (have hb := below_step (below_drew1 (Below.refl _ _)) hb0) | (have hb := hb0)); have hk := keep_of hb gs; replace HRAW := Aside0.mk (HRAW.out.keep hk); replace HX := Aside0.mk (HX.out.keep hk); replace HY := Aside0.mk (HY.out.keep hk); replace B12 := Aside0.mk (B12.out.keep hk); replace BA := Aside0.mk (BA.out.keep hk); replace B17 := Aside0.mk (B17.out.keep hk); replace HBB := Aside0.mk (HBB.out.keep hk); replace B30 := Aside0.mk (B30.out.keep hk); replace H30 := Aside0.mk (H30.out.keep hk); replace B32 := Aside0.mk (B32.out.keep hk); replace H32 := Aside0.mk (H32.out.keep hk); replace B34 := Aside0.mk (B34.out.keep hk); replace H34 := Aside0.mk (H34.out.keep hk); replace B36 := Aside0.mk (B36.out.keep hk); replace H36 := Aside0.mk (H36.out.keep hk); replace HI := Aside0.mk (HI.out.below hb); replace HB := Aside0.mk (below_step HB.out hb); clear hk hb0)
              | (go_at_call 34; with_reducible refine (bits_Same.calls K4 Ab kb lb nb Ax kx lx nx sb _ ?s1 HBF.out.1 ?s2 CX.out Q1.out).mono ?_; (case s1 => first | exact HBB.out.now | exact Kd.C_drew HBB.out.now); (case s2 => first | exact HX.out.now | exact Kd.C_drew HX.out.now); rintro e w' ⟨rfl, hb0⟩; (first | (have hb := below_step (below_drew1 (Below.refl _ _)) hb0) | (have hb := hb0)); have hk := keep_of hb gs; replace HRAW := Aside0.mk (HRAW.out.keep hk); replace HX := Aside0.mk (HX.out.keep hk); replace HY := Aside0.mk (HY.out.keep hk); replace B12 := Aside0.mk (B12.out.keep hk); replace BA := Aside0.mk (BA.out.keep hk); replace B17 := Aside0.mk (B17.out.keep hk); replace HBB := Aside0.mk (HBB.out.keep hk); replace B30 := Aside0.mk (B30.out.keep hk); replace H30 := Aside0.mk (H30.out.keep hk); replace B32 := Aside0.mk (B32.out.keep hk); replace H32 := Aside0.mk (H32.out.keep hk); replace B34 := Aside0.mk (B34.out.keep hk); replace H34 := Aside0.mk (H34.out.keep hk); replace B36 := Aside0.mk (B36.out.keep hk); replace H36 := Aside0.mk (H36.out.keep hk); replace HI := Aside0.mk (HI.out.below hb); replace HB := Aside0.mk (below_step HB.out hb); clear hk hb0)
              | (go_at_call 14; with_reducible refine (synopticref07_Same.calls Ab kb lb nb Ax kx lx nx sb _ ?s1 HBF.out.1 ?s2 CX.out Q2.out).mono ?_; (case s1 => first | exact HBB.out.now | exact Kd.C_drew HBB.out.now); (case s2 => first | exact HX.out.now | exact Kd.C_drew HX.out.now); rintro e w' ⟨rfl, hb0⟩; (first | (have hb := below_step (below_drew1 (Below.refl _ _)) hb0) | (have hb := hb0)); have hk := keep_of hb gs; replace HRAW := Aside0.mk (HRAW.out.keep hk); replace HX := Aside0.mk (HX.out.keep hk); replace HY := Aside0.mk (HY.out.keep hk); replace B12 := Aside0.mk (B12.out.keep hk); replace BA := Aside0.mk (BA.out.keep hk); replace B17 := Aside0.mk (B17.out.keep hk); replace HBB := Aside0.mk (HBB.out.keep hk); replace B30 := Aside0.mk (B30.out.keep hk); replace H30 := Aside0.mk (H30.out.keep hk); replace B32 := Aside0.mk (B32.out.keep hk); replace H32 := Aside0.mk (H32.out.keep hk); replace B34 := Aside0.mk (B34.out.keep hk); replace H34 := Aside0.mk (H34.out.keep hk); replace B36 := Aside0.mk (B36.out.keep hk); replace H36 := Aside0.mk (H36.out.keep hk); replace HI := Aside0.mk (HI.out.below hb); replace HB := Aside0.mk (below_step HB.out hb); clear hk hb0))
          go_wp2
          go_roundg (3 - (i + 1))
          case measure => have := HK.out; have := HI3.out; omega
          case rel => exact ⟨i + 1, si, by first | rfl | (congr 1; have := HI3.out; unfold wrap64; omega), ⟨by have := HI3.out; omega⟩, HS, HI, HRAW, HX, HY, B12, BA, HB⟩
        have HJ4 : Aside0 (j < 4) := ⟨by have := HKJ.out; omega⟩
        have hd1 : decide ((j : Int) < 4) = true := decide_eq_true (by have := HJ4.out; omega)
        have hd2 : decide (j < 4) = true := decide_eq_true HJ4.out
        clear hj4
        go_upto_region 12 with fail
        clear hd1 hd2
        go_cut [19, 83] from 83 to 153 (fun v19 v83 wx => ∃ (g19 : Nat) (p q : Int), v19 = .pointer (some ⟨g19, 0, none⟩) ∧ v83 = .int .i64 (j : Int) ∧ Aside0 (Blk wx gs g19 56 #[.int .i64 p, .int .i64 q]) ∧ Aside0 (i64 p ∧ i64 q) ∧ Aside0 (Src ls si) ∧ Aside0 (IsS60 w wx gs ls si) ∧ Aside0 (Held wx gs A l) ∧ Aside0 (Held wx gs Ax lx) ∧ Aside0 (Held wx gs Ay ly) ∧ Aside0 (Blk wx gs g12 28 #[.slice Ax lx.length kx, .int .i64 nx]) ∧ Aside0 (Blk wx gs gA 28 #[.slice A l.length c, .int .i64 n, .slice Ax lx.length kx, .int .i64 nx, .slice Ay ly.length ky, .int .i64 ny]) ∧ Aside0 (Blk wx gs g17 28 #[.slice Ab lb.length kb, .int .i64 nb]) ∧ Aside0 (Held wx gs Ab lb) ∧ Aside0 (Blk wx gs gT 56 #[.int .i64 a2, .int .i64 a3, .int .i64 vv, .int .i64 (kw : Int), .int .i64 vv, .int .i64 a3, .int .i64 (wrap64 (vv + ud)), .int .i64 ue]) ∧ Aside0 (Below w.heap.size w wx))
        case first =>
          obtain rfl | rfl | rfl | rfl : j = 0 ∨ j = 1 ∨ j = 2 ∨ j = 3 := by have := HJ4.out; omega
          · skip
            have cT0 := (BT.out.cell 0).trans (show _ = some (.int .i64 a2) from rfl)
            have cT1 := (BT.out.cell 1).trans (show _ = some (.int .i64 a3) from rfl)
            go_wp2_with (first
              | ((with_reducible refine gate_dst (N := 19) rfl ?_); refine box_event ?hg (N := 19) ?hd (cs := #[.int .i64 0, .int .i64 0]) (t := 56) ?hr ?_; (case hd => rfl); (case hg => rfl); (case hr => first | (go_simp; done) | (go_simp; rfl)); intro g19 hg w3 hbox hb; have HK := Aside0.mk hbox; have HBA := Aside0.mk hb; have HGE := Aside0.mk hg; have HNG : Aside0 (g19 ≠ gs) := ⟨by rw [hg]; exact (HI.out.fresh _ (Nat.le_refl _))⟩; clear hbox hb hg; have z0 : w3.cell? ⟨g19, 0, none⟩ = some (.int .i64 0) := (blk_cell HK.out 0).trans rfl; have y0 := blk_frozen HK.out 0; have z1 : w3.cell? ⟨g19, 1, none⟩ = some (.int .i64 0) := (blk_cell HK.out 1).trans rfl; have y1 := blk_frozen HK.out 1)
              | ((with_reducible refine gate_store (t := 56) (p := 19) rfl ?_); refine store_event (t := 56) (p := 19) (v := ?vo19) (w1 := ((w3.setCell ⟨g19, 0, none⟩ (.int .i64 a2)).setCell ⟨g19, 1, none⟩ (.int .i64 a3))) ?hg ?ho ?hn ?hr ?_; (case ho => rfl); (case hg => rfl); (case hn => rfl); (case hr => first | (go_simp; done) | (go_simp; rfl)); intro w4 hw; have hb := below_set (g := g19) (j := 1) (v := (.int .i64 a3)) (below_set (g := g19) (j := 0) (v := (.int .i64 a2)) HBA.out (Nat.le_of_eq HGE.out.symm)) (Nat.le_of_eq HGE.out.symm); rw [← hw] at hb; have B19 : Aside0 (Blk w4 gs g19 56 #[.int .i64 a2, .int .i64 a3]) := ⟨⟨by rw [hw]; exact blk_put (blk_put HK.out 0 _ rfl) 1 _ rfl, HNG.out⟩⟩; clear hw z0 z1 y0 y1 HK HBA HGE HNG; have hk := keep_of hb gs; replace HRAW := Aside0.mk (HRAW.out.keep hk); replace HX := Aside0.mk (HX.out.keep hk); replace HY := Aside0.mk (HY.out.keep hk); replace B12 := Aside0.mk (B12.out.keep hk); replace BA := Aside0.mk (BA.out.keep hk); replace B17 := Aside0.mk (B17.out.keep hk); replace HBB := Aside0.mk (HBB.out.keep hk); replace BT := Aside0.mk (BT.out.keep hk); replace HI := Aside0.mk (HI.out.below hb); replace HB := Aside0.mk (below_step HB.out hb); clear hb hk)
              | fail)
            go_meet
            case rel => exact ⟨g19, _, _, rfl, rfl, B19, ⟨I2.out, I3.out⟩, HS, HI, HRAW, HX, HY, B12, BA, B17, HBB, BT, HB⟩
          · skip
            have cT2 := (BT.out.cell 2).trans (show _ = some (.int .i64 vv) from rfl)
            have cT3 := (BT.out.cell 3).trans (show _ = some (.int .i64 (kw : Int)) from rfl)
            go_wp2_with (first
              | ((with_reducible refine gate_dst (N := 19) rfl ?_); refine box_event ?hg (N := 19) ?hd (cs := #[.int .i64 0, .int .i64 0]) (t := 56) ?hr ?_; (case hd => rfl); (case hg => rfl); (case hr => first | (go_simp; done) | (go_simp; rfl)); intro g19 hg w3 hbox hb; have HK := Aside0.mk hbox; have HBA := Aside0.mk hb; have HGE := Aside0.mk hg; have HNG : Aside0 (g19 ≠ gs) := ⟨by rw [hg]; exact (HI.out.fresh _ (Nat.le_refl _))⟩; clear hbox hb hg; have z0 : w3.cell? ⟨g19, 0, none⟩ = some (.int .i64 0) := (blk_cell HK.out 0).trans rfl; have y0 := blk_frozen HK.out 0; have z1 : w3.cell? ⟨g19, 1, none⟩ = some (.int .i64 0) := (blk_cell HK.out 1).trans rfl; have y1 := blk_frozen HK.out 1)
              | ((with_reducible refine gate_store (t := 56) (p := 19) rfl ?_); refine store_event (t := 56) (p := 19) (v := ?vo19) (w1 := ((w3.setCell ⟨g19, 0, none⟩ (.int .i64 vv)).setCell ⟨g19, 1, none⟩ (.int .i64 (kw : Int)))) ?hg ?ho ?hn ?hr ?_; (case ho => rfl); (case hg => rfl); (case hn => rfl); (case hr => first | (go_simp; done) | (go_simp; rfl)); intro w4 hw; have hb := below_set (g := g19) (j := 1) (v := (.int .i64 (kw : Int))) (below_set (g := g19) (j := 0) (v := (.int .i64 vv)) HBA.out (Nat.le_of_eq HGE.out.symm)) (Nat.le_of_eq HGE.out.symm); rw [← hw] at hb; have B19 : Aside0 (Blk w4 gs g19 56 #[.int .i64 vv, .int .i64 (kw : Int)]) := ⟨⟨by rw [hw]; exact blk_put (blk_put HK.out 0 _ rfl) 1 _ rfl, HNG.out⟩⟩; clear hw z0 z1 y0 y1 HK HBA HGE HNG; have hk := keep_of hb gs; replace HRAW := Aside0.mk (HRAW.out.keep hk); replace HX := Aside0.mk (HX.out.keep hk); replace HY := Aside0.mk (HY.out.keep hk); replace B12 := Aside0.mk (B12.out.keep hk); replace BA := Aside0.mk (BA.out.keep hk); replace B17 := Aside0.mk (B17.out.keep hk); replace HBB := Aside0.mk (HBB.out.keep hk); replace BT := Aside0.mk (BT.out.keep hk); replace HI := Aside0.mk (HI.out.below hb); replace HB := Aside0.mk (below_step HB.out hb); clear hb hk)
              | fail)
            go_meet
            case rel => exact ⟨g19, _, _, rfl, rfl, B19, ⟨(i64_of (by have := VV1.out; omega) (by have := VV1.out; omega)), (i64_of (by have := KW1.out; omega) (by have := KW1.out; omega))⟩, HS, HI, HRAW, HX, HY, B12, BA, B17, HBB, BT, HB⟩
          · skip
            have cT4 := (BT.out.cell 4).trans (show _ = some (.int .i64 vv) from rfl)
            have cT5 := (BT.out.cell 5).trans (show _ = some (.int .i64 a3) from rfl)
            go_wp2_with (first
              | ((with_reducible refine gate_dst (N := 19) rfl ?_); refine box_event ?hg (N := 19) ?hd (cs := #[.int .i64 0, .int .i64 0]) (t := 56) ?hr ?_; (case hd => rfl); (case hg => rfl); (case hr => first | (go_simp; done) | (go_simp; rfl)); intro g19 hg w3 hbox hb; have HK := Aside0.mk hbox; have HBA := Aside0.mk hb; have HGE := Aside0.mk hg; have HNG : Aside0 (g19 ≠ gs) := ⟨by rw [hg]; exact (HI.out.fresh _ (Nat.le_refl _))⟩; clear hbox hb hg; have z0 : w3.cell? ⟨g19, 0, none⟩ = some (.int .i64 0) := (blk_cell HK.out 0).trans rfl; have y0 := blk_frozen HK.out 0; have z1 : w3.cell? ⟨g19, 1, none⟩ = some (.int .i64 0) := (blk_cell HK.out 1).trans rfl; have y1 := blk_frozen HK.out 1)
              | ((with_reducible refine gate_store (t := 56) (p := 19) rfl ?_); refine store_event (t := 56) (p := 19) (v := ?vo19) (w1 := ((w3.setCell ⟨g19, 0, none⟩ (.int .i64 vv)).setCell ⟨g19, 1, none⟩ (.int .i64 a3))) ?hg ?ho ?hn ?hr ?_; (case ho => rfl); (case hg => rfl); (case hn => rfl); (case hr => first | (go_simp; done) | (go_simp; rfl)); intro w4 hw; have hb := below_set (g := g19) (j := 1) (v := (.int .i64 a3)) (below_set (g := g19) (j := 0) (v := (.int .i64 vv)) HBA.out (Nat.le_of_eq HGE.out.symm)) (Nat.le_of_eq HGE.out.symm); rw [← hw] at hb; have B19 : Aside0 (Blk w4 gs g19 56 #[.int .i64 vv, .int .i64 a3]) := ⟨⟨by rw [hw]; exact blk_put (blk_put HK.out 0 _ rfl) 1 _ rfl, HNG.out⟩⟩; clear hw z0 z1 y0 y1 HK HBA HGE HNG; have hk := keep_of hb gs; replace HRAW := Aside0.mk (HRAW.out.keep hk); replace HX := Aside0.mk (HX.out.keep hk); replace HY := Aside0.mk (HY.out.keep hk); replace B12 := Aside0.mk (B12.out.keep hk); replace BA := Aside0.mk (BA.out.keep hk); replace B17 := Aside0.mk (B17.out.keep hk); replace HBB := Aside0.mk (HBB.out.keep hk); replace BT := Aside0.mk (BT.out.keep hk); replace HI := Aside0.mk (HI.out.below hb); replace HB := Aside0.mk (below_step HB.out hb); clear hb hk)
              | fail)
            go_meet
            case rel => exact ⟨g19, _, _, rfl, rfl, B19, ⟨(i64_of (by have := VV1.out; omega) (by have := VV1.out; omega)), I3.out⟩, HS, HI, HRAW, HX, HY, B12, BA, B17, HBB, BT, HB⟩
          · skip
            have cT6 := (BT.out.cell 6).trans (show _ = some (.int .i64 (wrap64 (vv + ud))) from rfl)
            have cT7 := (BT.out.cell 7).trans (show _ = some (.int .i64 ue) from rfl)
            go_wp2_with (first
              | ((with_reducible refine gate_dst (N := 19) rfl ?_); refine box_event ?hg (N := 19) ?hd (cs := #[.int .i64 0, .int .i64 0]) (t := 56) ?hr ?_; (case hd => rfl); (case hg => rfl); (case hr => first | (go_simp; done) | (go_simp; rfl)); intro g19 hg w3 hbox hb; have HK := Aside0.mk hbox; have HBA := Aside0.mk hb; have HGE := Aside0.mk hg; have HNG : Aside0 (g19 ≠ gs) := ⟨by rw [hg]; exact (HI.out.fresh _ (Nat.le_refl _))⟩; clear hbox hb hg; have z0 : w3.cell? ⟨g19, 0, none⟩ = some (.int .i64 0) := (blk_cell HK.out 0).trans rfl; have y0 := blk_frozen HK.out 0; have z1 : w3.cell? ⟨g19, 1, none⟩ = some (.int .i64 0) := (blk_cell HK.out 1).trans rfl; have y1 := blk_frozen HK.out 1)
              | ((with_reducible refine gate_store (t := 56) (p := 19) rfl ?_); refine store_event (t := 56) (p := 19) (v := ?vo19) (w1 := ((w3.setCell ⟨g19, 0, none⟩ (.int .i64 (wrap64 (vv + ud)))).setCell ⟨g19, 1, none⟩ (.int .i64 ue))) ?hg ?ho ?hn ?hr ?_; (case ho => rfl); (case hg => rfl); (case hn => rfl); (case hr => first | (go_simp; done) | (go_simp; rfl)); intro w4 hw; have hb := below_set (g := g19) (j := 1) (v := (.int .i64 ue)) (below_set (g := g19) (j := 0) (v := (.int .i64 (wrap64 (vv + ud)))) HBA.out (Nat.le_of_eq HGE.out.symm)) (Nat.le_of_eq HGE.out.symm); rw [← hw] at hb; have B19 : Aside0 (Blk w4 gs g19 56 #[.int .i64 (wrap64 (vv + ud)), .int .i64 ue]) := ⟨⟨by rw [hw]; exact blk_put (blk_put HK.out 0 _ rfl) 1 _ rfl, HNG.out⟩⟩; clear hw z0 z1 y0 y1 HK HBA HGE HNG; have hk := keep_of hb gs; replace HRAW := Aside0.mk (HRAW.out.keep hk); replace HX := Aside0.mk (HX.out.keep hk); replace HY := Aside0.mk (HY.out.keep hk); replace B12 := Aside0.mk (B12.out.keep hk); replace BA := Aside0.mk (BA.out.keep hk); replace B17 := Aside0.mk (B17.out.keep hk); replace HBB := Aside0.mk (HBB.out.keep hk); replace BT := Aside0.mk (BT.out.keep hk); replace HI := Aside0.mk (HI.out.below hb); replace HB := Aside0.mk (below_step HB.out hb); clear hb hk)
              | fail)
            go_meet
            case rel => exact ⟨g19, _, _, rfl, rfl, B19, ⟨(i64_wrap _), UE1.out⟩, HS, HI, HRAW, HX, HY, B12, BA, B17, HBB, BT, HB⟩
        case rest =>
          clear HS HI HB HRAW HX HY B12 BA B17 HBB BT
          obtain ⟨g19, p, q, rfl, rfl, B19, PQ, HS, HI, HRAW, HX, HY, B12, BA, B17, HBB, BT, HB⟩ := hcut
          obtain ⟨⟨p1, p2, p3⟩, hap, hev⟩ := append_ref HBF.out.2.1 nb p q PQ.out.1 PQ.out.2
          obtain ⟨KA, hev⟩ := hev.rounds
          have HAP := Aside0.mk hap
          have HRF := Aside0.mk hev
          clear hap hev
          have c170 := (B17.out.cell 0).trans (show _ = some (.slice Ab lb.length kb) from rfl)
          have c171 := (B17.out.cell 1).trans (show _ = some (.int .i64 nb) from rfl)
          have c190 := (B19.out.cell 0).trans (show _ = some (.int .i64 p) from rfl)
          have c191 := (B19.out.cell 1).trans (show _ = some (.int .i64 q) from rfl)
          go_wp2_with fail
          refine (bits_Append.calls Ab kb lb nb p q p1 p2 p3 _ HBB.out.now HBF.out.1 HAP.out).mono ?_
          rintro e w1 ⟨v0, rfl, ho, hb⟩
          obtain ⟨A20, k20, eo⟩ : ∃ A k, v0 = .slice A (p1).length k := (by obtain ⟨A, k, h⟩ := Kd.R_slice ho; exact ⟨A, k, by rw [h]⟩); subst eo
          have HR := Aside0.mk ho
          have C20 := Aside0.mk (Kd.R_reads' HR.out).2.1
          clear c170 c171 c190 c191
          have hk := keep_of hb gs; replace HRAW := Aside0.mk (HRAW.out.keep hk); replace HX := Aside0.mk (HX.out.keep hk); replace HY := Aside0.mk (HY.out.keep hk); replace B12 := Aside0.mk (B12.out.keep hk); replace BA := Aside0.mk (BA.out.keep hk); replace B17 := Aside0.mk (B17.out.keep hk); replace HBB := Aside0.mk (HBB.out.keep hk); replace BT := Aside0.mk (BT.out.keep hk); replace B19 := Aside0.mk (B19.out.keep hk); replace HI := Aside0.mk (HI.out.below hb); replace HB := Aside0.mk (below_step HB.out hb); clear hb hk
          clear ho
          go_wp2_with (first
            | ((with_reducible refine gate_dst (N := 20) rfl ?_); refine box_event ?hg (N := 20) ?hd (cs := #[.slice none 0 0, .int .i64 0]) (t := 28) ?hr ?_; (case hd => rfl); (case hg => rfl); (case hr => first | (go_simp; done) | (go_simp; rfl)); intro g20 hg w3 hbox hb; have HK := Aside0.mk hbox; have HBA := Aside0.mk hb; have HGE := Aside0.mk hg; have HNG : Aside0 (g20 ≠ gs) := ⟨by rw [hg]; exact (HI.out.fresh _ (Nat.le_refl _))⟩; clear hbox hb hg; have z0 : w3.cell? ⟨g20, 0, none⟩ = some (.slice none 0 0) := (blk_cell HK.out 0).trans rfl; have y0 := blk_frozen HK.out 0; have z1 : w3.cell? ⟨g20, 1, none⟩ = some (.int .i64 0) := (blk_cell HK.out 1).trans rfl; have y1 := blk_frozen HK.out 1)
            | ((with_reducible refine gate_store (t := 28) (p := 20) rfl ?_); refine store_event (t := 28) (p := 20) (v := ?vo20) (w1 := ((w3.setCell ⟨g20, 0, none⟩ (.slice A20 p1.length k20)).setCell ⟨g20, 1, none⟩ (.int .i64 p2))) ?hg ?ho ?hn ?hr ?_; (case ho => rfl); (case hg => rfl); (case hn => rfl); (case hr => first | (go_simp; done) | (go_simp; rfl)); intro w4 hw; have hb := below_set (g := g20) (j := 1) (v := (.int .i64 p2)) (below_set (g := g20) (j := 0) (v := (.slice A20 p1.length k20)) HBA.out (Nat.le_of_eq HGE.out.symm)) (Nat.le_of_eq HGE.out.symm); rw [← hw] at hb; have B20 : Aside0 (Blk w4 gs g20 28 #[.slice A20 p1.length k20, .int .i64 p2]) := ⟨⟨by rw [hw]; exact blk_put (blk_put HK.out 0 _ rfl) 1 _ rfl, HNG.out⟩⟩; clear hw z0 z1 y0 y1 HK HBA HGE HNG; have HR4 := Aside0.mk (Kd.R_below HR.out hb); clear HR; have hk := keep_of hb gs; replace HRAW := Aside0.mk (HRAW.out.keep hk); replace HX := Aside0.mk (HX.out.keep hk); replace HY := Aside0.mk (HY.out.keep hk); replace B12 := Aside0.mk (B12.out.keep hk); replace BA := Aside0.mk (BA.out.keep hk); replace B17 := Aside0.mk (B17.out.keep hk); replace HBB := Aside0.mk (HBB.out.keep hk); replace BT := Aside0.mk (BT.out.keep hk); replace B19 := Aside0.mk (B19.out.keep hk); replace HI := Aside0.mk (HI.out.below hb); replace HB := Aside0.mk (below_step HB.out hb); clear hb hk; have H20 := Aside0.mk (Held.own HI.out HR4.out); clear HR4; have c170 := (B17.out.cell 0).trans (show _ = some (.slice Ab lb.length kb) from rfl); have c171 := (B17.out.cell 1).trans (show _ = some (.int .i64 nb) from rfl); have c190 := (B19.out.cell 0).trans (show _ = some (.int .i64 p) from rfl); have c191 := (B19.out.cell 1).trans (show _ = some (.int .i64 q) from rfl))
            | fail)
          refine (synopticref07_Append.calls KA Ab kb lb nb p q p1 p2 p3 _ HBB.out.now HBF.out.1 HRF.out).mono ?_
          rintro e w1 ⟨v0, rfl, ho, hb⟩
          obtain ⟨A22, k22, eo⟩ : ∃ A k, v0 = .slice A (p1).length k := (by obtain ⟨A, k, h⟩ := Kd.R_slice ho; exact ⟨A, k, by rw [h]⟩); subst eo
          have HR := Aside0.mk ho
          have C22 := Aside0.mk (Kd.R_reads' HR.out).2.1
          clear c170 c171 c190 c191
          have hk := keep_of hb gs; replace HRAW := Aside0.mk (HRAW.out.keep hk); replace HX := Aside0.mk (HX.out.keep hk); replace HY := Aside0.mk (HY.out.keep hk); replace B12 := Aside0.mk (B12.out.keep hk); replace BA := Aside0.mk (BA.out.keep hk); replace B17 := Aside0.mk (B17.out.keep hk); replace HBB := Aside0.mk (HBB.out.keep hk); replace BT := Aside0.mk (BT.out.keep hk); replace B19 := Aside0.mk (B19.out.keep hk); replace B20 := Aside0.mk (B20.out.keep hk); replace H20 := Aside0.mk (H20.out.keep hk); replace HI := Aside0.mk (HI.out.below hb); replace HB := Aside0.mk (below_step HB.out hb); clear hb hk
          clear ho
          go_wp2_with (first
            | ((with_reducible refine gate_dst (N := 22) rfl ?_); refine box_event ?hg (N := 22) ?hd (cs := #[.slice none 0 0, .int .i64 0]) (t := 28) ?hr ?_; (case hd => rfl); (case hg => rfl); (case hr => first | (go_simp; done) | (go_simp; rfl)); intro g22 hg w3 hbox hb; have HK := Aside0.mk hbox; have HBA := Aside0.mk hb; have HGE := Aside0.mk hg; have HNG : Aside0 (g22 ≠ gs) := ⟨by rw [hg]; exact (HI.out.fresh _ (Nat.le_refl _))⟩; clear hbox hb hg; have z0 : w3.cell? ⟨g22, 0, none⟩ = some (.slice none 0 0) := (blk_cell HK.out 0).trans rfl; have y0 := blk_frozen HK.out 0; have z1 : w3.cell? ⟨g22, 1, none⟩ = some (.int .i64 0) := (blk_cell HK.out 1).trans rfl; have y1 := blk_frozen HK.out 1)
            | ((with_reducible refine gate_store (t := 28) (p := 22) rfl ?_); refine store_event (t := 28) (p := 22) (v := ?vo22) (w1 := ((w3.setCell ⟨g22, 0, none⟩ (.slice A22 p1.length k22)).setCell ⟨g22, 1, none⟩ (.int .i64 p2))) ?hg ?ho ?hn ?hr ?_; (case ho => rfl); (case hg => rfl); (case hn => rfl); (case hr => first | (go_simp; done) | (go_simp; rfl)); intro w4 hw; have hb := below_set (g := g22) (j := 1) (v := (.int .i64 p2)) (below_set (g := g22) (j := 0) (v := (.slice A22 p1.length k22)) HBA.out (Nat.le_of_eq HGE.out.symm)) (Nat.le_of_eq HGE.out.symm); rw [← hw] at hb; have B22 : Aside0 (Blk w4 gs g22 28 #[.slice A22 p1.length k22, .int .i64 p2]) := ⟨⟨by rw [hw]; exact blk_put (blk_put HK.out 0 _ rfl) 1 _ rfl, HNG.out⟩⟩; clear hw z0 z1 y0 y1 HK HBA HGE HNG; have HR4 := Aside0.mk (Kd.R_below HR.out hb); clear HR; have hk := keep_of hb gs; replace HRAW := Aside0.mk (HRAW.out.keep hk); replace HX := Aside0.mk (HX.out.keep hk); replace HY := Aside0.mk (HY.out.keep hk); replace B12 := Aside0.mk (B12.out.keep hk); replace BA := Aside0.mk (BA.out.keep hk); replace B17 := Aside0.mk (B17.out.keep hk); replace HBB := Aside0.mk (HBB.out.keep hk); replace BT := Aside0.mk (BT.out.keep hk); replace B19 := Aside0.mk (B19.out.keep hk); replace B20 := Aside0.mk (B20.out.keep hk); replace H20 := Aside0.mk (H20.out.keep hk); replace HI := Aside0.mk (HI.out.below hb); replace HB := Aside0.mk (below_step HB.out hb); clear hb hk; have H22 := Aside0.mk (Held.own HI.out HR4.out); clear HR4; have c200 := (B20.out.cell 0).trans (show _ = some (.slice A20 p1.length k20) from rfl); have c201 := (B20.out.cell 1).trans (show _ = some (.int .i64 p2) from rfl); have c220 := (B22.out.cell 0).trans (show _ = some (.slice A22 p1.length k22) from rfl); have c221 := (B22.out.cell 1).trans (show _ = some (.int .i64 p2) from rfl))
            | fail)
          refine (synopticref07_Same.calls A20 k20 p1 p2 A22 k22 p1 p2 true _ H20.out.now C20.out H22.out.now C22.out (same_refl _ _)).mono ?_
          rintro e w1 ⟨rfl, hb⟩
          clear c200 c201 c220 c221
          have hk := keep_of hb gs; replace HRAW := Aside0.mk (HRAW.out.keep hk); replace HX := Aside0.mk (HX.out.keep hk); replace HY := Aside0.mk (HY.out.keep hk); replace B12 := Aside0.mk (B12.out.keep hk); replace BA := Aside0.mk (BA.out.keep hk); replace B17 := Aside0.mk (B17.out.keep hk); replace HBB := Aside0.mk (HBB.out.keep hk); replace BT := Aside0.mk (BT.out.keep hk); replace B19 := Aside0.mk (B19.out.keep hk); replace B20 := Aside0.mk (B20.out.keep hk); replace H20 := Aside0.mk (H20.out.keep hk); replace B22 := Aside0.mk (B22.out.keep hk); replace H22 := Aside0.mk (H22.out.keep hk); replace HI := Aside0.mk (HI.out.below hb); replace HB := Aside0.mk (below_step HB.out hb); clear hb hk
          clear B20 B22 H20 H22 C20 C22 HAP HRF
          go_wp2_with fail
          obtain ⟨ur, j3, hur, hs1, ur0, ur1⟩ := range_src HS.out (show (-1000000 : Int) ≤ -1 by omega) (show (-1 : Int) ≤ 40 by omega) (by omega)
          have EUR := Aside0.mk hur
          have UR1 : Aside0 (i64 ur) := ⟨i64_of (by omega) (by omega)⟩
          replace HS := Aside0.mk hs1
          clear hur hs1 ur0 ur1
          go_cut [83, 122, 123, 124] from 83 to 153 (fun v83 v122 v123 v124 wx => ∃ gL : Nat, v83 = .int .i64 (j : Int) ∧ v122 = .slice (some ⟨gL, 0, none⟩) 3 3 ∧ v123 = .int .i64 3 ∧ v124 = .int .i64 0 ∧ Aside0 (Blk wx gs gL 3 #[.int .i64 a4, .int .i64 ur, .int .i64 (wrap64 (nb - q))]) ∧ Aside0 (Src ls j3) ∧ Aside0 (IsS60 w wx gs ls j3) ∧ Aside0 (Held wx gs A l) ∧ Aside0 (Held wx gs Ax lx) ∧ Aside0 (Held wx gs Ay ly) ∧ Aside0 (Blk wx gs g12 28 #[.slice Ax lx.length kx, .int .i64 nx]) ∧ Aside0 (Blk wx gs gA 28 #[.slice A l.length c, .int .i64 n, .slice Ax lx.length kx, .int .i64 nx, .slice Ay ly.length ky, .int .i64 ny]) ∧ Aside0 (Blk wx gs g17 28 #[.slice Ab lb.length kb, .int .i64 nb]) ∧ Aside0 (Held wx gs Ab lb) ∧ Aside0 (Blk wx gs gT 56 #[.int .i64 a2, .int .i64 a3, .int .i64 vv, .int .i64 (kw : Int), .int .i64 vv, .int .i64 a3, .int .i64 (wrap64 (vv + ud)), .int .i64 ue]) ∧ Aside0 (Blk wx gs g19 56 #[.int .i64 p, .int .i64 q]) ∧ Aside0 (Below w.heap.size w wx))
          case first =>
            have c170 := (B17.out.cell 0).trans (show _ = some (.slice Ab lb.length kb) from rfl)
            have c171 := (B17.out.cell 1).trans (show _ = some (.int .i64 nb) from rfl)
            have c190 := (B19.out.cell 0).trans (show _ = some (.int .i64 p) from rfl)
            have c191 := (B19.out.cell 1).trans (show _ = some (.int .i64 q) from rfl)
            go_region_held3 (fun w' => w'.cell? ⟨g17, 0, none⟩ = some (.slice Ab lb.length kb) ∧ w'.cell? ⟨g17, 1, none⟩ = some (.int .i64 nb) ∧ w'.cell? ⟨g19, 0, none⟩ = some (.int .i64 p) ∧ w'.cell? ⟨g19, 1, none⟩ = some (.int .i64 q))
              (first
                | (go_split_ands; refine ⟨?_, ?_, ?_, ?_⟩ <;> assumption)
                | (refine ⟨?_, ?_, ?_, ?_⟩ <;> assumption)
                | (refine ⟨(B17.out.cell 0).trans rfl, (B17.out.cell 1).trans rfl, (B19.out.cell 0).trans rfl, (B19.out.cell 1).trans rfl⟩)
                | (refine ⟨?_, ?_, ?_, ?_⟩ <;> exact pw_cell_below (below_alloc (Below.refl _ _) _) (by assumption))
                | (go_split_ands; refine ⟨?_, ?_, ?_, ?_⟩ <;> exact pw_cell_below (below_alloc (Below.refl _ _) _) (by assumption))
                | go_keep)
              (first
                | (go_at_call 19; with_reducible refine (synoptickeep_Src_Range.calls gs ls si (-1) 40 ur j3 w _ ?s1 ?s2 EUR.out).mono ?_; (case s1 => first | exact HI.out | exact HI.out.drew | exact HI.out.drewN _); (case s2 => first | exact HB.out | exact below_drew1 HB.out | exact pw_below_drewN HB.out _); rintro e w' ⟨rfl, hi, hb, hk⟩; have hk2 : KeepBut w1 w' gs none := (by first | exact hk | exact (keep_of (below_drew1 (Below.refl _ _)) gs).trans hk (.inl rfl) | exact (keep_of (pw_below_drewN (Below.refl _ _) _) gs).trans hk (.inl rfl)); replace HRAW := Aside0.mk (HRAW.out.keep hk2); replace HX := Aside0.mk (HX.out.keep hk2); replace HY := Aside0.mk (HY.out.keep hk2); replace B12 := Aside0.mk (B12.out.keep hk2); replace BA := Aside0.mk (BA.out.keep hk2); replace B17 := Aside0.mk (B17.out.keep hk2); replace HBB := Aside0.mk (HBB.out.keep hk2); replace BT := Aside0.mk (BT.out.keep hk2); replace B19 := Aside0.mk (B19.out.keep hk2); replace HI := Aside0.mk hi; replace HB := Aside0.mk hb; clear hi hb hk hk2; have d0 : w'.cell? ⟨g17, 0, none⟩ = some (.slice Ab lb.length kb) := (B17.out.cell 0).trans rfl; have d1 : w'.cell? ⟨g17, 1, none⟩ = some (.int .i64 nb) := (B17.out.cell 1).trans rfl; have d2 : w'.cell? ⟨g19, 0, none⟩ = some (.int .i64 p) := (B19.out.cell 0).trans rfl; have d3 : w'.cell? ⟨g19, 1, none⟩ = some (.int .i64 q) := (B19.out.cell 1).trans rfl))
            go_wp2
            go_meet
            case rel => exact ⟨_, rfl, rfl, rfl, rfl, ⟨⟨by first | exact alloc_blk _ _ | (rw [i64_w]; exact alloc_blk _ _), HI.out.fresh _ (Nat.le_refl _)⟩⟩, HS, ⟨HI.out.alloc _⟩, ⟨HRAW.out.keep (keep_of (below_alloc (Below.refl _ _) _) gs)⟩, ⟨HX.out.keep (keep_of (below_alloc (Below.refl _ _) _) gs)⟩, ⟨HY.out.keep (keep_of (below_alloc (Below.refl _ _) _) gs)⟩, ⟨B12.out.keep (keep_of (below_alloc (Below.refl _ _) _) gs)⟩, ⟨BA.out.keep (keep_of (below_alloc (Below.refl _ _) _) gs)⟩, ⟨B17.out.keep (keep_of (below_alloc (Below.refl _ _) _) gs)⟩, ⟨HBB.out.keep (keep_of (below_alloc (Below.refl _ _) _) gs)⟩, ⟨BT.out.keep (keep_of (below_alloc (Below.refl _ _) _) gs)⟩, ⟨B19.out.keep (keep_of (below_alloc (Below.refl _ _) _) gs)⟩, ⟨below_alloc HB.out _⟩⟩
          case rest =>
            clear HS HI HB HRAW HX HY B12 BA B17 HBB BT B19
            obtain ⟨gL, rfl, rfl, rfl, rfl, BL, HS, HI, HRAW, HX, HY, B12, BA, B17, HBB, BT, B19, HB⟩ := hcut
            have Z1 : Aside0 (i64 (wrap64 (nb - q))) := ⟨i64_wrap _⟩
            go_wp2_with fail
            go_loopg [124] 3 (fun kq v124 w' => ∃ (r : Nat) (sj : Int), v124 = .int .i64 (r : Int) ∧ Aside0 (r + kq = 3) ∧ Aside0 (Src ls sj) ∧ Aside0 (IsS60 w w' gs ls sj) ∧ Aside0 (Held w' gs A l) ∧ Aside0 (Held w' gs Ax lx) ∧ Aside0 (Held w' gs Ay ly) ∧ Aside0 (Blk w' gs g12 28 #[.slice Ax lx.length kx, .int .i64 nx]) ∧ Aside0 (Blk w' gs gA 28 #[.slice A l.length c, .int .i64 n, .slice Ax lx.length kx, .int .i64 nx, .slice Ay ly.length ky, .int .i64 ny]) ∧ Aside0 (Blk w' gs g17 28 #[.slice Ab lb.length kb, .int .i64 nb]) ∧ Aside0 (Held w' gs Ab lb) ∧ Aside0 (Blk w' gs gT 56 #[.int .i64 a2, .int .i64 a3, .int .i64 vv, .int .i64 (kw : Int), .int .i64 vv, .int .i64 a3, .int .i64 (wrap64 (vv + ud)), .int .i64 ue]) ∧ Aside0 (Blk w' gs g19 56 #[.int .i64 p, .int .i64 q]) ∧ Aside0 (Blk w' gs gL 3 #[.int .i64 a4, .int .i64 ur, .int .i64 (wrap64 (nb - q))]) ∧ Aside0 (Below w.heap.size w w'))
            case atStart => exact ⟨0, j3, rfl, ⟨rfl⟩, HS, HI, HRAW, HX, HY, B12, BA, B17, HBB, BT, B19, BL, HB⟩
            case round =>
              clear HS HI HB HRAW HX HY B12 BA B17 HBB BT B19 BL
              obtain ⟨r, sj, rfl, HKR, HS, HI, HRAW, HX, HY, B12, BA, B17, HBB, BT, B19, BL, HB⟩ := hrel
              by_cases hr3 : r = 3
              · subst hr3
                go_wp2
                go_roundg (4 - (j + 1))
                case measure => have := HKJ.out; have := HJ4.out; omega
                case rel => exact ⟨j + 1, sj, by first | rfl | (congr 1; have := HJ4.out; unfold wrap64; omega), ⟨by have := HJ4.out; omega⟩, HS, HI, HRAW, HX, HY, B12, BA, B17, HBB, BT, HB⟩
              have HR3 : Aside0 (r < 3) := ⟨by have := HKR.out; omega⟩
              have hd1 : decide ((r : Int) < 3) = true := decide_eq_true (by have := HR3.out; omega)
              have hd2 : decide (r < 3) = true := decide_eq_true HR3.out
              clear hr3
              go_upto_region 19 with fail
              clear hd1 hd2
              go_cut [25, 124] from 124 to 152 (fun v25 v124 wx => ∃ x : Int, v25 = .int .i64 x ∧ v124 = .int .i64 (r : Int) ∧ Aside0 (i64 x) ∧ Aside0 (Src ls sj) ∧ Aside0 (IsS60 w wx gs ls sj) ∧ Aside0 (Held wx gs A l) ∧ Aside0 (Held wx gs Ax lx) ∧ Aside0 (Held wx gs Ay ly) ∧ Aside0 (Blk wx gs g12 28 #[.slice Ax lx.length kx, .int .i64 nx]) ∧ Aside0 (Blk wx gs gA 28 #[.slice A l.length c, .int .i64 n, .slice Ax lx.length kx, .int .i64 nx, .slice Ay ly.length ky, .int .i64 ny]) ∧ Aside0 (Blk wx gs g17 28 #[.slice Ab lb.length kb, .int .i64 nb]) ∧ Aside0 (Held wx gs Ab lb) ∧ Aside0 (Blk wx gs gT 56 #[.int .i64 a2, .int .i64 a3, .int .i64 vv, .int .i64 (kw : Int), .int .i64 vv, .int .i64 a3, .int .i64 (wrap64 (vv + ud)), .int .i64 ue]) ∧ Aside0 (Blk wx gs g19 56 #[.int .i64 p, .int .i64 q]) ∧ Aside0 (Blk wx gs gL 3 #[.int .i64 a4, .int .i64 ur, .int .i64 (wrap64 (nb - q))]) ∧ Aside0 (Below w.heap.size w wx))
              case first =>
                obtain rfl | rfl | rfl : r = 0 ∨ r = 1 ∨ r = 2 := by have := HR3.out; omega
                · have cL0 := (BL.out.cell 0).trans (show _ = some (.int .i64 a4) from rfl)
                  go_wp2
                  go_meet
                  case rel => exact ⟨_, rfl, rfl, I4, HS, HI, HRAW, HX, HY, B12, BA, B17, HBB, BT, B19, BL, HB⟩
                · have cL1 := (BL.out.cell 1).trans (show _ = some (.int .i64 ur) from rfl)
                  go_wp2
                  go_meet
                  case rel => exact ⟨_, rfl, rfl, UR1, HS, HI, HRAW, HX, HY, B12, BA, B17, HBB, BT, B19, BL, HB⟩
                · have cL2 := (BL.out.cell 2).trans (show _ = some (.int .i64 (wrap64 (nb - q))) from rfl)
                  go_wp2
                  go_meet
                  case rel => exact ⟨_, rfl, rfl, Z1, HS, HI, HRAW, HX, HY, B12, BA, B17, HBB, BT, B19, BL, HB⟩
              case rest =>
                clear HS HI HB HRAW HX HY B12 BA B17 HBB BT B19 BL
                obtain ⟨x, rfl, rfl, XI, HS, HI, HRAW, HX, HY, B12, BA, B17, HBB, BT, B19, BL, HB⟩ := hcut
                obtain ⟨⟨r1, r2⟩, he1, he2⟩ := read_ref HBF.out.2.1 nb x q XI.out PQ.out.2
                obtain ⟨K1, he1⟩ := he1.rounds
                obtain ⟨K2, he2⟩ := he2.rounds
                have R1 := Aside0.mk he1
                have R2 := Aside0.mk he2
                clear he1 he2
                have c170 := (B17.out.cell 0).trans (show _ = some (.slice Ab lb.length kb) from rfl)
                have c171 := (B17.out.cell 1).trans (show _ = some (.int .i64 nb) from rfl)
                have c190 := (B19.out.cell 0).trans (show _ = some (.int .i64 p) from rfl)
                have c191 := (B19.out.cell 1).trans (show _ = some (.int .i64 q) from rfl)
                go_wp2_with fail
                refine (bits_Read.calls K1 Ab kb lb nb x q r1 r2 _ HBB.out.now HBF.out.1 R1.out).mono ?_
                rintro e w1 ⟨rfl, hb⟩
                clear c170 c171 c190 c191
                have hk := keep_of hb gs; replace HRAW := Aside0.mk (HRAW.out.keep hk); replace HX := Aside0.mk (HX.out.keep hk); replace HY := Aside0.mk (HY.out.keep hk); replace B12 := Aside0.mk (B12.out.keep hk); replace BA := Aside0.mk (BA.out.keep hk); replace B17 := Aside0.mk (B17.out.keep hk); replace HBB := Aside0.mk (HBB.out.keep hk); replace BT := Aside0.mk (BT.out.keep hk); replace B19 := Aside0.mk (B19.out.keep hk); replace BL := Aside0.mk (BL.out.keep hk); replace HI := Aside0.mk (HI.out.below hb); replace HB := Aside0.mk (below_step HB.out hb); clear hb hk
                have c170 := (B17.out.cell 0).trans (show _ = some (.slice Ab lb.length kb) from rfl)
                have c171 := (B17.out.cell 1).trans (show _ = some (.int .i64 nb) from rfl)
                have c190 := (B19.out.cell 0).trans (show _ = some (.int .i64 p) from rfl)
                have c191 := (B19.out.cell 1).trans (show _ = some (.int .i64 q) from rfl)
                go_wp2_with fail
                refine (synopticref07_Read.calls K2 Ab kb lb nb x q r1 r2 _ HBB.out.now HBF.out.1 R2.out).mono ?_
                rintro e w1 ⟨rfl, hb⟩
                clear c170 c171 c190 c191
                have hk := keep_of hb gs; replace HRAW := Aside0.mk (HRAW.out.keep hk); replace HX := Aside0.mk (HX.out.keep hk); replace HY := Aside0.mk (HY.out.keep hk); replace B12 := Aside0.mk (B12.out.keep hk); replace BA := Aside0.mk (BA.out.keep hk); replace B17 := Aside0.mk (B17.out.keep hk); replace HBB := Aside0.mk (HBB.out.keep hk); replace BT := Aside0.mk (BT.out.keep hk); replace B19 := Aside0.mk (B19.out.keep hk); replace BL := Aside0.mk (BL.out.keep hk); replace HI := Aside0.mk (HI.out.below hb); replace HB := Aside0.mk (below_step HB.out hb); clear hb hk
                go_wp2
                go_roundg (3 - (r + 1))
                case measure => have := HKR.out; have := HR3.out; omega
                case rel => exact ⟨r + 1, sj, by first | rfl | (congr 1; have := HR3.out; unfold wrap64; omega), ⟨by have := HR3.out; omega⟩, HS, HI, HRAW, HX, HY, B12, BA, B17, HBB, BT, B19, BL, HB⟩

theorem walk (A : Option Addr) (c : Nat) (l : List Int) (n : Int) (a1 : Option Addr) (len1 cap1 : Nat) (z1 : List Int) (a2 a3 a4 : Int) (w : World) (hl : okL l) (hr : Kd.C (Kd.int .u8) w A l.length l) (hc : l.length ≤ c)
    (w1 : (a1 = none ∧ len1 = 0 ∧ cap1 = 0 ∧ z1 = []) ∨ ∃ x, a1 = some x ∧ len1 ≤ cap1 ∧ cap1 ≤ maxLen ∧ z1.length = cap1 ∧ (∀ i, i < z1.length → w.cell? (x.add i) = some (.int .i64 (z1.getD i 0))) ∧ ∀ n ∈ z1, (Lit.int .i64 n).wf = true)
    (hn : (Lit.int .i64 n).wf = true) (h2 : (Lit.int .i64 a2).wf = true) (h3 : (Lit.int .i64 a3).wf = true) (h4 : (Lit.int .i64 a4).wf = true) :
    Calls Try.prog 8 #[.agg #[.slice A l.length c, .int .i64 n], .slice a1 len1 cap1, .int .i64 a2, .int .i64 a3, .int .i64 a4] w fun e w' => e = .returned (.bool true) ∧ Below w.heap.size w w' := by
  obtain ⟨l0, rfl, hr0, hm0, hw0, hc0⟩ := ReadsInt.ofRowC w1
  exact answers_walk A c l n a1 cap1 l0 a2 a3 a4 w hl hr hc (wf_range hn) (Kd.C_of_reads (d := (0 : Int)) (h1 := fun _ => rfl) hr0) hc0 hw0 (wf_range h2) (wf_range h3) (wf_range h4)


end Go.Proofs.Yteeamcodapjccaa.Bq
