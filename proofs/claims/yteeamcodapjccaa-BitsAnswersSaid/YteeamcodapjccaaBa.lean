/- Words for the layer bits: the builtin copy onto a row of the call's own, and the contract of bits.copied. -/
import Derived.Test.YteeamcodapjccaaPBitsAnswersx0
import Derived.Laws.CopyOwn
namespace Go.Proofs.Yteeamcodapjccaa.Ba
open Go.RowKit Go.Proofs.YteeamcodapjccaaW.PrintWords Go.Proofs.YteeamcodapjccaaW.PrintLast Go.Proofs.YteeamcodapjccaaW.PrintMore
open Go.Proofs.Yteeamcodapjccaa.PBitsAnswers
set_option linter.unusedVariables false
set_option linter.unusedSimpArgs false

theorem getD_nums (k : IntKind) (ys : List Int) (j : Nat) (u : Value) (h : (ys.map fun x => Value.int k x)[j]? = some u) : j < ys.length ∧ u = .int k (ys.getD j 0) := by
  rw [List.getElem?_map] at h
  cases hy : ys[j]? with
  | none => rw [hy] at h; cases h
  | some y =>
    rw [hy] at h
    have hl := (List.getElem?_eq_some_iff.1 hy).1
    refine ⟨hl, ?_⟩
    rw [List.getD_eq_getElem?_getD, hy]
    simpa using h.symm

/-- copy(v, ys): v a row of the call's own, as long as ys. -/
theorem copy_row {P : Program} {W : World} {ops : Array Oper} {rest : List Oper} {o : Oper} {a : Act} {Q : Exit → Act → World → Prop} {k : IntKind} (hgd : o.guard = none) (d s : Operand) (dT sT : TypeId)
    (ho : o.op = .call { callee := .builtin .copy, args := #[d, s], argTypes := #[dT, sT] }) (e : TypeId) (hu : P.underlying dT = some (.slice e)) (hsz : (P.info? e).map (·.size) = some 1)
    (base : Nat) (ok : Nat → Prop) (v : Value) (xs ys : List Int) (A : Option Addr) (c : Nat) (hd : a.eval d = v) (hs : a.eval s = .slice A ys.length c)
    (hl : ys.length = xs.length) (HO : Kd.R (Kd.int k) e W base ok v xs) (HR : Kd.C (Kd.int k) W A ys.length ys)
    (h : ∀ w', Kd.R (Kd.int k) e w' base ok v ys → W.grownBy w' v.ownBlock → wpList P ops Q rest (a.put o.dst (goInt ys.length)) w') :
    wpList P ops Q (o :: rest) a W := by
  have hown : W.ownsRow base e 1 v xs.length (encs (Value.int k) xs) := Kd.own_of_R HO
  have hread : ReadsOf (Value.int k) 0 W A ys.length ys := Kd.reads_of_C HR
  by_cases h0 : ys.length = 0
  · obtain rfl : ys = [] := List.eq_nil_of_length_eq_zero h0
    obtain rfl : xs = [] := List.eq_nil_of_length_eq_zero (by omega)
    obtain ⟨Ad, cd, hv⟩ : ∃ Ad cd, v = .slice Ad 0 cd := own_slice hown
    subst hv
    refine wpList_copy_nothing hgd d s dT sT ho e hu hsz Ad A 0 cd 0 c hd hs (by simp) ?_
    exact h W HO (World.grownBy.refl W _)
  · obtain ⟨ad, rfl, hcell⟩ := hread.2.2 (by omega)
    rcases hown.2 with ⟨rfl, hz⟩ | ⟨g, cap, cur, rfl, hb, hh, hnc, hcm, hcs, htk⟩
    · omega
    · have hcl : cur.size = cap := by omega
      have hcells : ∀ j u, (ys.map fun x => Value.int k x)[j]? = some u → W.cell? (ad.add j) = some u := by
        intro j u hu'
        obtain ⟨hj, rfl⟩ := getD_nums k ys j u hu'
        have := hcell j hj
        simpa [rdOf] using this
      refine wpList_copy_own hgd d s dT sT ho e hu hsz g 0 xs.length cap ad ys.length c hd hs cur e hh (ys.map fun x => Value.int k x) (by simp [hl]) hcells (by simp; omega)
        (by intro u hu'; simp at hu'; obtain ⟨x, _, rfl⟩ := hu'; rfl) ?_
      have hgrow : W.grownBy (W.setRow g (cur.toList.take 0 ++ ((ys.map fun x => Value.int k x) ++ cur.toList.drop (0 + (ys.map fun x => Value.int k x).length))).toArray) (some g) :=
        ⟨rfl, rfl, rfl, by simp [World.setRow], fun i hi hne => setRow_other W g i _ (by intro he; exact hne (by rw [he]))⟩
      have hrow := setRow_heap W g cur (cur.toList.take 0 ++ ((ys.map fun x => Value.int k x) ++ cur.toList.drop (0 + (ys.map fun x => Value.int k x).length))).toArray e _ hh
      rw [show ((ys.map fun x => Value.int k x).length) = ys.length by simp]
      rw [show ((ys.map fun x => Value.int k x).length) = ys.length by simp] at hgrow hrow
      refine h _ ?_ hgrow
      refine Kd.R_of_own (h1 := fun _ => rfl) ?_ (fun i hi => HO.1 i hi)
      rw [hl]
      rw [hl] at hrow
      refine ⟨by simp [encs, hl], .inr ⟨g, cap, _, rfl, hb, hrow, hnc, hcm, ?_, ?_⟩⟩
      · simp; omega
      · simp [encs]
        rw [List.take_append_of_le_length (by simp; omega)]
        rw [List.take_of_length_le (by simp; omega)]

set_option maxHeartbeats 1000000 in
set_option maxRecDepth 100000 in
/-- bits.copied: a new writer with the bits of a list. -/
theorem copied_calls (A0 : Option Addr) (c0 : Nat) (l0 : List Int) (n0 : Int) (w : World) (hr0 : Kd.C (Kd.int .u8) w A0 l0.length l0) (hc0 : l0.length ≤ c0) (hbd : l0.length ≤ 5000) :
    Calls Try.prog 36 #[.agg #[.slice A0 l0.length c0, .int .i64 n0]] w fun e w' => ∃ (g : Nat) (v : Value), e = .returned (.pointer (some ⟨g, 0, none⟩)) ∧ w'.heap[g]? = some (.cells #[v, .int .i64 n0] 64 (0, 0)) ∧
      Kd.R (Kd.int .u8) 5 w' w.heap.size (fun _ => True) v l0 ∧ w.heap.size ≤ g ∧ Below w.heap.size w w' := by
  have hu28 := Try.underlying28
  have hu64 := Try.underlying64
  have HR0 := Aside0.mk hr0
  have HC0 := Aside0.mk hc0
  have HBD := Aside0.mk hbd
  clear hr0 hc0 hbd
  have HB := Aside0.mk (Below.refl w.heap.size w)
  have hz0 : (0 : Int) ≤ (l0.length : Int) := by omega
  go_enter Try.func36, Try.ntmps36
  go_wp2_with (first
    | ((with_reducible refine gate_dst (N := 1) rfl ?_); refine box_event ?hg (N := 1) ?hd (cs := #[.slice A0 l0.length c0, .int .i64 n0]) (t := 28) ?hr ?_; (case hd => rfl); (case hg => rfl); (case hr => first | (go_simp; done) | (go_simp; rfl)); intro gb hg w1 hbox hb; have HB1 := Aside0.mk (below_step HB.out hb); clear HB; have BK := Aside0.mk hbox; have HRw := Aside0.mk (Kd.C_below HR0.out hb); have GE := Aside0.mk (by rw [hg]; exact Nat.le_refl _ : w.heap.size ≤ gb); clear hb hbox hg; have hc1 : w1.cell? ⟨gb, 0, none⟩ = some (.slice A0 l0.length c0) := (blk_cell BK.out 0).trans rfl; have hc2 : w1.cell? ⟨gb, 1, none⟩ = some (.int .i64 n0) := (blk_cell BK.out 1).trans rfl)
    | ((with_reducible refine gate_dst (N := 7) rfl ?_); refine Kd.R_make (Kd.int .u8) w.heap.size 5 rfl (N := 7) rfl 26 _ _ rfl (l0.length : Int) rfl rfl Try.underlying26 (.int .u8 0) 1 info5 rfl (by decide) (by omega) 0 (ok := fun _ => True) (okp := fun _ => True) rfl (fun _ hk => hk) trivial hz0 (by have := HBD.out; omega) HB1.out (below_size HB1.out) ?_; intro v1 w2 ho hb hg_ _; obtain ⟨Ao, co, eo⟩ : ∃ Ao co, v1 = .slice Ao l0.length co := (by obtain ⟨A, c, h⟩ := Kd.R_slice ho; exact ⟨A, c, by rw [h]; simp⟩); subst eo; have HO := Aside0.mk ho; have HB2 := Aside0.mk hb; have BK2 := Aside0.mk (blk_grown BK.out hg_ (by simp)); have HR2 := Aside0.mk (Kd.C_below HRw.out ⟨hg_.os, hg_.tape, hg_.output, hg_.size, fun k hk => hg_.block k hk (by simp)⟩); clear ho hb hg_ hc1 hc2; have hc1 : w2.cell? ⟨gb, 0, none⟩ = some (.slice A0 l0.length c0) := (blk_cell BK2.out 0).trans rfl; have hc2 : w2.cell? ⟨gb, 1, none⟩ = some (.int .i64 n0) := (blk_cell BK2.out 1).trans rfl)
    | ((with_reducible refine gate_dst (N := 11) rfl ?_); refine copy_row (k := .u8) rfl _ _ 26 26 rfl 5 Try.underlying26 (by kernel_rfl) w.heap.size (fun _ => True) (.slice Ao l0.length co) _ l0 A0 c0 rfl rfl (by simp) HO.out HR2.out ?_; intro w3 ho hg; have HO3 := Aside0.mk ho; have HB3 := Aside0.mk (HB2.out.grown hg (below_size HB2.out) (fun k hk => by rcases Kd.R_base2 HO.out with h | ⟨b, h, hb⟩ <;> rw [h] at hk <;> cases hk; exact hb)); have BK3 := Aside0.mk (blk_grown BK2.out hg (Kd.R_ne HO.out BK2.out (by decide))); clear ho hg hc1 hc2; have hc1 : w3.cell? ⟨gb, 0, none⟩ = some (.slice A0 l0.length c0) := (blk_cell BK3.out 0).trans rfl; have hc2 : w3.cell? ⟨gb, 1, none⟩ = some (.int .i64 n0) := (blk_cell BK3.out 1).trans rfl)
    | ((with_reducible refine gate_dst (N := 17) rfl ?_); refine box_event ?hg (N := 17) ?hd (cs := #[.slice Ao l0.length co, .int .i64 n0]) (t := 64) ?hr ?_; (case hd => rfl); (case hg => rfl); (case hr => first | (go_simp; done) | (go_simp; rfl)); intro gb2 hg w4 hbox hb; have BK4 := Aside0.mk hbox; have HO4 := Aside0.mk (Kd.R_below HO3.out hb); have HB4 := Aside0.mk (below_step HB3.out hb); have GE2 := Aside0.mk (by rw [hg]; exact below_size HB3.out : w.heap.size ≤ gb2); clear hb hbox hg))
  trace_state
  go_ret
  exact ⟨gb2, _, rfl, BK4.out, HO4.out, GE2.out, HB4.out⟩

end Go.Proofs.Yteeamcodapjccaa.Ba
