/- The contract of (*bits.writer).write. -/
import Derived.Test.YteeamcodapjccaaBa
import Derived.Test.YteeamcodapjccaaBb
import Derived.BigRegion
import Derived.RegionTactic
namespace Go.Proofs.Yteeamcodapjccaa.Bc
open Go.RowKit Go.Proofs.YteeamcodapjccaaW.PrintWords Go.Proofs.YteeamcodapjccaaW.PrintLast Go.Proofs.YteeamcodapjccaaW.PrintMore
open Go.Proofs.Yteeamcodapjccaa.PBitsAnswers Go.Proofs.Yteeamcodapjccaa.Bb
set_option linter.unusedVariables false
set_option linter.unusedSimpArgs false

/-- Blocks of another type than bytes, but for one, stay. -/
def KeptBoxes (w w' : World) (g : Nat) : Prop := ∀ k cs t, t ≠ 5 → k ≠ g → w.heap[k]? = some (.cells cs t (0, 0)) → w'.heap[k]? = some (.cells cs t (0, 0))
theorem KeptBoxes.refl (w : World) (g : Nat) : KeptBoxes w w g := fun _ _ _ _ _ h => h
theorem KeptBoxes.trans {w w1 w2 : World} {g : Nat} (h : KeptBoxes w w1 g) (k : KeptBoxes w1 w2 g) : KeptBoxes w w2 g := fun b cs t h1 h2 h3 => k b cs t h1 h2 (h b cs t h1 h2 h3)

/-- The state of a writer at block g. -/
structure Wr (w0 w : World) (g : Nat) (v : Value) (bs : List Bool) : Prop where
  blk : w.heap[g]? = some (.cells #[v, .int .i64 (bs.length : Int)] 64 (0, 0))
  row : Kd.R (Kd.int .u8) 5 w w0.heap.size (fun _ => True) v (pack bs)
  ge : w0.heap.size ≤ g
  below : Below w0.heap.size w0 w

theorem Wr.step {w0 w w1 : World} {g : Nat} {v : Value} {bs : List Bool} (h : Wr w0 w g v bs) (hb : Below w.heap.size w w1) : Wr w0 w1 g v bs := ⟨blk_below h.blk hb, Kd.R_below h.row hb, h.ge, below_step h.below hb⟩
theorem Wr.put {w0 wr w2 : World} {g gr n : Nat} {bs : List Bool} {b : Bool} {v : Value} {cl : Array Value} (hblk : wr.heap[g]? = some (.cells #[v, .int .i64 (bs.length : Int)] 64 (0, 0)))
    (HB : Below w0.heap.size w0 wr) (HG : w0.heap.size ≤ g) (hgr : w0.heap.size ≤ gr) (hne : g ≠ gr) (hcl : wr.heap[gr]? = some (.cells cl 5 (0, 0)))
    (HR : Kd.R (Kd.int .u8) 5 w2 w0.heap.size (fun _ => True) v (pack (bs ++ [b])) ∧ wr.grownBy w2 (some gr)) :
    Wr w0 (w2.setCell ⟨g, 1, none⟩ (.int .i64 ((bs.length : Int) + 1))).drew g v (bs ++ [b]) ∧ ∀ w, KeptBoxes w wr g → KeptBoxes w (w2.setCell ⟨g, 1, none⟩ (.int .i64 ((bs.length : Int) + 1))).drew g := by
  obtain ⟨HR, hg⟩ := HR
  have hb2 : w2.heap[g]? = some (.cells #[v, .int .i64 (bs.length : Int)] 64 (0, 0)) := blk_grown hblk hg (by intro h; injection h with h; exact hne h)
  refine ⟨⟨?_, ?_, HG, ?_⟩, ?_⟩
  · have := blk_put (cs' := #[v, .int .i64 ((bs.length : Int) + 1)]) hb2 1 (.int .i64 ((bs.length : Int) + 1)) rfl
    rw [show ((bs ++ [b]).length : Int) = (bs.length : Int) + 1 by simp]
    exact this
  · exact Kd.R_mono (Kd.R_far (p := ⟨g, 1, none⟩) (ok := fun k => k ≠ g) (Kd.R_mono (Kd.R_types HR hb2 (by decide)) (fun _ hk => hk.2)) (fun _ hk => hk) _) (fun _ _ => trivial)
  · exact below_drew1 (below_set (HB.grown hg (below_size HB) (fun k hk => by injection hk with hk; omega)) HG)
  · intro w hk k cs t h1 h2 h3
    have h4 := hk k cs t h1 h2 h3
    have h5 := blk_grown h4 hg (by intro h; injection h with h; subst h; rw [hcl] at h4; injection h4 with h4; injection h4 with _ h4; exact h1 h4.symm)
    exact blk_far h5 (by simpa using h2) _
theorem rd_new {bs : List Bool} (h : bs.length % 8 = 0) : rd (pack bs ++ [0]) ((bs.length / 8 : Nat) : Int) = ((byteAt bs (bs.length / 8) : Nat) : Int) := by
  have hl := pack_length bs
  have h0 : byteAt bs (bs.length / 8) = 0 := by
    have h1 := byteAt_low bs
    have h2 := byteAt_lt bs (bs.length / 8)
    rw [h] at h1
    simp only [Nat.sub_zero, Nat.reducePow] at h1
    omega
  rw [h0]
  unfold rd
  rw [Int.toNat_natCast, List.getD_eq_getElem?_getD, List.getElem?_append_right (by omega), show bs.length / 8 - (pack bs).length = 0 by omega]
  rfl
theorem KeptBoxes.row {w wr w1 : World} {g : Nat} {v : Value} {ys : List Int} {base : Nat} (h : KeptBoxes w wr g) (hr : Kd.R (Kd.int .u8) 5 wr base (fun _ => True) v ys) (hg : wr.grownBy w1 v.ownBlock) : KeptBoxes w w1 g := by
  intro k cs t h1 h2 h3
  have h4 := h k cs t h1 h2 h3
  exact blk_grown h4 hg (Kd.R_ne hr h4 (fun h => h1 h.symm))

theorem ofInt_i64 (a : Nat) (ha : a < 9223372036854775808) : (BitVec.ofInt 64 (a : Int)).toNat = a := by
  rw [BitVec.ofInt_natCast, BitVec.toNat_ofNat]; exact Nat.mod_eq_of_lt (by omega)
theorem and_one (a : Nat) (ha : a < 9223372036854775808) : Go.bits .and .i64 (a : Int) 1 = ((a % 2 : Nat) : Int) := by
  have e1 : (BitVec.ofInt 64 (1 : Int)).toNat = 1 := by decide
  show IntKind.i64.wrap ((BitVec.ofInt 64 (a : Int) &&& BitVec.ofInt 64 (1 : Int)).toNat : Int) = _
  rw [BitVec.toNat_and, ofInt_i64 a ha, e1, Nat.and_one_is_mod, IntKind.wrap_i64]
  omega
theorem new_byte (bs : List Bool) (value r : Nat) (hv : value < 9223372036854775808) :
    Go.bits .or .u8 ((byteAt bs (bs.length / 8) : Nat) : Int) (Go.bits .and .i64 ((value : Int) / 2 ^ r) 1 % 256 * 2 ^ (7 - bs.length % 8) % 256) = ((byteAt (bs ++ [decide (value / 2 ^ r % 2 = 1)]) (bs.length / 8) : Nat) : Int) := by
  have hs : 7 - bs.length % 8 < 8 := by omega
  have h1 : (value : Int) / 2 ^ r = ((value / 2 ^ r : Nat) : Int) := by norm_cast
  have h2 : value / 2 ^ r < 9223372036854775808 := Nat.lt_of_le_of_lt (Nat.div_le_self _ _) hv
  rw [h1, and_one _ h2]
  have hb : value / 2 ^ r % 2 < 2 := Nat.mod_lt _ (by omega)
  have hlow : byteAt bs (bs.length / 8) % 2 ^ (7 - bs.length % 8 + 1) = 0 := by
    have := byteAt_low bs
    rwa [show 8 - bs.length % 8 = 7 - bs.length % 8 + 1 by omega] at this
  have ho := or_byte (byteAt_lt bs (bs.length / 8)) hs hb hlow
  unfold shl at ho
  rw [Int.toNat_natCast, Nat.min_eq_left (show 7 - bs.length % 8 ≤ IntKind.u8.bits from by show _ ≤ 8; omega), IntKind.wrap_u8] at ho
  rw [show ((value / 2 ^ r % 2 : Nat) : Int) % 256 = ((value / 2 ^ r % 2 : Nat) : Int) by omega, ho, byteAt_snoc]
  congr 2
  by_cases h : value / 2 ^ r % 2 = 1
  · simp [h]
  · have : value / 2 ^ r % 2 = 0 := by omega
    simp [this]

theorem new_byte0 (bs : List Bool) (value r : Nat) (hv : value < 9223372036854775808) (h8 : bs.length % 8 = 0) :
    Go.bits .or .u8 ((byteAt bs (bs.length / 8) : Nat) : Int) (Go.bits .and .i64 ((value : Int) / 2 ^ r) 1 % 256 * 128 % 256) = ((byteAt (bs ++ [decide (value / 2 ^ r % 2 = 1)]) (bs.length / 8) : Nat) : Int) := by
  have h := new_byte bs value r hv
  rw [h8] at h
  exact h

set_option maxHeartbeats 2000000 in
set_option maxRecDepth 100000 in
theorem write_calls (w0 w : World) (g : Nat) (v : Value) (bs : List Bool) (value width : Nat) (hw : Wr w0 w g v bs) (hv : value < 9223372036854775808) (hwd : width ≤ 24) (hl : bs.length + width ≤ 40000) :
    Calls Try.prog 37 #[.pointer (some ⟨g, 0, none⟩), .int .i64 (value : Int), .int .i64 (width : Int)] w fun e w' => e = .returned (.tuple #[]) ∧ (∃ v', Wr w0 w' g v' (bs ++ bitsOf value width)) ∧ KeptBoxes w w' g := by
  have hu28 := Try.underlying28
  have hu64 := Try.underlying64
  have HW := Aside0.mk hw
  have HL := Aside0.mk hl
  clear hw hl
  go_enter Try.func37, Try.ntmps37
  go_wp2
  go_loopg [6] width (fun kq v6 w' => v6 = .int .i64 ((kq : Int) - 1) ∧ Aside0 (kq ≤ width) ∧ Aside0 (∃ v' bs', Wr w0 w' g v' bs' ∧ bs' ++ bitsOf value kq = bs ++ bitsOf value width) ∧ Aside0 (KeptBoxes w w' g))
  case atStart => exact ⟨rfl, ⟨Nat.le_refl _⟩, ⟨v, bs, HW.out, rfl⟩, ⟨KeptBoxes.refl _ _⟩⟩
  case round =>
    obtain ⟨rfl, HK, HA, HX⟩ := hrel
    cases gk with
    | zero =>
      have hz : decide ((0 : Int) ≤ ((0 : Nat) : Int) - 1) = false := by decide
      go_wp2
      go_end0
      obtain ⟨v', bs', h1, h2⟩ := HA.out
      refine ⟨rfl, ⟨v', ?_⟩, HX.out⟩
      rw [bitsOf, List.append_nil] at h2
      rw [← h2]
      exact h1
    | succ r =>
      rw [show (((r + 1 : Nat)) : Int) - 1 = (r : Int) by omega]
      obtain ⟨v', bs', hWr, heq⟩ := HA.out
      have HE := Aside0.mk heq
      have HR := Aside0.mk hWr.row
      have HB := Aside0.mk hWr.below
      have HG := Aside0.mk hWr.ge
      have HK1 := Aside0.mk hWr.blk
      have hlen : bs'.length + (r + 1) = bs.length + width := by
        have := congrArg List.length heq
        simp [bitsOf_length] at this
        omega
      have hn0 : (bs'.length : Int) < 40000 := by have := HL.out; omega
      have hr24 : (r : Int) < 24 := by have := HK.out; omega
      clear hWr heq HA hlen
      have hc0 : wr.cell? ⟨g, 0, none⟩ = some v' := (blk_cell HK1.out 0).trans rfl
      have hc1 : wr.cell? ⟨g, 1, none⟩ = some (.int .i64 (bs'.length : Int)) := (blk_cell HK1.out 1).trans rfl
      have hf0 := blk_frozen HK1.out 0
      have hf1 := blk_frozen HK1.out 1
      by_cases h8 : bs'.length % 8 = 0
      · have h8b : ((bs'.length : Int) % 8 == 0) = true := beq_iff_eq.mpr (by omega)
        have H8 := Aside0.mk h8
        clear h8
        obtain ⟨Ao, co, eo⟩ := Kd.R_slice HR.out
        subst eo
        have hgo : Aside0 (some g ≠ (Value.slice Ao (pack bs').length co).ownBlock) := ⟨Kd.R_ne HR.out HK1.out (by decide)⟩
        obtain ⟨ys, hys⟩ : ∃ ys : List Int, ys = pack bs' ++ [0] := ⟨_, rfl⟩
        have HYL : Aside0 (ys.length = (bs'.length + 7) / 8 + 1) := ⟨by rw [hys]; simp [pack_length]⟩
        have HY := Aside0.mk hys
        clear hys
        go_upto_region 5 with (first
          | (at_builtin; refine Kd.R_append (Kd.int .u8) (w0 := w0) w0.heap.size rfl (.tmp 25) (.tmp 26) 26 5 (.int .u8 0) 1 rfl Try.underlying26 info5 rfl (by decide) (by omega) (.slice Ao (pack bs').length co) (pack bs') 0 [.int .u8 0] (fun _ => True) (fun _ => False) rfl rfl ?aP (fun _ hk => hk.elim) ?aF ?aO ?aB ?aS ?aL ?_; (case aP => exact rfl); (case aF => exact (fun _ _ => trivial)); (case aO => exact HR.out); (case aB => exact HB.out); (case aS => exact below_size HB.out); (case aL => rw [pack_length]; omega); intro v1 w1 ho hb hg hat; rw [← HY.out] at ho; obtain ⟨A1, c1, eo1⟩ := Kd.R_slice ho; subst eo1; have HR1 := Aside0.mk ho; have HB1 := Aside0.mk hb; have HX1 := Aside0.mk (KeptBoxes.row HX.out HR.out hg); have HK2 := Aside0.mk (blk_grown HK1.out hg hgo.out); clear ho hb hg hat hc0 hc1 hf0 hf1; have hc0 : w1.cell? ⟨g, 0, none⟩ = some (.slice Ao (pack bs').length co) := (blk_cell HK2.out 0).trans rfl; have hc1 : w1.cell? ⟨g, 1, none⟩ = some (.int .i64 (bs'.length : Int)) := (blk_cell HK2.out 1).trans rfl; have hf0 := blk_frozen HK2.out 0; have hf1 := blk_frozen HK2.out 1)
          | ((with_reducible refine gate_store (t := 26) (p := 30) rfl ?_); refine store_event (t := 26) (p := 30) (v := ?vo) (w1 := (w1.setCell ⟨g, 0, none⟩ (.slice A1 ys.length c1))) ?hg ?ho ?hn ?hr ?_; (case ho => rfl); (case hg => rfl); (case hn => rfl); (case hr => first | (go_simp; done) | (go_simp; rfl)); intro w3 hw; have HK3 : Aside0 (w3.heap[g]? = some (.cells #[.slice A1 ys.length c1, .int .i64 (bs'.length : Int)] 64 (0, 0))) := ⟨by rw [hw]; exact blk_put HK2.out 0 _ rfl⟩; have HR3 : Aside0 (Kd.R (Kd.int .u8) 5 w3 w0.heap.size (fun _ => True) (.slice A1 ys.length c1) ys) := ⟨by rw [hw]; exact Kd.R_mono (Kd.R_far (p := ⟨g, 0, none⟩) (ok := fun k => k ≠ g) (Kd.R_mono (Kd.R_types HR1.out HK2.out (by decide)) (fun _ hk => hk.2)) (fun _ hk => hk) _) (fun _ _ => trivial)⟩; have HB3 : Aside0 (Below w0.heap.size w0 w3) := ⟨by rw [hw]; exact below_set HB1.out HG.out⟩; have HX3 : Aside0 (KeptBoxes w w3 g) := ⟨by rw [hw]; exact fun k cs t h1 h2 h3 => blk_far (HX1.out k cs t h1 h2 h3) (by simpa using h2) _⟩; clear hw hc0 hc1 hf0 hf1; have hc0 : w3.cell? ⟨g, 0, none⟩ = some (.slice A1 ys.length c1) := (blk_cell HK3.out 0).trans rfl; have hc1 : w3.cell? ⟨g, 1, none⟩ = some (.int .i64 (bs'.length : Int)) := (blk_cell HK3.out 1).trans rfl; have hf0 := blk_frozen HK3.out 0; have hf1 := blk_frozen HK3.out 1))
        have h8 := H8.out
        obtain ⟨gr, cap, eo, gb, gl, cl, HGR⟩ := Kd.R_form HR3.out (by rw [HYL.out]; omega)
        first | subst eo | (cases eo)
        have GB := Aside0.mk gb
        have HGC := Aside0.mk HGR
        clear gb HGR
        have hgne : g ≠ gr := fun he => Kd.R_ne HR3.out HK3.out (by decide) (by rw [he]; rfl)
        have hgne2 : gr ≠ g := Ne.symm hgne
        obtain ⟨hx, hfx⟩ := Kd.R_celln 0 HR3.out ((bs'.length / 8 : Nat) : Int) (by omega) (by rw [HYL.out]; omega)
        rw [show rdOf 0 ys ((bs'.length / 8 : Nat) : Int) = rd ys ((bs'.length / 8 : Nat) : Int) from rfl, HY.out, rd_new h8, Int.toNat_natCast] at hx
        rw [Int.toNat_natCast] at hfx
        have hp0 : ((bs'.length : Int) / 8) < ((ys).length : Int) := by rw [HYL.out]; omega
        have hp1 : (0 : Int) ≤ 7 - (bs'.length : Int) % 8 := by omega
        have hp2 : (7 - (bs'.length : Int) % 8) ≤ 7 := by omega
        have HP := Aside0.mk (Kd.R_putg HR3.out ((bs'.length / 8 : Nat) : Int) ((byteAt (bs' ++ [decide (value / 2 ^ r % 2 = 1)]) (bs'.length / 8) : Nat) : Int))
        have HN := Aside0.mk (new_byte0 bs' value r hv h8)
        go_region
        rw [HN.out]
        have hset : ys.set (bs'.length / 8) ((byteAt (bs' ++ [decide (value / 2 ^ r % 2 = 1)]) (bs'.length / 8) : Nat) : Int) = pack (bs' ++ [decide (value / 2 ^ r % 2 = 1)]) := by rw [HY.out]; exact (pack_snoc_new h8).symm
        rw [Int.toNat_natCast, hset] at HP
        clear hset
        generalize hw2 : World.setCell w3 _ _ = w2
        have hw2' : w3.setCell ⟨gr, bs'.length / 8, none⟩ (.int .u8 ((byteAt (bs' ++ [decide (value / 2 ^ r % 2 = 1)]) (bs'.length / 8) : Nat) : Int)) = w2 := hw2
        have HP2 := Aside0.mk (hw2' ▸ HP.out)
        clear hw2 hw2' HP HN hx hfx
        have hb2 := Aside0.mk (blk_grown HK3.out HP2.out.2 (by intro h; injection h with h; exact hgne h))
        have hd0 : w2.cell? ⟨g, 0, none⟩ = some (.slice (some ⟨gr, 0, none⟩) ys.length c1) := (blk_cell hb2.out 0).trans rfl
        have hd1 : w2.cell? ⟨g, 1, none⟩ = some (.int .i64 (bs'.length : Int)) := (blk_cell hb2.out 1).trans rfl
        have he0 := blk_frozen hb2.out 0
        have he1 := blk_frozen hb2.out 1
        clear hc0 hc1 hf0 hf1
        have HQ := Aside0.mk (Wr.put (n := 0) HK3.out HB3.out HG.out GB.out hgne HGC.out HP2.out)
        go_wp2
        go_roundg r
        case measure => omega
        case rel => exact ⟨rfl, ⟨by have := HK.out; omega⟩, ⟨_, _, HQ.out.1, by have := HE.out; rw [bitsOf] at this; simpa using this⟩, ⟨HQ.out.2 w HX3.out⟩⟩
      · have h8b : ((bs'.length : Int) % 8 == 0) = false := beq_eq_false_iff_ne.mpr (by omega)
        have hd : bs'.length / 8 < (bs'.length + 7) / 8 := by omega
        obtain ⟨gr, cap, eo, gb, gl, cl, HGR⟩ := Kd.R_form HR.out (by rw [pack_length]; omega)
        first | subst eo | (cases eo)
        have GB := Aside0.mk gb
        have HGC := Aside0.mk HGR
        clear gb HGR
        have hgne : g ≠ gr := fun he => Kd.R_ne HR.out HK1.out (by decide) (by rw [he]; rfl)
        have hgne2 : gr ≠ g := Ne.symm hgne
        obtain ⟨hx, hfx⟩ := Kd.R_celln 0 HR.out ((bs'.length / 8 : Nat) : Int) (by omega) (by rw [pack_length]; omega)
        rw [show rdOf 0 (pack bs') ((bs'.length / 8 : Nat) : Int) = rd (pack bs') ((bs'.length / 8 : Nat) : Int) from rfl, rd_pack hd, Int.toNat_natCast] at hx
        rw [Int.toNat_natCast] at hfx
        have hp0 : ((bs'.length : Int) / 8) < (((pack bs')).length : Int) := by rw [pack_length]; omega
        have hp1 : (0 : Int) ≤ 7 - (bs'.length : Int) % 8 := by omega
        have hp2 : (7 - (bs'.length : Int) % 8) ≤ 7 := by omega
        have HP := Aside0.mk (Kd.R_putg HR.out ((bs'.length / 8 : Nat) : Int) ((byteAt (bs' ++ [decide (value / 2 ^ r % 2 = 1)]) (bs'.length / 8) : Nat) : Int))
        have HN := Aside0.mk (new_byte bs' value r hv)
        go_wp2
        go_region
        rw [HN.out]
        rw [Int.toNat_natCast, ← pack_snoc_old h8] at HP
        generalize hw2 : World.setCell wr _ _ = w2
        have hw2' : wr.setCell ⟨gr, bs'.length / 8, none⟩ (.int .u8 ((byteAt (bs' ++ [decide (value / 2 ^ r % 2 = 1)]) (bs'.length / 8) : Nat) : Int)) = w2 := hw2
        have HP2 := Aside0.mk (hw2' ▸ HP.out)
        clear hw2 hw2' HP HN hx hfx
        have hb2 := Aside0.mk (blk_grown HK1.out HP2.out.2 (by intro h; injection h with h; exact hgne h))
        have hd0 : w2.cell? ⟨g, 0, none⟩ = some (.slice (some ⟨gr, 0, none⟩) (pack bs').length cap) := (blk_cell hb2.out 0).trans rfl
        have hd1 : w2.cell? ⟨g, 1, none⟩ = some (.int .i64 (bs'.length : Int)) := (blk_cell hb2.out 1).trans rfl
        have he0 := blk_frozen hb2.out 0
        have he1 := blk_frozen hb2.out 1
        clear hc0 hc1 hf0 hf1
        have HQ := Aside0.mk (Wr.put (n := 0) HK1.out HB.out HG.out GB.out hgne HGC.out HP2.out)
        go_wp2
        go_roundg r
        case measure => omega
        case rel => exact ⟨rfl, ⟨by have := HK.out; omega⟩, ⟨_, _, HQ.out.1, by have := HE.out; rw [bitsOf] at this; simpa using this⟩, ⟨HQ.out.2 w HX.out⟩⟩

end Go.Proofs.Yteeamcodapjccaa.Bc
