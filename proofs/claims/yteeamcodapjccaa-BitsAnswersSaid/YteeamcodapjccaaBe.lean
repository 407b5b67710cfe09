/- The contracts of bits.Append, bits.Join and bits.Pad. -/
import Derived.Test.YteeamcodapjccaaBc
import Derived.Test.YteeamcodapjccaaPBitsAnswersx
namespace Go.Proofs.Yteeamcodapjccaa.Be
open Go.RowKit Go.Proofs.YteeamcodapjccaaW.PrintWords Go.Proofs.YteeamcodapjccaaW.PrintLast Go.Proofs.YteeamcodapjccaaW.PrintMore
open Go.Proofs.Yteeamcodapjccaa.PBitsAnswers Go.Proofs.Yteeamcodapjccaa.Bb Go.Proofs.Yteeamcodapjccaa.Bc
set_option linter.unusedVariables false
set_option linter.unusedSimpArgs false

/-- A list that came in, boxed at g, and the result's cells at g2. -/
structure St (w0 w : World) (A : Option Addr) (c : Nat) (l : List Int) (n : Int) (g : Nat) : Prop where
  blk : w.heap[g]? = some (.cells #[.slice A l.length c, .int .i64 n] 28 (0, 0))
  read : Kd.C (Kd.int .u8) w A l.length l
  ge : w0.heap.size ≤ g
  below : Below w0.heap.size w0 w
theorem St.step {w0 w w1 : World} {A : Option Addr} {c : Nat} {l : List Int} {n : Int} {g : Nat} (h : St w0 w A c l n g) (hb : Below w.heap.size w w1) : St w0 w1 A c l n g :=
  ⟨blk_below h.blk hb, Kd.C_below h.read hb, h.ge, below_step h.below hb⟩
theorem St.c0 {w0 w : World} {A : Option Addr} {c : Nat} {l : List Int} {n : Int} {g : Nat} (h : St w0 w A c l n g) : w.cell? ⟨g, 0, none⟩ = some (.slice A l.length c) := (blk_cell h.blk 0).trans rfl
theorem St.c1 {w0 w : World} {A : Option Addr} {c : Nat} {l : List Int} {n : Int} {g : Nat} (h : St w0 w A c l n g) : w.cell? ⟨g, 1, none⟩ = some (.int .i64 n) := (blk_cell h.blk 1).trans rfl
/-- The result's cells, still zero. -/
structure Rs (w0 w : World) (g : Nat) : Prop where
  blk : w.heap[g]? = some (.cells #[.slice none 0 0, .int .i64 0] 28 (0, 0))
  ge : w0.heap.size ≤ g
theorem Rs.step {w0 w w1 : World} {g : Nat} (h : Rs w0 w g) (hb : Below w.heap.size w w1) : Rs w0 w1 g := ⟨blk_below h.blk hb, h.ge⟩
theorem Rs.c0 {w0 w : World} {g : Nat} (h : Rs w0 w g) : w.cell? ⟨g, 0, none⟩ = some (.slice none 0 0) := (blk_cell h.blk 0).trans rfl
theorem Rs.c1 {w0 w : World} {g : Nat} (h : Rs w0 w g) : w.cell? ⟨g, 1, none⟩ = some (.int .i64 0) := (blk_cell h.blk 1).trans rfl



theorem write_one (w0 w : World) (g : Nat) (v : Value) (bs : List Bool) (value : Nat) (hw : Wr w0 w g v bs) (hv : value < 9223372036854775808) (hl : bs.length + 1 ≤ 40000) :
    Calls Try.prog 37 #[.pointer (some ⟨g, 0, none⟩), .int .i64 (value : Int), .int .i64 1] w fun e w' => e = .returned (.tuple #[]) ∧ (∃ v', Wr w0 w' g v' (bs ++ bitsOf value 1)) ∧ KeptBoxes w w' g := write_calls w0 w g v bs value 1 hw hv (by omega) hl
theorem take_snoc_bit {bs : List Bool} {i : Nat} (h : i < bs.length) : bs.take (i + 1) = bs.take i ++ bitsOf (bn bs i) 1 := by
  rw [List.take_succ_eq_append_getElem h]
  congr 1
  unfold bn
  rw [List.getD_eq_getElem?_getD, List.getElem?_eq_getElem h]
  cases bs[i] <;> rfl
theorem size_nat {n : Nat} (h : n ≤ 40000) : bits_size.f (n : Int) = some (((n + 7) / 8 : Nat) : Int) := by
  unfold bits_size.f
  rw [show wrap64 ((n : Int) + 7) = ((n + 7 : Nat) : Int) from by unfold wrap64; omega, Int.tdiv_eq_ediv_of_nonneg (by omega)]
  congr 1
  unfold wrap64
  omega
theorem row_far' {w : World} {b g : Nat} {v : Value} {xs : List Int} {cells : Array Value} (h : Kd.R (Kd.int .u8) 5 w b (fun _ => True) v xs) (hb : w.heap[g]? = some (.cells cells 64 (0, 0))) (i : Nat) (u : Value) : Kd.R (Kd.int .u8) 5 (w.setCell ⟨g, i, none⟩ u) b (fun _ => True) v xs :=
  Kd.R_mono (Kd.R_far (p := ⟨g, i, none⟩) (ok := fun k => k ≠ g) (Kd.R_mono (Kd.R_types h hb (by decide)) (fun _ hk => hk.2)) (fun _ hk => hk) _) (fun _ _ => trivial)
theorem row_far {w : World} {b g : Nat} {v : Value} {xs : List Int} {cells : Array Value} (h : Kd.R (Kd.int .u8) 5 w b (fun _ => True) v xs) (hb : w.heap[g]? = some (.cells cells 28 (0, 0))) (i : Nat) (u : Value) : Kd.R (Kd.int .u8) 5 (w.setCell ⟨g, i, none⟩ u) b (fun _ => True) v xs :=
  Kd.R_mono (Kd.R_far (p := ⟨g, i, none⟩) (ok := fun k => k ≠ g) (Kd.R_mono (Kd.R_types h hb (by decide)) (fun _ hk => hk.2)) (fun _ hk => hk) _) (fun _ _ => trivial)



set_option maxHeartbeats 2000000 in
set_option maxRecDepth 100000 in
theorem append_state (A0 : Option Addr) (c0 : Nat) (l0 : List Int) (n0 value width : Int) (w : World) (hr0 : Kd.C (Kd.int .u8) w A0 l0.length l0) (hc0 : l0.length ≤ c0) (hv : bits_Valid.f l0 n0 = some false) :
    Calls Try.prog 18 #[.agg #[.slice A0 l0.length c0, .int .i64 n0], .int .i64 value, .int .i64 width] w fun e w' => ∃ v0_ : Value, e = .returned (.tuple #[.agg #[v0_, .int .i64 0], .int .i64 7]) ∧ Kd.R (Kd.int .u8) 5 w' w.heap.size (fun _ => True) v0_ [] ∧ Below w.heap.size w w' := by
  have hu28 := Try.underlying28
  have hu64 := Try.underlying64
  have HR0 := Aside0.mk hr0
  have HC0 := Aside0.mk hc0
  have HV := Aside0.mk hv
  clear hr0 hc0 hv
  go_enter Try.func18, Try.ntmps18
  go_wp2_with (first
    | ((with_reducible refine gate_dst (N := 3) rfl ?_); refine box_event ?hg (N := 3) ?hd (cs := #[.slice A0 l0.length c0, .int .i64 n0]) (t := 28) ?hr ?_; (case hd => rfl); (case hg => rfl); (case hr => first | (go_simp; done) | (go_simp; rfl)); intro g3 hg w1 hbox hb; have HS : Aside0 (St w w1 A0 c0 l0 n0 g3) := ⟨⟨hbox, Kd.C_below HR0.out hb, by rw [hg]; exact Nat.le_refl _, hb⟩⟩; clear hb hbox hg; have h30 := HS.out.c0; have h31 := HS.out.c1)
    | ((with_reducible refine gate_dst (N := 6) rfl ?_); refine box_event ?hg (N := 6) ?hd (cs := #[.slice none 0 0, .int .i64 0]) (t := 28) ?hr ?_; (case hd => rfl); (case hg => rfl); (case hr => first | (go_simp; done) | (go_simp; rfl)); intro g6 hg w2 hbox hb; have HT : Aside0 (Rs w w2 g6) := ⟨⟨hbox, by rw [hg]; exact below_size HS.out.below⟩⟩; have HN : g3 ≠ g6 := (by rw [hg]; exact Nat.ne_of_lt (blk_lt HS.out.blk)); have HN2 : g6 ≠ g3 := Ne.symm HN; replace HS := Aside0.mk (HS.out.step hb); clear hb hbox hg h30 h31; have h30 := HS.out.c0; have h31 := HS.out.c1; have h60 := HT.out.c0; have h61 := HT.out.c1; have f60 := blk_frozen HT.out.blk 0; have f61 := blk_frozen HT.out.blk 1)
    | (go_at_call 33; refine (bits_Valid.calls A0 c0 l0 n0 false _ HS.out.read HC0.out HV.out).mono ?_; rintro e w3 ⟨rfl, hb⟩; replace HS := Aside0.mk (HS.out.step hb); replace HT := Aside0.mk (HT.out.step hb); clear hb; clear h30 h31 h60 h61 f60 f61; have h30 := HS.out.c0; have h31 := HS.out.c1; have h60 := HT.out.c0; have h61 := HT.out.c1; have f60 := blk_frozen HT.out.blk 0; have f61 := blk_frozen HT.out.blk 1))
  refine bodyPost_ret (results_ct rfl _ _ g6 28 #[.slice none 0 0, .int .i64 0] (0, 0) _ rfl (blk_put (blk_put HT.out.blk 0 _ rfl) 1 _ rfl) Try.underlying28 rfl (by kernel_rfl)) rfl ?_
  exact ⟨_, rfl, Kd.R_nil _ _ _ _ _, below_set (below_set HS.out.below HT.out.ge) HT.out.ge⟩

set_option maxHeartbeats 2000000 in
set_option maxRecDepth 100000 in
theorem append_width (A0 : Option Addr) (c0 : Nat) (l0 : List Int) (n0 value width : Int) (w : World) (hr0 : Kd.C (Kd.int .u8) w A0 l0.length l0) (hc0 : l0.length ≤ c0) (hv : bits_Valid.f l0 n0 = some true) (hw : bits_width.f width = some false) :
    Calls Try.prog 18 #[.agg #[.slice A0 l0.length c0, .int .i64 n0], .int .i64 value, .int .i64 width] w fun e w' => ∃ v0_ : Value, e = .returned (.tuple #[.agg #[v0_, .int .i64 0], .int .i64 1]) ∧ Kd.R (Kd.int .u8) 5 w' w.heap.size (fun _ => True) v0_ [] ∧ Below w.heap.size w w' := by
  have hu28 := Try.underlying28
  have hu64 := Try.underlying64
  have HR0 := Aside0.mk hr0
  have HC0 := Aside0.mk hc0
  have HV := Aside0.mk hv
  clear hr0 hc0 hv
  have HW := Aside0.mk hw
  clear hw
  go_enter Try.func18, Try.ntmps18
  go_wp2_with (first
    | ((with_reducible refine gate_dst (N := 3) rfl ?_); refine box_event ?hg (N := 3) ?hd (cs := #[.slice A0 l0.length c0, .int .i64 n0]) (t := 28) ?hr ?_; (case hd => rfl); (case hg => rfl); (case hr => first | (go_simp; done) | (go_simp; rfl)); intro g3 hg w1 hbox hb; have HS : Aside0 (St w w1 A0 c0 l0 n0 g3) := ⟨⟨hbox, Kd.C_below HR0.out hb, by rw [hg]; exact Nat.le_refl _, hb⟩⟩; clear hb hbox hg; have h30 := HS.out.c0; have h31 := HS.out.c1)
    | ((with_reducible refine gate_dst (N := 6) rfl ?_); refine box_event ?hg (N := 6) ?hd (cs := #[.slice none 0 0, .int .i64 0]) (t := 28) ?hr ?_; (case hd => rfl); (case hg => rfl); (case hr => first | (go_simp; done) | (go_simp; rfl)); intro g6 hg w2 hbox hb; have HT : Aside0 (Rs w w2 g6) := ⟨⟨hbox, by rw [hg]; exact below_size HS.out.below⟩⟩; have HN : g3 ≠ g6 := (by rw [hg]; exact Nat.ne_of_lt (blk_lt HS.out.blk)); have HN2 : g6 ≠ g3 := Ne.symm HN; replace HS := Aside0.mk (HS.out.step hb); clear hb hbox hg h30 h31; have h30 := HS.out.c0; have h31 := HS.out.c1; have h60 := HT.out.c0; have h61 := HT.out.c1; have f60 := blk_frozen HT.out.blk 0; have f61 := blk_frozen HT.out.blk 1)
    | (go_at_call 33; refine (bits_Valid.calls A0 c0 l0 n0 true _ HS.out.read HC0.out HV.out).mono ?_; rintro e w3 ⟨rfl, hb⟩; replace HS := Aside0.mk (HS.out.step hb); replace HT := Aside0.mk (HT.out.step hb); clear hb; clear h30 h31 h60 h61 f60 f61; have h30 := HS.out.c0; have h31 := HS.out.c1; have h60 := HT.out.c0; have h61 := HT.out.c1; have f60 := blk_frozen HT.out.blk 0; have f61 := blk_frozen HT.out.blk 1)
    | (go_at_call 39; refine (bits_width.calls width false _ HW.out).mono ?_; rintro e w3 ⟨rfl, hd⟩; have hb := hd.below; clear hd; replace HS := Aside0.mk (HS.out.step hb); replace HT := Aside0.mk (HT.out.step hb); clear hb; clear h30 h31 h60 h61 f60 f61; have h30 := HS.out.c0; have h31 := HS.out.c1; have h60 := HT.out.c0; have h61 := HT.out.c1; have f60 := blk_frozen HT.out.blk 0; have f61 := blk_frozen HT.out.blk 1))
  refine bodyPost_ret (results_ct rfl _ _ g6 28 #[.slice none 0 0, .int .i64 0] (0, 0) _ rfl (blk_put (blk_put HT.out.blk 0 _ rfl) 1 _ rfl) Try.underlying28 rfl (by kernel_rfl)) rfl ?_
  exact ⟨_, rfl, Kd.R_nil _ _ _ _ _, below_set (below_set HS.out.below HT.out.ge) HT.out.ge⟩

set_option maxHeartbeats 2000000 in
set_option maxRecDepth 100000 in
theorem append_less (A0 : Option Addr) (c0 : Nat) (l0 : List Int) (n0 value width : Int) (w : World) (hr0 : Kd.C (Kd.int .u8) w A0 l0.length l0) (hc0 : l0.length ≤ c0) (hv : bits_Valid.f l0 n0 = some true) (hw : bits_width.f width = some true) (hx : decide (value < 0) = true) :
    Calls Try.prog 18 #[.agg #[.slice A0 l0.length c0, .int .i64 n0], .int .i64 value, .int .i64 width] w fun e w' => ∃ v0_ : Value, e = .returned (.tuple #[.agg #[v0_, .int .i64 0], .int .i64 1]) ∧ Kd.R (Kd.int .u8) 5 w' w.heap.size (fun _ => True) v0_ [] ∧ Below w.heap.size w w' := by
  have hu28 := Try.underlying28
  have hu64 := Try.underlying64
  have HR0 := Aside0.mk hr0
  have HC0 := Aside0.mk hc0
  have HV := Aside0.mk hv
  clear hr0 hc0 hv
  have HW := Aside0.mk hw
  clear hw
  go_enter Try.func18, Try.ntmps18
  go_wp2_with (first
    | ((with_reducible refine gate_dst (N := 3) rfl ?_); refine box_event ?hg (N := 3) ?hd (cs := #[.slice A0 l0.length c0, .int .i64 n0]) (t := 28) ?hr ?_; (case hd => rfl); (case hg => rfl); (case hr => first | (go_simp; done) | (go_simp; rfl)); intro g3 hg w1 hbox hb; have HS : Aside0 (St w w1 A0 c0 l0 n0 g3) := ⟨⟨hbox, Kd.C_below HR0.out hb, by rw [hg]; exact Nat.le_refl _, hb⟩⟩; clear hb hbox hg; have h30 := HS.out.c0; have h31 := HS.out.c1)
    | ((with_reducible refine gate_dst (N := 6) rfl ?_); refine box_event ?hg (N := 6) ?hd (cs := #[.slice none 0 0, .int .i64 0]) (t := 28) ?hr ?_; (case hd => rfl); (case hg => rfl); (case hr => first | (go_simp; done) | (go_simp; rfl)); intro g6 hg w2 hbox hb; have HT : Aside0 (Rs w w2 g6) := ⟨⟨hbox, by rw [hg]; exact below_size HS.out.below⟩⟩; have HN : g3 ≠ g6 := (by rw [hg]; exact Nat.ne_of_lt (blk_lt HS.out.blk)); have HN2 : g6 ≠ g3 := Ne.symm HN; replace HS := Aside0.mk (HS.out.step hb); clear hb hbox hg h30 h31; have h30 := HS.out.c0; have h31 := HS.out.c1; have h60 := HT.out.c0; have h61 := HT.out.c1; have f60 := blk_frozen HT.out.blk 0; have f61 := blk_frozen HT.out.blk 1)
    | (go_at_call 33; refine (bits_Valid.calls A0 c0 l0 n0 true _ HS.out.read HC0.out HV.out).mono ?_; rintro e w3 ⟨rfl, hb⟩; replace HS := Aside0.mk (HS.out.step hb); replace HT := Aside0.mk (HT.out.step hb); clear hb; clear h30 h31 h60 h61 f60 f61; have h30 := HS.out.c0; have h31 := HS.out.c1; have h60 := HT.out.c0; have h61 := HT.out.c1; have f60 := blk_frozen HT.out.blk 0; have f61 := blk_frozen HT.out.blk 1)
    | (go_at_call 39; refine (bits_width.calls width true _ HW.out).mono ?_; rintro e w3 ⟨rfl, hd⟩; have hb := hd.below; clear hd; replace HS := Aside0.mk (HS.out.step hb); replace HT := Aside0.mk (HT.out.step hb); clear hb; clear h30 h31 h60 h61 f60 f61; have h30 := HS.out.c0; have h31 := HS.out.c1; have h60 := HT.out.c0; have h61 := HT.out.c1; have f60 := blk_frozen HT.out.blk 0; have f61 := blk_frozen HT.out.blk 1))
  refine bodyPost_ret (results_ct rfl _ _ g6 28 #[.slice none 0 0, .int .i64 0] (0, 0) _ rfl (blk_put (blk_put HT.out.blk 0 _ rfl) 1 _ rfl) Try.underlying28 rfl (by kernel_rfl)) rfl ?_
  exact ⟨_, rfl, Kd.R_nil _ _ _ _ _, below_set (below_set HS.out.below HT.out.ge) HT.out.ge⟩

set_option maxHeartbeats 2000000 in
set_option maxRecDepth 100000 in
theorem append_more (A0 : Option Addr) (c0 : Nat) (l0 : List Int) (n0 value width : Int) (w : World) (hr0 : Kd.C (Kd.int .u8) w A0 l0.length l0) (hc0 : l0.length ≤ c0) (k : Nat) (hk : width = (k : Int)) (hk24 : k ≤ 24) (hv : bits_Valid.f l0 n0 = some true) (hw : bits_width.f width = some true) (hx : decide (value < 0) = false) (hy : decide (wrap64 ((2 : Int) ^ k) ≤ value) = true) :
    Calls Try.prog 18 #[.agg #[.slice A0 l0.length c0, .int .i64 n0], .int .i64 value, .int .i64 width] w fun e w' => ∃ v0_ : Value, e = .returned (.tuple #[.agg #[v0_, .int .i64 0], .int .i64 1]) ∧ Kd.R (Kd.int .u8) 5 w' w.heap.size (fun _ => True) v0_ [] ∧ Below w.heap.size w w' := by
  subst hk
  have hk0 : (0 : Int) ≤ (k : Int) := by omega
  have hk1 : (k : Int) ≤ 24 := by omega
  have hu28 := Try.underlying28
  have hu64 := Try.underlying64
  have HR0 := Aside0.mk hr0
  have HC0 := Aside0.mk hc0
  have HV := Aside0.mk hv
  clear hr0 hc0 hv
  have HW := Aside0.mk hw
  clear hw
  go_enter Try.func18, Try.ntmps18
  go_wp2_with (first
    | ((with_reducible refine gate_dst (N := 3) rfl ?_); refine box_event ?hg (N := 3) ?hd (cs := #[.slice A0 l0.length c0, .int .i64 n0]) (t := 28) ?hr ?_; (case hd => rfl); (case hg => rfl); (case hr => first | (go_simp; done) | (go_simp; rfl)); intro g3 hg w1 hbox hb; have HS : Aside0 (St w w1 A0 c0 l0 n0 g3) := ⟨⟨hbox, Kd.C_below HR0.out hb, by rw [hg]; exact Nat.le_refl _, hb⟩⟩; clear hb hbox hg; have h30 := HS.out.c0; have h31 := HS.out.c1)
    | ((with_reducible refine gate_dst (N := 6) rfl ?_); refine box_event ?hg (N := 6) ?hd (cs := #[.slice none 0 0, .int .i64 0]) (t := 28) ?hr ?_; (case hd => rfl); (case hg => rfl); (case hr => first | (go_simp; done) | (go_simp; rfl)); intro g6 hg w2 hbox hb; have HT : Aside0 (Rs w w2 g6) := ⟨⟨hbox, by rw [hg]; exact below_size HS.out.below⟩⟩; have HN : g3 ≠ g6 := (by rw [hg]; exact Nat.ne_of_lt (blk_lt HS.out.blk)); have HN2 : g6 ≠ g3 := Ne.symm HN; replace HS := Aside0.mk (HS.out.step hb); clear hb hbox hg h30 h31; have h30 := HS.out.c0; have h31 := HS.out.c1; have h60 := HT.out.c0; have h61 := HT.out.c1; have f60 := blk_frozen HT.out.blk 0; have f61 := blk_frozen HT.out.blk 1)
    | (go_at_call 33; refine (bits_Valid.calls A0 c0 l0 n0 true _ HS.out.read HC0.out HV.out).mono ?_; rintro e w3 ⟨rfl, hb⟩; replace HS := Aside0.mk (HS.out.step hb); replace HT := Aside0.mk (HT.out.step hb); clear hb; clear h30 h31 h60 h61 f60 f61; have h30 := HS.out.c0; have h31 := HS.out.c1; have h60 := HT.out.c0; have h61 := HT.out.c1; have f60 := blk_frozen HT.out.blk 0; have f61 := blk_frozen HT.out.blk 1)
    | (go_at_call 39; refine (bits_width.calls (k : Int) true _ HW.out).mono ?_; rintro e w3 ⟨rfl, hd⟩; have hb := hd.below; clear hd; replace HS := Aside0.mk (HS.out.step hb); replace HT := Aside0.mk (HT.out.step hb); clear hb; clear h30 h31 h60 h61 f60 f61; have h30 := HS.out.c0; have h31 := HS.out.c1; have h60 := HT.out.c0; have h61 := HT.out.c1; have f60 := blk_frozen HT.out.blk 0; have f61 := blk_frozen HT.out.blk 1))
  refine bodyPost_ret (results_ct rfl _ _ g6 28 #[.slice none 0 0, .int .i64 0] (0, 0) _ rfl (blk_put (blk_put HT.out.blk 0 _ rfl) 1 _ rfl) Try.underlying28 rfl (by kernel_rfl)) rfl ?_
  exact ⟨_, rfl, Kd.R_nil _ _ _ _ _, below_set (below_set HS.out.below HT.out.ge) HT.out.ge⟩

set_option maxHeartbeats 2000000 in
set_option maxRecDepth 100000 in
theorem append_limit (A0 : Option Addr) (c0 : Nat) (l0 : List Int) (n0 value width : Int) (w : World) (hr0 : Kd.C (Kd.int .u8) w A0 l0.length l0) (hc0 : l0.length ≤ c0) (k : Nat) (hk : width = (k : Int)) (hk24 : k ≤ 24) (hv : bits_Valid.f l0 n0 = some true) (hw : bits_width.f width = some true) (hx : decide (value < 0) = false) (hy : decide (wrap64 ((2 : Int) ^ k) ≤ value) = false) (hn0 : 0 ≤ n0) (hn1 : n0 ≤ 40000) (hz : decide (40000 < n0 + (k : Int)) = true) :
    Calls Try.prog 18 #[.agg #[.slice A0 l0.length c0, .int .i64 n0], .int .i64 value, .int .i64 width] w fun e w' => ∃ v0_ : Value, e = .returned (.tuple #[.agg #[v0_, .int .i64 0], .int .i64 2]) ∧ Kd.R (Kd.int .u8) 5 w' w.heap.size (fun _ => True) v0_ [] ∧ Below w.heap.size w w' := by
  subst hk
  have hk0 : (0 : Int) ≤ (k : Int) := by omega
  have hk1 : (k : Int) ≤ 24 := by omega
  have hu28 := Try.underlying28
  have hu64 := Try.underlying64
  have HR0 := Aside0.mk hr0
  have HC0 := Aside0.mk hc0
  have HV := Aside0.mk hv
  clear hr0 hc0 hv
  have HW := Aside0.mk hw
  clear hw
  go_enter Try.func18, Try.ntmps18
  go_wp2_with (first
    | ((with_reducible refine gate_dst (N := 3) rfl ?_); refine box_event ?hg (N := 3) ?hd (cs := #[.slice A0 l0.length c0, .int .i64 n0]) (t := 28) ?hr ?_; (case hd => rfl); (case hg => rfl); (case hr => first | (go_simp; done) | (go_simp; rfl)); intro g3 hg w1 hbox hb; have HS : Aside0 (St w w1 A0 c0 l0 n0 g3) := ⟨⟨hbox, Kd.C_below HR0.out hb, by rw [hg]; exact Nat.le_refl _, hb⟩⟩; clear hb hbox hg; have h30 := HS.out.c0; have h31 := HS.out.c1)
    | ((with_reducible refine gate_dst (N := 6) rfl ?_); refine box_event ?hg (N := 6) ?hd (cs := #[.slice none 0 0, .int .i64 0]) (t := 28) ?hr ?_; (case hd => rfl); (case hg => rfl); (case hr => first | (go_simp; done) | (go_simp; rfl)); intro g6 hg w2 hbox hb; have HT : Aside0 (Rs w w2 g6) := ⟨⟨hbox, by rw [hg]; exact below_size HS.out.below⟩⟩; have HN : g3 ≠ g6 := (by rw [hg]; exact Nat.ne_of_lt (blk_lt HS.out.blk)); have HN2 : g6 ≠ g3 := Ne.symm HN; replace HS := Aside0.mk (HS.out.step hb); clear hb hbox hg h30 h31; have h30 := HS.out.c0; have h31 := HS.out.c1; have h60 := HT.out.c0; have h61 := HT.out.c1; have f60 := blk_frozen HT.out.blk 0; have f61 := blk_frozen HT.out.blk 1)
    | (go_at_call 33; refine (bits_Valid.calls A0 c0 l0 n0 true _ HS.out.read HC0.out HV.out).mono ?_; rintro e w3 ⟨rfl, hb⟩; replace HS := Aside0.mk (HS.out.step hb); replace HT := Aside0.mk (HT.out.step hb); clear hb; clear h30 h31 h60 h61 f60 f61; have h30 := HS.out.c0; have h31 := HS.out.c1; have h60 := HT.out.c0; have h61 := HT.out.c1; have f60 := blk_frozen HT.out.blk 0; have f61 := blk_frozen HT.out.blk 1)
    | (go_at_call 39; refine (bits_width.calls (k : Int) true _ HW.out).mono ?_; rintro e w3 ⟨rfl, hd⟩; have hb := hd.below; clear hd; replace HS := Aside0.mk (HS.out.step hb); replace HT := Aside0.mk (HT.out.step hb); clear hb; clear h30 h31 h60 h61 f60 f61; have h30 := HS.out.c0; have h31 := HS.out.c1; have h60 := HT.out.c0; have h61 := HT.out.c1; have f60 := blk_frozen HT.out.blk 0; have f61 := blk_frozen HT.out.blk 1))
  refine bodyPost_ret (results_ct rfl _ _ g6 28 #[.slice none 0 0, .int .i64 0] (0, 0) _ rfl (blk_put (blk_put HT.out.blk 0 _ rfl) 1 _ rfl) Try.underlying28 rfl (by kernel_rfl)) rfl ?_
  exact ⟨_, rfl, Kd.R_nil _ _ _ _ _, below_set (below_set HS.out.below HT.out.ge) HT.out.ge⟩

set_option maxHeartbeats 2000000 in
set_option maxRecDepth 100000 in
theorem append_ok (A0 : Option Addr) (c0 : Nat) (bs cs : List Bool) (val k : Nat) (hcs : cs = bs ++ bitsOf val k) (w : World) (hr0 : Kd.C (Kd.int .u8) w A0 (pack bs).length (pack bs)) (hc0 : (pack bs).length ≤ c0) (hv : bits_Valid.f (pack bs) (bs.length : Int) = some true) (hk24 : k ≤ 24) (hk1' : 1 ≤ k) (hval : val < 9223372036854775808) (hy : decide (wrap64 ((2 : Int) ^ k) ≤ (val : Int)) = false) (hlim : bs.length + k ≤ 40000) :
    Calls Try.prog 18 #[.agg #[.slice A0 (pack bs).length c0, .int .i64 (bs.length : Int)], .int .i64 (val : Int), .int .i64 (k : Int)] w fun e w' => ∃ v0_ : Value, e = .returned (.tuple #[.agg #[v0_, .int .i64 (cs.length : Int)], .int .i64 0]) ∧ Kd.R (Kd.int .u8) 5 w' w.heap.size (fun _ => True) v0_ (pack cs) ∧ Below w.heap.size w w' := by
  have hw : bits_width.f (k : Int) = some true := by unfold bits_width.f; rw [if_pos (by omega)]; simp; omega
  have hk0 : (0 : Int) ≤ (k : Int) := by omega
  have hk1 : (k : Int) ≤ 24 := by omega
  have hx : decide ((val : Int) < 0) = false := decide_eq_false (by omega)
  have hz : decide (40000 < (bs.length : Int) + (k : Int)) = false := decide_eq_false (by omega)
  have HCS := Aside0.mk hcs
  clear hcs
  have hu28 := Try.underlying28
  have hu64 := Try.underlying64
  have HR0 := Aside0.mk hr0
  have HC0 := Aside0.mk hc0
  have HV := Aside0.mk hv
  clear hr0 hc0 hv
  have HW := Aside0.mk hw
  clear hw
  go_enter Try.func18, Try.ntmps18
  go_wp2_with (first
    | ((with_reducible refine gate_dst (N := 3) rfl ?_); refine box_event ?hg (N := 3) ?hd (cs := #[.slice A0 (pack bs).length c0, .int .i64 (bs.length : Int)]) (t := 28) ?hr ?_; (case hd => rfl); (case hg => rfl); (case hr => first | (go_simp; done) | (go_simp; rfl)); intro g3 hg w1 hbox hb; have HS : Aside0 (St w w1 A0 c0 (pack bs) (bs.length : Int) g3) := ⟨⟨hbox, Kd.C_below HR0.out hb, by rw [hg]; exact Nat.le_refl _, hb⟩⟩; clear hb hbox hg; have h30 := HS.out.c0; have h31 := HS.out.c1)
    | ((with_reducible refine gate_dst (N := 6) rfl ?_); refine box_event ?hg (N := 6) ?hd (cs := #[.slice none 0 0, .int .i64 0]) (t := 28) ?hr ?_; (case hd => rfl); (case hg => rfl); (case hr => first | (go_simp; done) | (go_simp; rfl)); intro g6 hg w2 hbox hb; have HT : Aside0 (Rs w w2 g6) := ⟨⟨hbox, by rw [hg]; exact below_size HS.out.below⟩⟩; have HN : g3 ≠ g6 := (by rw [hg]; exact Nat.ne_of_lt (blk_lt HS.out.blk)); have HN2 : g6 ≠ g3 := Ne.symm HN; replace HS := Aside0.mk (HS.out.step hb); clear hb hbox hg h30 h31; have h30 := HS.out.c0; have h31 := HS.out.c1; have h60 := HT.out.c0; have h61 := HT.out.c1; have f60 := blk_frozen HT.out.blk 0; have f61 := blk_frozen HT.out.blk 1)
    | (go_at_call 33; refine (bits_Valid.calls A0 c0 (pack bs) (bs.length : Int) true _ HS.out.read HC0.out HV.out).mono ?_; rintro e w3 ⟨rfl, hb⟩; replace HS := Aside0.mk (HS.out.step hb); replace HT := Aside0.mk (HT.out.step hb); clear hb; clear h30 h31 h60 h61 f60 f61; have h30 := HS.out.c0; have h31 := HS.out.c1; have h60 := HT.out.c0; have h61 := HT.out.c1; have f60 := blk_frozen HT.out.blk 0; have f61 := blk_frozen HT.out.blk 1)
    | (go_at_call 39; refine (bits_width.calls (k : Int) true _ HW.out).mono ?_; rintro e w3 ⟨rfl, hd⟩; have hb := hd.below; clear hd; replace HS := Aside0.mk (HS.out.step hb); replace HT := Aside0.mk (HT.out.step hb); clear hb; clear h30 h31 h60 h61 f60 f61; have h30 := HS.out.c0; have h31 := HS.out.c1; have h60 := HT.out.c0; have h61 := HT.out.c1; have f60 := blk_frozen HT.out.blk 0; have f61 := blk_frozen HT.out.blk 1)
    | (go_at_call 36; refine (Ba.copied_calls A0 c0 (pack bs) (bs.length : Int) _ HS.out.read HC0.out (by rw [pack_length]; omega)).mono ?_; rintro e w4 ⟨g, v, rfl, hblk, hrow, hge, hb⟩; have HR := Aside0.mk (Wr.mk hblk (Kd.R_lower hrow (below_size HS.out.below)) (Nat.le_trans (below_size HS.out.below) hge) (below_step HS.out.below hb) : Wr w w4 g v bs); have N3 : Aside0 (g3 ≠ g ∧ g6 ≠ g) := ⟨by have := blk_lt HS.out.blk; have := blk_lt HT.out.blk; omega⟩; replace HS := Aside0.mk (HS.out.step hb); replace HT := Aside0.mk (HT.out.step hb); clear hblk hrow hge hb; clear h30 h31 h60 h61 f60 f61; have h30 := HS.out.c0; have h31 := HS.out.c1; have h60 := HT.out.c0; have h61 := HT.out.c1; have f60 := blk_frozen HT.out.blk 0; have f61 := blk_frozen HT.out.blk 1)
    | (go_at_call 37; refine (write_calls w _ g v bs val k HR.out hval hk24 (by omega)).mono ?_; rintro e w5 ⟨rfl, ⟨v2, hr2⟩, hkb⟩; rw [← HCS.out] at hr2; have HR2 := Aside0.mk hr2; have B6 := Aside0.mk (hkb g6 _ 28 (by decide) N3.out.2 HT.out.blk); have GE6 := Aside0.mk HT.out.ge; clear hr2 hkb HS HT; clear h30 h31 h60 h61 f60 f61; obtain ⟨A2, c2, eo2⟩ := Kd.R_slice HR2.out.row; subst eo2; have hg0 : w5.cell? ⟨g, 0, none⟩ = some (.slice A2 (pack cs).length c2) := (blk_cell HR2.out.blk 0).trans rfl; have hg1 : w5.cell? ⟨g, 1, none⟩ = some (.int .i64 (cs.length : Int)) := (blk_cell HR2.out.blk 1).trans rfl; have h60 : w5.cell? ⟨g6, 0, none⟩ = some (.slice none 0 0) := (blk_cell B6.out 0).trans rfl; have h61 : w5.cell? ⟨g6, 1, none⟩ = some (.int .i64 0) := (blk_cell B6.out 1).trans rfl; have f60 := blk_frozen B6.out 0; have f61 := blk_frozen B6.out 1))
  refine bodyPost_ret (results_ct rfl _ _ g6 28 #[.slice A2 (pack cs).length c2, .int .i64 (cs.length : Int)] (0, 0) _ rfl (blk_put (blk_put B6.out 0 _ rfl) 1 _ rfl) Try.underlying28 rfl (by kernel_rfl)) rfl ?_
  exact ⟨_, rfl, row_far (row_far HR2.out.row B6.out 0 _) (blk_put B6.out 0 _ rfl) 1 _, below_set (below_set HR2.out.below GE6.out) GE6.out⟩

set_option maxHeartbeats 2000000 in
set_option maxRecDepth 100000 in
theorem pad_state (A0 : Option Addr) (c0 : Nat) (l0 : List Int) (n0 : Int) (w : World) (hr0 : Kd.C (Kd.int .u8) w A0 l0.length l0) (hc0 : l0.length ≤ c0) (sz : Int) (hsz : bits_size.f n0 = some sz) (hv : bits_Valid.f l0 n0 = some false) :
    Calls Try.prog 12 #[.agg #[.slice A0 l0.length c0, .int .i64 n0]] w fun e w' => ∃ v0_ : Value, e = .returned (.tuple #[.agg #[v0_, .int .i64 0], .int .i64 7]) ∧ Kd.R (Kd.int .u8) 5 w' w.heap.size (fun _ => True) v0_ [] ∧ Below w.heap.size w w' := by
  have hu28 := Try.underlying28
  have hu64 := Try.underlying64
  have HR0 := Aside0.mk hr0
  have HC0 := Aside0.mk hc0
  have HV := Aside0.mk hv
  clear hr0 hc0 hv
  have HZ := Aside0.mk hsz
  clear hsz
  go_enter Try.func12, Try.ntmps12
  go_wp2_with (first
    | ((with_reducible refine gate_dst (N := 1) rfl ?_); refine box_event ?hg (N := 1) ?hd (cs := #[.slice A0 l0.length c0, .int .i64 n0]) (t := 28) ?hr ?_; (case hd => rfl); (case hg => rfl); (case hr => first | (go_simp; done) | (go_simp; rfl)); intro g3 hg w1 hbox hb; have HS : Aside0 (St w w1 A0 c0 l0 n0 g3) := ⟨⟨hbox, Kd.C_below HR0.out hb, by rw [hg]; exact Nat.le_refl _, hb⟩⟩; clear hb hbox hg; have h30 := HS.out.c0; have h31 := HS.out.c1)
    | ((with_reducible refine gate_dst (N := 2) rfl ?_); refine box_event ?hg (N := 2) ?hd (cs := #[.slice none 0 0, .int .i64 0]) (t := 28) ?hr ?_; (case hd => rfl); (case hg => rfl); (case hr => first | (go_simp; done) | (go_simp; rfl)); intro g6 hg w2 hbox hb; have HT : Aside0 (Rs w w2 g6) := ⟨⟨hbox, by rw [hg]; exact below_size HS.out.below⟩⟩; have HN : g3 ≠ g6 := (by rw [hg]; exact Nat.ne_of_lt (blk_lt HS.out.blk)); have HN2 : g6 ≠ g3 := Ne.symm HN; replace HS := Aside0.mk (HS.out.step hb); clear hb hbox hg h30 h31; have h30 := HS.out.c0; have h31 := HS.out.c1; have h60 := HT.out.c0; have h61 := HT.out.c1; have f60 := blk_frozen HT.out.blk 0; have f61 := blk_frozen HT.out.blk 1)
    | (go_at_call 35; refine (bits_size.calls n0 sz _ HZ.out).mono ?_; rintro e w3 ⟨rfl, hd⟩; have hb := hd.below; clear hd; replace HS := Aside0.mk (HS.out.step hb); replace HT := Aside0.mk (HT.out.step hb); clear hb; clear h30 h31 h60 h61 f60 f61; have h30 := HS.out.c0; have h31 := HS.out.c1; have h60 := HT.out.c0; have h61 := HT.out.c1; have f60 := blk_frozen HT.out.blk 0; have f61 := blk_frozen HT.out.blk 1)
    | (go_at_call 33; refine (bits_Valid.calls A0 c0 l0 n0 false _ HS.out.read HC0.out HV.out).mono ?_; rintro e w3 ⟨rfl, hb⟩; replace HS := Aside0.mk (HS.out.step hb); replace HT := Aside0.mk (HT.out.step hb); clear hb; clear h30 h31 h60 h61 f60 f61; have h30 := HS.out.c0; have h31 := HS.out.c1; have h60 := HT.out.c0; have h61 := HT.out.c1; have f60 := blk_frozen HT.out.blk 0; have f61 := blk_frozen HT.out.blk 1))
  refine bodyPost_ret (results_ct rfl _ _ g6 28 #[.slice none 0 0, .int .i64 0] (0, 0) _ rfl (blk_put (blk_put HT.out.blk 0 _ rfl) 1 _ rfl) Try.underlying28 rfl (by kernel_rfl)) rfl ?_
  exact ⟨_, rfl, Kd.R_nil _ _ _ _ _, below_set (below_set HS.out.below HT.out.ge) HT.out.ge⟩

set_option maxHeartbeats 2000000 in
set_option maxRecDepth 100000 in
theorem pad_ok (A0 : Option Addr) (c0 : Nat) (bs : List Bool) (w : World) (hr0 : Kd.C (Kd.int .u8) w A0 (pack bs).length (pack bs)) (hc0 : (pack bs).length ≤ c0) (hv : bits_Valid.f (pack bs) (bs.length : Int) = some true) (hlim : bs.length ≤ 40000) (q : Nat) (hq : q = (bs.length + 7) / 8) :
    Calls Try.prog 12 #[.agg #[.slice A0 (pack bs).length c0, .int .i64 (bs.length : Int)]] w fun e w' => ∃ v0_ : Value, e = .returned (.tuple #[.agg #[v0_, .int .i64 ((q : Int) * 8)], .int .i64 0]) ∧ Kd.R (Kd.int .u8) 5 w' w.heap.size (fun _ => True) v0_ (pack bs) ∧ Below w.heap.size w w' := by
  have hsz : bits_size.f (bs.length : Int) = some (q : Int) := by rw [hq]; exact size_nat hlim
  have hq5 : (q : Int) ≤ 5000 := by omega
  have hq0 : (0 : Int) ≤ (q : Int) := by omega
  clear hq
  have hu28 := Try.underlying28
  have hu64 := Try.underlying64
  have HR0 := Aside0.mk hr0
  have HC0 := Aside0.mk hc0
  have HV := Aside0.mk hv
  clear hr0 hc0 hv
  have HZ := Aside0.mk hsz
  clear hsz
  go_enter Try.func12, Try.ntmps12
  go_wp2_with (first
    | ((with_reducible refine gate_dst (N := 1) rfl ?_); refine box_event ?hg (N := 1) ?hd (cs := #[.slice A0 (pack bs).length c0, .int .i64 (bs.length : Int)]) (t := 28) ?hr ?_; (case hd => rfl); (case hg => rfl); (case hr => first | (go_simp; done) | (go_simp; rfl)); intro g3 hg w1 hbox hb; have HS : Aside0 (St w w1 A0 c0 (pack bs) (bs.length : Int) g3) := ⟨⟨hbox, Kd.C_below HR0.out hb, by rw [hg]; exact Nat.le_refl _, hb⟩⟩; clear hb hbox hg; have h30 := HS.out.c0; have h31 := HS.out.c1)
    | ((with_reducible refine gate_dst (N := 2) rfl ?_); refine box_event ?hg (N := 2) ?hd (cs := #[.slice none 0 0, .int .i64 0]) (t := 28) ?hr ?_; (case hd => rfl); (case hg => rfl); (case hr => first | (go_simp; done) | (go_simp; rfl)); intro g6 hg w2 hbox hb; have HT : Aside0 (Rs w w2 g6) := ⟨⟨hbox, by rw [hg]; exact below_size HS.out.below⟩⟩; have HN : g3 ≠ g6 := (by rw [hg]; exact Nat.ne_of_lt (blk_lt HS.out.blk)); have HN2 : g6 ≠ g3 := Ne.symm HN; replace HS := Aside0.mk (HS.out.step hb); clear hb hbox hg h30 h31; have h30 := HS.out.c0; have h31 := HS.out.c1; have h60 := HT.out.c0; have h61 := HT.out.c1; have f60 := blk_frozen HT.out.blk 0; have f61 := blk_frozen HT.out.blk 1)
    | (go_at_call 35; refine (bits_size.calls (bs.length : Int) (q : Int) _ HZ.out).mono ?_; rintro e w3 ⟨rfl, hd⟩; have hb := hd.below; clear hd; replace HS := Aside0.mk (HS.out.step hb); replace HT := Aside0.mk (HT.out.step hb); clear hb; clear h30 h31 h60 h61 f60 f61; have h30 := HS.out.c0; have h31 := HS.out.c1; have h60 := HT.out.c0; have h61 := HT.out.c1; have f60 := blk_frozen HT.out.blk 0; have f61 := blk_frozen HT.out.blk 1)
    | (go_at_call 33; refine (bits_Valid.calls A0 c0 (pack bs) (bs.length : Int) true _ HS.out.read HC0.out HV.out).mono ?_; rintro e w3 ⟨rfl, hb⟩; replace HS := Aside0.mk (HS.out.step hb); replace HT := Aside0.mk (HT.out.step hb); clear hb; clear h30 h31 h60 h61 f60 f61; have h30 := HS.out.c0; have h31 := HS.out.c1; have h60 := HT.out.c0; have h61 := HT.out.c1; have f60 := blk_frozen HT.out.blk 0; have f61 := blk_frozen HT.out.blk 1)
    | (go_at_call 36; refine (Ba.copied_calls A0 c0 (pack bs) (bs.length : Int) _ HS.out.read HC0.out (by rw [pack_length]; omega)).mono ?_; rintro e w4 ⟨g, v, rfl, hblk, hrow, hge, hb⟩; have HR := Aside0.mk (Wr.mk hblk (Kd.R_lower hrow (below_size HS.out.below)) (Nat.le_trans (below_size HS.out.below) hge) (below_step HS.out.below hb) : Wr w w4 g v bs); have N3 : Aside0 (g3 ≠ g ∧ g6 ≠ g) := ⟨by have := blk_lt HS.out.blk; have := blk_lt HT.out.blk; omega⟩; replace HS := Aside0.mk (HS.out.step hb); replace HT := Aside0.mk (HT.out.step hb); have HBK := Aside0.mk hblk; have HRW := Aside0.mk hrow; have HGE := Aside0.mk HR.out.ge; have hn3 := N3.out.1; have hn6 := N3.out.2; have hn6' : g ≠ g6 := Ne.symm N3.out.2; obtain ⟨A2, c2, eo2⟩ := Kd.R_slice HRW.out; subst eo2; have hg0 : w4.cell? ⟨g, 0, none⟩ = some (.slice A2 (pack bs).length c2) := (blk_cell HBK.out 0).trans rfl; have hg1 : w4.cell? ⟨g, 1, none⟩ = some (.int .i64 (bs.length : Int)) := (blk_cell HBK.out 1).trans rfl; have fg0 := blk_frozen HBK.out 0; have fg1 := blk_frozen HBK.out 1; clear hblk hrow hge hb; clear h30 h31 h60 h61 f60 f61; have h30 := HS.out.c0; have h31 := HS.out.c1; have h60 := HT.out.c0; have h61 := HT.out.c1; have f60 := blk_frozen HT.out.blk 0; have f61 := blk_frozen HT.out.blk 1))
  have hblk2 : (w4.setCell ⟨g, 1, none⟩ (.int .i64 ((q : Int) * 8))).heap[g6]? = some (.cells #[.slice none 0 0, .int .i64 0] 28 (0, 0)) := blk_far HT.out.blk hn6 _
  refine bodyPost_ret (results_ct rfl _ _ g6 28 #[.slice A2 (pack bs).length c2, .int .i64 ((q : Int) * 8)] (0, 0) _ rfl (blk_put (blk_put hblk2 0 _ rfl) 1 _ rfl) Try.underlying28 rfl (by kernel_rfl)) rfl ?_
  have hrow2 : Kd.R (Kd.int .u8) 5 (w4.setCell ⟨g, 1, none⟩ (.int .i64 ((q : Int) * 8))) w.heap.size (fun _ => True) (.slice A2 (pack bs).length c2) (pack bs) := row_far' HR.out.row HBK.out 1 _
  exact ⟨_, rfl, row_far (row_far hrow2 hblk2 0 _) (blk_put hblk2 0 _ rfl) 1 _, below_set (below_set (below_set HS.out.below HGE.out) HT.out.ge) HT.out.ge⟩

set_option maxHeartbeats 2000000 in
set_option maxRecDepth 100000 in
theorem join_first (A0 : Option Addr) (c0 : Nat) (l0 : List Int) (n0 : Int) (A1 : Option Addr) (c1 : Nat) (l1 : List Int) (n1 : Int) (w : World) (hr0 : Kd.C (Kd.int .u8) w A0 l0.length l0) (hc0 : l0.length ≤ c0) (hr1 : Kd.C (Kd.int .u8) w A1 l1.length l1) (hc1 : l1.length ≤ c1) (hv : bits_Valid.f l0 n0 = some false) :
    Calls Try.prog 17 #[.agg #[.slice A0 l0.length c0, .int .i64 n0], .agg #[.slice A1 l1.length c1, .int .i64 n1]] w fun e w' => ∃ v0_ : Value, e = .returned (.tuple #[.agg #[v0_, .int .i64 0], .int .i64 7]) ∧ Kd.R (Kd.int .u8) 5 w' w.heap.size (fun _ => True) v0_ [] ∧ Below w.heap.size w w' := by
  have hu28 := Try.underlying28
  have hu64 := Try.underlying64
  have HR0 := Aside0.mk hr0
  have HC0 := Aside0.mk hc0
  have HV := Aside0.mk hv
  clear hr0 hc0 hv
  have HR1 := Aside0.mk hr1
  clear hr1 hc1
  go_enter Try.func17, Try.ntmps17
  go_wp2_with (first
    | ((with_reducible refine gate_dst (N := 2) rfl ?_); refine box_event ?hg (N := 2) ?hd (cs := #[.slice A0 l0.length c0, .int .i64 n0]) (t := 28) ?hr ?_; (case hd => rfl); (case hg => rfl); (case hr => first | (go_simp; done) | (go_simp; rfl)); intro g3 hg w1 hbox hb; have HS : Aside0 (St w w1 A0 c0 l0 n0 g3) := ⟨⟨hbox, Kd.C_below HR0.out hb, by rw [hg]; exact Nat.le_refl _, hb⟩⟩; clear hb hbox hg; have h30 := HS.out.c0; have h31 := HS.out.c1)
    | ((with_reducible refine gate_dst (N := 3) rfl ?_); refine box_event ?hg (N := 3) ?hd (cs := #[.slice A1 l1.length c1, .int .i64 n1]) (t := 28) ?hr ?_; (case hd => rfl); (case hg => rfl); (case hr => first | (go_simp; done) | (go_simp; rfl)); intro g4 hg w1b hbox hb; have HU : Aside0 (St w w1b A1 c1 l1 n1 g4) := ⟨⟨hbox, Kd.C_below (Kd.C_below HR1.out HS.out.below) hb, by rw [hg]; exact below_size HS.out.below, below_step HS.out.below hb⟩⟩; have HN34 : g3 ≠ g4 := (by rw [hg]; exact Nat.ne_of_lt (blk_lt HS.out.blk)); replace HS := Aside0.mk (HS.out.step hb); clear hb hbox hg h30 h31; have h30 := HS.out.c0; have h31 := HS.out.c1; have h40 := HU.out.c0; have h41 := HU.out.c1)
    | ((with_reducible refine gate_dst (N := 4) rfl ?_); refine box_event ?hg (N := 4) ?hd (cs := #[.slice none 0 0, .int .i64 0]) (t := 28) ?hr ?_; (case hd => rfl); (case hg => rfl); (case hr => first | (go_simp; done) | (go_simp; rfl)); intro g6 hg w2 hbox hb; have HT : Aside0 (Rs w w2 g6) := ⟨⟨hbox, by rw [hg]; exact below_size HS.out.below⟩⟩; have HN : g3 ≠ g6 := (by rw [hg]; exact Nat.ne_of_lt (blk_lt HS.out.blk)); have HN2 : g6 ≠ g3 := Ne.symm HN; have HN3 : g4 ≠ g6 := (by rw [hg]; exact Nat.ne_of_lt (blk_lt HU.out.blk)); have HN4 : g6 ≠ g4 := Ne.symm HN3; replace HS := Aside0.mk (HS.out.step hb); replace HU := Aside0.mk (HU.out.step hb); clear hb hbox hg h30 h31 h40 h41; have h30 := HS.out.c0; have h31 := HS.out.c1; have h40 := HU.out.c0; have h41 := HU.out.c1; have h60 := HT.out.c0; have h61 := HT.out.c1; have f60 := blk_frozen HT.out.blk 0; have f61 := blk_frozen HT.out.blk 1)
    | fail)
  refine (bits_Valid.calls A0 c0 l0 n0 false _ HS.out.read HC0.out HV.out).mono ?_
  rintro e w3 ⟨rfl, hb⟩
  replace HS := Aside0.mk (HS.out.step hb)
  replace HU := Aside0.mk (HU.out.step hb)
  replace HT := Aside0.mk (HT.out.step hb)
  clear hb
  clear h30 h31 h40 h41 h60 h61 f60 f61
  have h30 := HS.out.c0
  have h31 := HS.out.c1
  have h40 := HU.out.c0
  have h41 := HU.out.c1
  have h60 := HT.out.c0
  have h61 := HT.out.c1
  have f60 := blk_frozen HT.out.blk 0
  have f61 := blk_frozen HT.out.blk 1
  go_wp2
  refine bodyPost_ret (results_ct rfl _ _ g6 28 #[.slice none 0 0, .int .i64 0] (0, 0) _ rfl (blk_put (blk_put HT.out.blk 0 _ rfl) 1 _ rfl) Try.underlying28 rfl (by kernel_rfl)) rfl ?_
  exact ⟨_, rfl, Kd.R_nil _ _ _ _ _, below_set (below_set HS.out.below HT.out.ge) HT.out.ge⟩

set_option maxHeartbeats 2000000 in
set_option maxRecDepth 100000 in
theorem join_second (A0 : Option Addr) (c0 : Nat) (l0 : List Int) (n0 : Int) (A1 : Option Addr) (c1 : Nat) (l1 : List Int) (n1 : Int) (w : World) (hr0 : Kd.C (Kd.int .u8) w A0 l0.length l0) (hc0 : l0.length ≤ c0) (hr1 : Kd.C (Kd.int .u8) w A1 l1.length l1) (hc1 : l1.length ≤ c1) (hv : bits_Valid.f l0 n0 = some true) (hv1 : bits_Valid.f l1 n1 = some false) :
    Calls Try.prog 17 #[.agg #[.slice A0 l0.length c0, .int .i64 n0], .agg #[.slice A1 l1.length c1, .int .i64 n1]] w fun e w' => ∃ v0_ : Value, e = .returned (.tuple #[.agg #[v0_, .int .i64 0], .int .i64 7]) ∧ Kd.R (Kd.int .u8) 5 w' w.heap.size (fun _ => True) v0_ [] ∧ Below w.heap.size w w' := by
  have hu28 := Try.underlying28
  have hu64 := Try.underlying64
  have HR0 := Aside0.mk hr0
  have HC0 := Aside0.mk hc0
  have HV := Aside0.mk hv
  clear hr0 hc0 hv
  have HR1 := Aside0.mk hr1
  have HC1 := Aside0.mk hc1
  have HV1 := Aside0.mk hv1
  clear hr1 hc1 hv1
  go_enter Try.func17, Try.ntmps17
  go_wp2_with (first
    | ((with_reducible refine gate_dst (N := 2) rfl ?_); refine box_event ?hg (N := 2) ?hd (cs := #[.slice A0 l0.length c0, .int .i64 n0]) (t := 28) ?hr ?_; (case hd => rfl); (case hg => rfl); (case hr => first | (go_simp; done) | (go_simp; rfl)); intro g3 hg w1 hbox hb; have HS : Aside0 (St w w1 A0 c0 l0 n0 g3) := ⟨⟨hbox, Kd.C_below HR0.out hb, by rw [hg]; exact Nat.le_refl _, hb⟩⟩; clear hb hbox hg; have h30 := HS.out.c0; have h31 := HS.out.c1)
    | ((with_reducible refine gate_dst (N := 3) rfl ?_); refine box_event ?hg (N := 3) ?hd (cs := #[.slice A1 l1.length c1, .int .i64 n1]) (t := 28) ?hr ?_; (case hd => rfl); (case hg => rfl); (case hr => first | (go_simp; done) | (go_simp; rfl)); intro g4 hg w1b hbox hb; have HU : Aside0 (St w w1b A1 c1 l1 n1 g4) := ⟨⟨hbox, Kd.C_below (Kd.C_below HR1.out HS.out.below) hb, by rw [hg]; exact below_size HS.out.below, below_step HS.out.below hb⟩⟩; have HN34 : g3 ≠ g4 := (by rw [hg]; exact Nat.ne_of_lt (blk_lt HS.out.blk)); replace HS := Aside0.mk (HS.out.step hb); clear hb hbox hg h30 h31; have h30 := HS.out.c0; have h31 := HS.out.c1; have h40 := HU.out.c0; have h41 := HU.out.c1)
    | ((with_reducible refine gate_dst (N := 4) rfl ?_); refine box_event ?hg (N := 4) ?hd (cs := #[.slice none 0 0, .int .i64 0]) (t := 28) ?hr ?_; (case hd => rfl); (case hg => rfl); (case hr => first | (go_simp; done) | (go_simp; rfl)); intro g6 hg w2 hbox hb; have HT : Aside0 (Rs w w2 g6) := ⟨⟨hbox, by rw [hg]; exact below_size HS.out.below⟩⟩; have HN : g3 ≠ g6 := (by rw [hg]; exact Nat.ne_of_lt (blk_lt HS.out.blk)); have HN2 : g6 ≠ g3 := Ne.symm HN; have HN3 : g4 ≠ g6 := (by rw [hg]; exact Nat.ne_of_lt (blk_lt HU.out.blk)); have HN4 : g6 ≠ g4 := Ne.symm HN3; replace HS := Aside0.mk (HS.out.step hb); replace HU := Aside0.mk (HU.out.step hb); clear hb hbox hg h30 h31 h40 h41; have h30 := HS.out.c0; have h31 := HS.out.c1; have h40 := HU.out.c0; have h41 := HU.out.c1; have h60 := HT.out.c0; have h61 := HT.out.c1; have f60 := blk_frozen HT.out.blk 0; have f61 := blk_frozen HT.out.blk 1)
    | fail)
  refine (bits_Valid.calls A0 c0 l0 n0 true _ HS.out.read HC0.out HV.out).mono ?_
  rintro e w3 ⟨rfl, hb⟩
  replace HS := Aside0.mk (HS.out.step hb)
  replace HU := Aside0.mk (HU.out.step hb)
  replace HT := Aside0.mk (HT.out.step hb)
  clear hb
  clear h30 h31 h40 h41 h60 h61 f60 f61
  have h30 := HS.out.c0
  have h31 := HS.out.c1
  have h40 := HU.out.c0
  have h41 := HU.out.c1
  have h60 := HT.out.c0
  have h61 := HT.out.c1
  have f60 := blk_frozen HT.out.blk 0
  have f61 := blk_frozen HT.out.blk 1
  go_wp2_with fail
  refine (bits_Valid.calls A1 c1 l1 n1 false _ HU.out.read HC1.out HV1.out).mono ?_
  rintro e w3 ⟨rfl, hb⟩
  replace HS := Aside0.mk (HS.out.step hb)
  replace HU := Aside0.mk (HU.out.step hb)
  replace HT := Aside0.mk (HT.out.step hb)
  clear hb
  clear h30 h31 h40 h41 h60 h61 f60 f61
  have h30 := HS.out.c0
  have h31 := HS.out.c1
  have h40 := HU.out.c0
  have h41 := HU.out.c1
  have h60 := HT.out.c0
  have h61 := HT.out.c1
  have f60 := blk_frozen HT.out.blk 0
  have f61 := blk_frozen HT.out.blk 1
  go_wp2
  refine bodyPost_ret (results_ct rfl _ _ g6 28 #[.slice none 0 0, .int .i64 0] (0, 0) _ rfl (blk_put (blk_put HT.out.blk 0 _ rfl) 1 _ rfl) Try.underlying28 rfl (by kernel_rfl)) rfl ?_
  exact ⟨_, rfl, Kd.R_nil _ _ _ _ _, below_set (below_set HS.out.below HT.out.ge) HT.out.ge⟩

set_option maxHeartbeats 2000000 in
set_option maxRecDepth 100000 in
theorem join_limit (A0 : Option Addr) (c0 : Nat) (l0 : List Int) (n0 : Int) (A1 : Option Addr) (c1 : Nat) (l1 : List Int) (n1 : Int) (w : World) (hr0 : Kd.C (Kd.int .u8) w A0 l0.length l0) (hc0 : l0.length ≤ c0) (hr1 : Kd.C (Kd.int .u8) w A1 l1.length l1) (hc1 : l1.length ≤ c1) (hv : bits_Valid.f l0 n0 = some true) (hv1 : bits_Valid.f l1 n1 = some true) (hn0 : 0 ≤ n0) (hn1 : n0 ≤ 40000) (hn2 : 0 ≤ n1) (hn3 : n1 ≤ 40000) (hz : decide (40000 < n0 + n1) = true) :
    Calls Try.prog 17 #[.agg #[.slice A0 l0.length c0, .int .i64 n0], .agg #[.slice A1 l1.length c1, .int .i64 n1]] w fun e w' => ∃ v0_ : Value, e = .returned (.tuple #[.agg #[v0_, .int .i64 0], .int .i64 2]) ∧ Kd.R (Kd.int .u8) 5 w' w.heap.size (fun _ => True) v0_ [] ∧ Below w.heap.size w w' := by
  have hu28 := Try.underlying28
  have hu64 := Try.underlying64
  have HR0 := Aside0.mk hr0
  have HC0 := Aside0.mk hc0
  have HV := Aside0.mk hv
  clear hr0 hc0 hv
  have HR1 := Aside0.mk hr1
  have HC1 := Aside0.mk hc1
  have HV1 := Aside0.mk hv1
  clear hr1 hc1 hv1
  go_enter Try.func17, Try.ntmps17
  go_wp2_with (first
    | ((with_reducible refine gate_dst (N := 2) rfl ?_); refine box_event ?hg (N := 2) ?hd (cs := #[.slice A0 l0.length c0, .int .i64 n0]) (t := 28) ?hr ?_; (case hd => rfl); (case hg => rfl); (case hr => first | (go_simp; done) | (go_simp; rfl)); intro g3 hg w1 hbox hb; have HS : Aside0 (St w w1 A0 c0 l0 n0 g3) := ⟨⟨hbox, Kd.C_below HR0.out hb, by rw [hg]; exact Nat.le_refl _, hb⟩⟩; clear hb hbox hg; have h30 := HS.out.c0; have h31 := HS.out.c1)
    | ((with_reducible refine gate_dst (N := 3) rfl ?_); refine box_event ?hg (N := 3) ?hd (cs := #[.slice A1 l1.length c1, .int .i64 n1]) (t := 28) ?hr ?_; (case hd => rfl); (case hg => rfl); (case hr => first | (go_simp; done) | (go_simp; rfl)); intro g4 hg w1b hbox hb; have HU : Aside0 (St w w1b A1 c1 l1 n1 g4) := ⟨⟨hbox, Kd.C_below (Kd.C_below HR1.out HS.out.below) hb, by rw [hg]; exact below_size HS.out.below, below_step HS.out.below hb⟩⟩; have HN34 : g3 ≠ g4 := (by rw [hg]; exact Nat.ne_of_lt (blk_lt HS.out.blk)); replace HS := Aside0.mk (HS.out.step hb); clear hb hbox hg h30 h31; have h30 := HS.out.c0; have h31 := HS.out.c1; have h40 := HU.out.c0; have h41 := HU.out.c1)
    | ((with_reducible refine gate_dst (N := 4) rfl ?_); refine box_event ?hg (N := 4) ?hd (cs := #[.slice none 0 0, .int .i64 0]) (t := 28) ?hr ?_; (case hd => rfl); (case hg => rfl); (case hr => first | (go_simp; done) | (go_simp; rfl)); intro g6 hg w2 hbox hb; have HT : Aside0 (Rs w w2 g6) := ⟨⟨hbox, by rw [hg]; exact below_size HS.out.below⟩⟩; have HN : g3 ≠ g6 := (by rw [hg]; exact Nat.ne_of_lt (blk_lt HS.out.blk)); have HN2 : g6 ≠ g3 := Ne.symm HN; have HN3 : g4 ≠ g6 := (by rw [hg]; exact Nat.ne_of_lt (blk_lt HU.out.blk)); have HN4 : g6 ≠ g4 := Ne.symm HN3; replace HS := Aside0.mk (HS.out.step hb); replace HU := Aside0.mk (HU.out.step hb); clear hb hbox hg h30 h31 h40 h41; have h30 := HS.out.c0; have h31 := HS.out.c1; have h40 := HU.out.c0; have h41 := HU.out.c1; have h60 := HT.out.c0; have h61 := HT.out.c1; have f60 := blk_frozen HT.out.blk 0; have f61 := blk_frozen HT.out.blk 1)
    | fail)
  refine (bits_Valid.calls A0 c0 l0 n0 true _ HS.out.read HC0.out HV.out).mono ?_
  rintro e w3 ⟨rfl, hb⟩
  replace HS := Aside0.mk (HS.out.step hb)
  replace HU := Aside0.mk (HU.out.step hb)
  replace HT := Aside0.mk (HT.out.step hb)
  clear hb
  clear h30 h31 h40 h41 h60 h61 f60 f61
  have h30 := HS.out.c0
  have h31 := HS.out.c1
  have h40 := HU.out.c0
  have h41 := HU.out.c1
  have h60 := HT.out.c0
  have h61 := HT.out.c1
  have f60 := blk_frozen HT.out.blk 0
  have f61 := blk_frozen HT.out.blk 1
  go_wp2_with fail
  refine (bits_Valid.calls A1 c1 l1 n1 true _ HU.out.read HC1.out HV1.out).mono ?_
  rintro e w3 ⟨rfl, hb⟩
  replace HS := Aside0.mk (HS.out.step hb)
  replace HU := Aside0.mk (HU.out.step hb)
  replace HT := Aside0.mk (HT.out.step hb)
  clear hb
  clear h30 h31 h40 h41 h60 h61 f60 f61
  have h30 := HS.out.c0
  have h31 := HS.out.c1
  have h40 := HU.out.c0
  have h41 := HU.out.c1
  have h60 := HT.out.c0
  have h61 := HT.out.c1
  have f60 := blk_frozen HT.out.blk 0
  have f61 := blk_frozen HT.out.blk 1
  go_wp2
  refine bodyPost_ret (results_ct rfl _ _ g6 28 #[.slice none 0 0, .int .i64 0] (0, 0) _ rfl (blk_put (blk_put HT.out.blk 0 _ rfl) 1 _ rfl) Try.underlying28 rfl (by kernel_rfl)) rfl ?_
  exact ⟨_, rfl, Kd.R_nil _ _ _ _ _, below_set (below_set HS.out.below HT.out.ge) HT.out.ge⟩

set_option maxHeartbeats 2000000 in
set_option maxRecDepth 100000 in
theorem join_ok (A0 : Option Addr) (c0 : Nat) (ps : List Bool) (A1 : Option Addr) (c1 : Nat) (bs : List Bool) (w : World) (hr0 : Kd.C (Kd.int .u8) w A0 (pack ps).length (pack ps)) (hc0 : (pack ps).length ≤ c0) (hr1 : Kd.C (Kd.int .u8) w A1 (pack bs).length (pack bs)) (hc1 : (pack bs).length ≤ c1) (hv : bits_Valid.f (pack ps) (ps.length : Int) = some true) (hv1 : bits_Valid.f (pack bs) (bs.length : Int) = some true) (hlim : ps.length + bs.length ≤ 40000)
    (hbit : ∀ i : Nat, i < bs.length → bits_bit.f (pack bs) (bs.length : Int) (i : Int) = some ((bn bs i : Nat) : Int)) :
    Calls Try.prog 17 #[.agg #[.slice A0 (pack ps).length c0, .int .i64 (ps.length : Int)], .agg #[.slice A1 (pack bs).length c1, .int .i64 (bs.length : Int)]] w fun e w' => ∃ v0_ : Value, e = .returned (.tuple #[.agg #[v0_, .int .i64 ((ps ++ bs).length : Int)], .int .i64 0]) ∧ Kd.R (Kd.int .u8) 5 w' w.heap.size (fun _ => True) v0_ (pack (ps ++ bs)) ∧ Below w.heap.size w w' := by
  have hz : decide (40000 < (ps.length : Int) + (bs.length : Int)) = false := decide_eq_false (by omega)
  have hn0 : (ps.length : Int) ≤ 40000 := by omega
  have hn1 : (bs.length : Int) ≤ 40000 := by omega
  have HBIT := Aside0.mk hbit
  clear hbit
  have hu28 := Try.underlying28
  have hu64 := Try.underlying64
  have HR0 := Aside0.mk hr0
  have HC0 := Aside0.mk hc0
  have HV := Aside0.mk hv
  clear hr0 hc0 hv
  have HR1 := Aside0.mk hr1
  have HC1 := Aside0.mk hc1
  have HV1 := Aside0.mk hv1
  clear hr1 hc1 hv1
  go_enter Try.func17, Try.ntmps17
  go_wp2_with (first
    | ((with_reducible refine gate_dst (N := 2) rfl ?_); refine box_event ?hg (N := 2) ?hd (cs := #[.slice A0 (pack ps).length c0, .int .i64 (ps.length : Int)]) (t := 28) ?hr ?_; (case hd => rfl); (case hg => rfl); (case hr => first | (go_simp; done) | (go_simp; rfl)); intro g3 hg w1 hbox hb; have HS : Aside0 (St w w1 A0 c0 (pack ps) (ps.length : Int) g3) := ⟨⟨hbox, Kd.C_below HR0.out hb, by rw [hg]; exact Nat.le_refl _, hb⟩⟩; clear hb hbox hg; have h30 := HS.out.c0; have h31 := HS.out.c1)
    | ((with_reducible refine gate_dst (N := 3) rfl ?_); refine box_event ?hg (N := 3) ?hd (cs := #[.slice A1 (pack bs).length c1, .int .i64 (bs.length : Int)]) (t := 28) ?hr ?_; (case hd => rfl); (case hg => rfl); (case hr => first | (go_simp; done) | (go_simp; rfl)); intro g4 hg w1b hbox hb; have HU : Aside0 (St w w1b A1 c1 (pack bs) (bs.length : Int) g4) := ⟨⟨hbox, Kd.C_below (Kd.C_below HR1.out HS.out.below) hb, by rw [hg]; exact below_size HS.out.below, below_step HS.out.below hb⟩⟩; have HN34 : g3 ≠ g4 := (by rw [hg]; exact Nat.ne_of_lt (blk_lt HS.out.blk)); replace HS := Aside0.mk (HS.out.step hb); clear hb hbox hg h30 h31; have h30 := HS.out.c0; have h31 := HS.out.c1; have h40 := HU.out.c0; have h41 := HU.out.c1)
    | ((with_reducible refine gate_dst (N := 4) rfl ?_); refine box_event ?hg (N := 4) ?hd (cs := #[.slice none 0 0, .int .i64 0]) (t := 28) ?hr ?_; (case hd => rfl); (case hg => rfl); (case hr => first | (go_simp; done) | (go_simp; rfl)); intro g6 hg w2 hbox hb; have HT : Aside0 (Rs w w2 g6) := ⟨⟨hbox, by rw [hg]; exact below_size HS.out.below⟩⟩; have HN : g3 ≠ g6 := (by rw [hg]; exact Nat.ne_of_lt (blk_lt HS.out.blk)); have HN2 : g6 ≠ g3 := Ne.symm HN; have HN3 : g4 ≠ g6 := (by rw [hg]; exact Nat.ne_of_lt (blk_lt HU.out.blk)); have HN4 : g6 ≠ g4 := Ne.symm HN3; replace HS := Aside0.mk (HS.out.step hb); replace HU := Aside0.mk (HU.out.step hb); clear hb hbox hg h30 h31 h40 h41; have h30 := HS.out.c0; have h31 := HS.out.c1; have h40 := HU.out.c0; have h41 := HU.out.c1; have h60 := HT.out.c0; have h61 := HT.out.c1; have f60 := blk_frozen HT.out.blk 0; have f61 := blk_frozen HT.out.blk 1)
    | fail)
  refine (bits_Valid.calls A0 c0 (pack ps) (ps.length : Int) true _ HS.out.read HC0.out HV.out).mono ?_
  rintro e w3 ⟨rfl, hb⟩
  replace HS := Aside0.mk (HS.out.step hb)
  replace HU := Aside0.mk (HU.out.step hb)
  replace HT := Aside0.mk (HT.out.step hb)
  clear hb
  clear h30 h31 h40 h41 h60 h61 f60 f61
  have h30 := HS.out.c0
  have h31 := HS.out.c1
  have h40 := HU.out.c0
  have h41 := HU.out.c1
  have h60 := HT.out.c0
  have h61 := HT.out.c1
  have f60 := blk_frozen HT.out.blk 0
  have f61 := blk_frozen HT.out.blk 1
  go_wp2_with fail
  refine (bits_Valid.calls A1 c1 (pack bs) (bs.length : Int) true _ HU.out.read HC1.out HV1.out).mono ?_
  rintro e w3 ⟨rfl, hb⟩
  replace HS := Aside0.mk (HS.out.step hb)
  replace HU := Aside0.mk (HU.out.step hb)
  replace HT := Aside0.mk (HT.out.step hb)
  clear hb
  clear h30 h31 h40 h41 h60 h61 f60 f61
  have h30 := HS.out.c0
  have h31 := HS.out.c1
  have h40 := HU.out.c0
  have h41 := HU.out.c1
  have h60 := HT.out.c0
  have h61 := HT.out.c1
  have f60 := blk_frozen HT.out.blk 0
  have f61 := blk_frozen HT.out.blk 1
  go_wp2_with (go_at_call 36; refine (Ba.copied_calls A0 c0 (pack ps) (ps.length : Int) _ HS.out.read HC0.out (by rw [pack_length]; omega)).mono ?_; rintro e w4 ⟨g, v, rfl, hblk, hrow, hge, hb⟩; have HR := Aside0.mk (Wr.mk hblk (Kd.R_lower hrow (below_size HS.out.below)) (Nat.le_trans (below_size HS.out.below) hge) (below_step HS.out.below hb) : Wr w w4 g v ps); have N3 : Aside0 (g4 ≠ g ∧ g6 ≠ g) := ⟨by have := blk_lt HU.out.blk; have := blk_lt HT.out.blk; omega⟩; replace HS := Aside0.mk (HS.out.step hb); replace HU := Aside0.mk (HU.out.step hb); replace HT := Aside0.mk (HT.out.step hb); clear hblk hrow hge hb; clear h30 h31 h40 h41 h60 h61 f60 f61; have h30 := HS.out.c0; have h31 := HS.out.c1; have h40 := HU.out.c0; have h41 := HU.out.c1; have h60 := HT.out.c0; have h61 := HT.out.c1; have f60 := blk_frozen HT.out.blk 0; have f61 := blk_frozen HT.out.blk 1)
  have GEU := Aside0.mk HU.out.blk
  have GET := Aside0.mk HT.out
  have W4 := Aside0.mk HR.out
  go_loopg [7, 30, 31, 32, 33, 34, 35, 36, 37, 38] bs.length (fun kq v7 v30 v31 v32 v33 v34 v35 v36 v37 v38 w' => v30 = .int .i64 ((bs.length : Int) - (kq : Int)) ∧ Aside0 (kq ≤ bs.length) ∧ Aside0 (∃ v', Wr w w' g v' (ps ++ bs.take (bs.length - kq))) ∧ Aside0 (KeptBoxes w4 w' g))
  case atStart => exact ⟨by simp, ⟨Nat.le_refl _⟩, ⟨v, by simpa using HR.out⟩, ⟨KeptBoxes.refl _ _⟩⟩
  case round =>
    obtain ⟨rfl, HK, HA, HX⟩ := hrel
    cases gk with
    | zero =>
      obtain ⟨v1, hW⟩ := HA.out
      rw [Nat.sub_zero, List.take_length] at hW
      obtain ⟨cs, hcs⟩ : ∃ cs, cs = ps ++ bs := ⟨_, rfl⟩
      rw [← hcs] at hW
      have HCS := Aside0.mk hcs
      have HR2 := Aside0.mk hW
      clear hcs hW HA
      have hbe : decide ((bs.length : Int) - ((0 : Nat) : Int) < (bs.length : Int)) = false := decide_eq_false (by omega)
      rw [show (bs.length : Int) - ((0 : Nat) : Int) = (bs.length : Int) by omega] at hbe ⊢
      have B6 := Aside0.mk (HX.out g6 _ 28 (by decide) N3.out.2 GET.out.blk)
      have GE6 := Aside0.mk GET.out.ge
      obtain ⟨A2, c2, eo2⟩ := Kd.R_slice HR2.out.row
      subst eo2
      clear h30 h31 h40 h41 h60 h61 f60 f61
      have hg0 : wr.cell? ⟨g, 0, none⟩ = some (.slice A2 (pack cs).length c2) := (blk_cell HR2.out.blk 0).trans rfl
      have hg1 : wr.cell? ⟨g, 1, none⟩ = some (.int .i64 (cs.length : Int)) := (blk_cell HR2.out.blk 1).trans rfl
      have h60 : wr.cell? ⟨g6, 0, none⟩ = some (.slice none 0 0) := (blk_cell B6.out 0).trans rfl
      have h61 : wr.cell? ⟨g6, 1, none⟩ = some (.int .i64 0) := (blk_cell B6.out 1).trans rfl
      have f60 := blk_frozen B6.out 0
      have f61 := blk_frozen B6.out 1
      go_wp2
      rw [← HCS.out]
      refine bodyPost_ret (results_ct rfl _ _ g6 28 #[.slice A2 (pack cs).length c2, .int .i64 (cs.length : Int)] (0, 0) _ rfl (blk_put (blk_put B6.out 0 _ rfl) 1 _ rfl) Try.underlying28 rfl (by kernel_rfl)) rfl ?_
      exact ⟨_, rfl, row_far (row_far HR2.out.row B6.out 0 _) (blk_put B6.out 0 _ rfl) 1 _, below_set (below_set HR2.out.below GE6.out) GE6.out⟩
    | succ r =>
      obtain ⟨i, hi⟩ : ∃ i : Nat, i + (r + 1) = bs.length := ⟨bs.length - (r + 1), by have := HK.out; omega⟩
      obtain ⟨v1, hW⟩ := HA.out
      rw [show bs.length - (r + 1) = i by omega] at hW
      have HI := Aside0.mk hi
      have HR2 := Aside0.mk hW
      have hil : (i : Int) < (bs.length : Int) := by omega
      have hi4 : (i : Int) < 40000 := by omega
      rw [show (bs.length : Int) - ((r + 1 : Nat) : Int) = (i : Int) by omega]
      clear hi hW HA
      have HU2 : Aside0 (St w wr A1 c1 (pack bs) (bs.length : Int) g4) := ⟨⟨HX.out g4 _ 28 (by decide) N3.out.1 GEU.out, Kd.C_below HR1.out HR2.out.below, HU.out.ge, HR2.out.below⟩⟩
      clear h30 h31 h40 h41 h60 h61 f60 f61
      have h40 := HU2.out.c0
      have h41 := HU2.out.c1
      go_wp2_with (first
        | (go_at_call 38; refine (bits_bit.calls A1 c1 (pack bs) (bs.length : Int) (i : Int) ((bn bs i : Nat) : Int) _ HU2.out.read HC1.out (HBIT.out i (by have := HI.out; omega))).mono ?_; rintro e w6 ⟨rfl, hb⟩; have HR3 := Aside0.mk (HR2.out.step hb); have HX3 := Aside0.mk (fun k cs t h1 h2 h3 => blk_below (HX.out k cs t h1 h2 h3) hb : KeptBoxes w4 w6 g); clear hb)
        | (go_at_call 37; refine (write_one w _ g v1 (ps ++ bs.take i) (bn bs i) HR3.out (by have := bn_le bs i; omega) (by have := HI.out; simp; omega)).mono ?_; rintro e w5 ⟨rfl, ⟨v2, hr2⟩, hkb⟩; have HR4 := Aside0.mk hr2; have HX4 := Aside0.mk (KeptBoxes.trans HX3.out hkb); clear hr2 hkb))
      go_roundg r
      case measure => omega
      case rel => exact ⟨by congr 1; have := HI.out; omega, ⟨by have := HK.out; omega⟩, ⟨v2, by rw [show bs.length - r = i + 1 by have := HI.out; omega, take_snoc_bit (by have := HI.out; omega)]; have h := HR4.out; rw [List.append_assoc] at h; exact h⟩, ⟨HX4.out⟩⟩


end Go.Proofs.Yteeamcodapjccaa.Be
