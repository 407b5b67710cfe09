/- The walk of BitsLimit. -/
import Derived.Test.YteeamcodapjccaaBi
namespace Go.Proofs.Yteeamcodapjccaa.Bj
open Go.RowKit Go.Proofs.YteeamcodapjccaaW.PrintWords Go.Proofs.YteeamcodapjccaaW.PrintLast Go.Proofs.YteeamcodapjccaaW.PrintMore
open Go.Proofs.Yteeamcodapjccaa.PBitsAnswers Go.Proofs.Yteeamcodapjccaa.Bb Go.Proofs.Yteeamcodapjccaa.Be Go.Proofs.Yteeamcodapjccaa.Bf Go.Proofs.Yteeamcodapjccaa.X Go.Proofs.Yteeamcodapjccaa.Bh Go.Proofs.Yteeamcodapjccaa.Bi
set_option linter.unusedVariables false
set_option linter.unusedSimpArgs false

/-- A list of bits of the call's own, in memory at g. -/
structure Bx (w0 w : World) (g : Nat) (A : Option Addr) (c : Nat) (bs : List Bool) (n : Int) : Prop where
  blk : w.heap[g]? = some (.cells #[.slice A (pack bs).length c, .int .i64 n] 28 (0, 0))
  row : Kd.R (Kd.int .u8) 5 w w0.heap.size (fun _ => True) (.slice A (pack bs).length c) (pack bs)
theorem Bx.step {w0 w w1 : World} {g : Nat} {A : Option Addr} {c : Nat} {bs : List Bool} {n : Int} (h : Bx w0 w g A c bs n) (hb : Below w.heap.size w w1) : Bx w0 w1 g A c bs n := ⟨blk_below h.blk hb, Kd.R_below h.row hb⟩
theorem Bx.c0 {w0 w : World} {g : Nat} {A : Option Addr} {c : Nat} {bs : List Bool} {n : Int} (h : Bx w0 w g A c bs n) : w.cell? ⟨g, 0, none⟩ = some (.slice A (pack bs).length c) := (blk_cell h.blk 0).trans rfl
theorem Bx.c1 {w0 w : World} {g : Nat} {A : Option Addr} {c : Nat} {bs : List Bool} {n : Int} (h : Bx w0 w g A c bs n) : w.cell? ⟨g, 1, none⟩ = some (.int .i64 n) := (blk_cell h.blk 1).trans rfl
theorem Bx.read {w0 w : World} {g : Nat} {A : Option Addr} {c : Nat} {bs : List Bool} {n : Int} (h : Bx w0 w g A c bs n) : Kd.C (Kd.int .u8) w A (pack bs).length (pack bs) := (Kd.R_reads' h.row).2.2
theorem Bx.cap {w0 w : World} {g : Nat} {A : Option Addr} {c : Nat} {bs : List Bool} {n : Int} (h : Bx w0 w g A c bs n) : (pack bs).length ≤ c := (Kd.R_reads' h.row).2.1
/-- The row is laid into a new block. -/
theorem Bx.new {w0 w w1 : World} {g : Nat} {A : Option Addr} {c : Nat} {bs : List Bool} {n : Int} (hr : Kd.R (Kd.int .u8) 5 w w0.heap.size (fun _ => True) (.slice A (pack bs).length c) (pack bs)) (hb : Below w.heap.size w w1) (hk : w1.heap[g]? = some (.cells #[.slice none 0 0, .int .i64 0] 28 (0, 0))) :
    Bx w0 ((w1.setCell ⟨g, 0, none⟩ (.slice A (pack bs).length c)).setCell ⟨g, 1, none⟩ (.int .i64 n)) g A c bs n :=
  ⟨blk_put (blk_put hk 0 _ rfl) 1 _ rfl, row_far (row_far (Kd.R_below hr hb) hk 0 _) (blk_put hk 0 _ rfl) 1 _⟩
theorem append_full {fs : List Bool} (hf : fs.length = 40000) {v k : Nat} (h1 : 1 ≤ k) (h2 : k ≤ 24) (hv : v < 2 ^ k) : bits_Append.f (pack fs) (fs.length : Int) (v : Int) (k : Int) = some ([], 0, 2) := by
  unfold bits_Append.f
  rw [if_pos (okLb_pack fs), if_pos (valid_pack (by omega)), if_pos ⟨by omega, by omega, by omega, by rw [Int.toNat_natCast]; exact_mod_cast hv⟩, if_pos (by omega)]
theorem join_full {fs : List Bool} (hf : fs.length = 40000) : bits_Join.f (pack fs) (fs.length : Int) (pack [false]) (([false] : List Bool).length : Int) = some ([], 0, 2) := by
  unfold bits_Join.f
  rw [if_pos ⟨okLb_pack fs, okLb_pack [false]⟩, if_pos ⟨valid_pack (by omega), valid_pack (by simp)⟩, if_pos (by rw [hf]; simp)]
theorem pack_zeros {n m : Nat} (h : m = (n + 7) / 8) : List.replicate m (0 : Int) = pack (List.replicate n false) := by
  subst h
  refine List.ext_getElem (by simp [pack]) (fun i h1 h2 => ?_)
  have hz : ∀ j, bn (List.replicate n false) j = 0 := fun j => by
    unfold bn
    rw [List.getD_eq_getElem?_getD, List.getElem?_replicate]
    split <;> rfl
  simp [pack, byteAt, hz]


theorem grown_below {w w1 : World} (h : w.grownBy w1 none) : Below w.heap.size w w1 := ⟨h.os, h.tape, h.output, h.size, fun k hk => h.block k hk (by simp)⟩

set_option maxHeartbeats 4000000 in
set_option maxRecDepth 100000 in
theorem limit_walk (a0 a1 : Int) (k v : Nat) (w : World) (hk1 : 1 ≤ k) (hk2 : k ≤ 24) (hm1 : synoptickeep_Mod.f a1 24 = some ((k : Int) - 1)) (hm2 : synoptickeep_Mod.f a0 (2 ^ k) = some (v : Int)) (hv : v < 2 ^ k)
    (fs ss cs : List Bool) (hfs : fs = List.replicate 40000 false) (hss : ss = List.replicate (40000 - k) false) (hcs : cs = ss ++ bitsOf v k) (q : Nat) (hq : q = (40000 - k + 7) / 8) (K1 K2 : Nat) (hread : bits_Read.f K1 (pack cs) 40000 (40000 - (k : Int)) (k : Int) = some ((v : Int), 0)) (hone : synopticref07_Append.f K2 [] 0 0 1 = some (pack [false], 1, 0)) :
    Calls Try.prog 6 #[.int .i64 a0, .int .i64 a1] w fun e w' => e = .returned (.bool true) ∧ Below w.heap.size w w' := by
  have hu28 := Try.underlying28
  have HB := Aside0.mk (Below.refl w.heap.size w)
  have HM1 := Aside0.mk hm1
  have HM2 := Aside0.mk hm2
  have HRD := Aside0.mk hread
  have HONE := Aside0.mk hone
  have HV := Aside0.mk hv
  have HFL : Aside0 (fs.length = 40000) := ⟨by rw [hfs, List.length_replicate]⟩
  have HSL : Aside0 (ss.length = 40000 - k) := ⟨by rw [hss, List.length_replicate]⟩
  have HCL : Aside0 (cs.length = 40000) := ⟨by rw [hcs, List.length_append, bitsOf_length, HSL.out]; omega⟩
  have HFP : Aside0 (List.replicate 5000 (0 : Int) = pack fs) := ⟨by rw [hfs]; exact pack_zeros (by omega)⟩
  have HSP : Aside0 (List.replicate q (0 : Int) = pack ss) := ⟨by rw [hss]; exact pack_zeros hq⟩
  have HAP : Aside0 (bits_Append.f (pack ss) (40000 - (k : Int)) (v : Int) (k : Int) = some (pack cs, 40000, 0)) := ⟨by have h := append_pack (bs := ss) hk1 hk2 hv (by rw [HSL.out]; omega); rw [← hcs, HCL.out, HSL.out, show (((40000 - k : Nat)) : Int) = 40000 - (k : Int) by omega] at h; exact h⟩
  have HAF : Aside0 (bits_Append.f (pack fs) 40000 (v : Int) (k : Int) = some ([], 0, 2)) := ⟨by have h := append_full HFL.out hk1 hk2 hv; rw [HFL.out] at h; exact h⟩
  have HJF : Aside0 (bits_Join.f (pack fs) 40000 (pack [false]) 1 = some ([], 0, 2)) := ⟨by have h := join_full HFL.out; rw [HFL.out] at h; exact h⟩
  have HPD : Aside0 (bits_Pad.f (pack ss) (40000 - (k : Int)) = some (pack ss, (q : Int) * 8, 0)) := ⟨by have h := pad_pack (bs := ss) (by rw [HSL.out]; omega); rw [HSL.out, show (((40000 - k : Nat)) : Int) = 40000 - (k : Int) by omega] at h; rw [h, hq]; simp⟩
  have HQ : Aside0 (q = (40000 - k + 7) / 8) := ⟨hq⟩
  have hq5 : (q : Int) ≤ 5000 := by omega
  have hq0 : (0 : Int) ≤ (q : Int) := by omega
  have hkl : (1 : Int) ≤ (k : Int) := by omega
  have hkh : (k : Int) ≤ 24 := by omega
  clear hm1 hm2 hread hone hv hfs hss hcs hq
  go_enter Try.func6, Try.ntmps6
  go_wp2_with fail
  refine (synoptickeep_Mod.calls a1 24 _ _ HM1.out).mono ?_
  rintro e w1 ⟨rfl, hd⟩
  have hb := hd.below
  clear hd
  skip; replace HB := Aside0.mk (below_step HB.out hb); skip; clear hb; skip
  go_wp2_with fail
  simp only [show (1 : Int) + ((k : Int) - 1) = (k : Int) by omega, show 1 + (k - 1) = k by omega, wrap_pow hk2]
  refine (synoptickeep_Mod.calls a0 (2 ^ k) _ _ HM2.out).mono ?_
  rintro e w1 ⟨rfl, hd⟩
  have hb := hd.below
  clear hd
  skip; replace HB := Aside0.mk (below_step HB.out hb); skip; clear hb; skip
  have H5000 : Aside0 (List.replicate (5000 : Int).toNat (0 : Int) = pack fs) := ⟨HFP.out⟩
  have HSQ : Aside0 (List.replicate ((40000 - (k : Int) + 7) / 8).toNat (0 : Int) = pack ss) := ⟨by rw [show (40000 - (k : Int) + 7) / 8 = (q : Int) by have := HQ.out; omega, Int.toNat_natCast]; exact HSP.out⟩
  go_wp2_with (first
    | ((with_reducible refine gate_dst (N := 29) rfl ?_); refine Kd.R_make (Kd.int .u8) w.heap.size 5 rfl (N := 29) rfl 26 _ _ rfl 5000 rfl rfl Try.underlying26 (.int .u8 0) 1 info5 rfl (by decide) (by omega) 0 (ok := fun _ => True) (okp := fun _ => True) rfl (fun _ hk => hk) trivial (by omega) (by omega) HB.out (below_size HB.out) ?_; intro v1 w2 ho _ hg_ _; have hb := grown_below hg_; rw [H5000.out] at ho; obtain ⟨A7, k7, eo⟩ := Kd.R_slice ho; subst eo; have HR := Aside0.mk ho; clear ho hg_; skip; replace HB := Aside0.mk (below_step HB.out hb); skip; clear hb; skip)
    | ((with_reducible refine gate_dst (N := 7) rfl ?_); refine box_event ?hg (N := 7) ?hd (cs := #[.slice none 0 0, .int .i64 0]) (t := 28) ?hr ?_; (case hd => rfl); (case hg => rfl); (case hr => first | (go_simp; done) | (go_simp; rfl)); intro g7 hg w3 hbox hb; have HK := Aside0.mk hbox; have HBA := Aside0.mk hb; have HGE := Aside0.mk hg; clear hbox hb hg; have z0 : w3.cell? ⟨g7, 0, none⟩ = some (.slice none 0 0) := (blk_cell HK.out 0).trans rfl; have z1 : w3.cell? ⟨g7, 1, none⟩ = some (.int .i64 0) := (blk_cell HK.out 1).trans rfl; have y0 := blk_frozen HK.out 0; have y1 := blk_frozen HK.out 1)
    | ((with_reducible refine gate_store (t := 28) (p := 7) rfl ?_); refine store_event (t := 28) (p := 7) (v := ?vo7) (w1 := ((w3.setCell ⟨g7, 0, none⟩ (.slice A7 (pack fs).length k7)).setCell ⟨g7, 1, none⟩ (.int .i64 40000))) ?hg ?ho ?hn ?hr ?_; (case ho => rfl); (case hg => rfl); (case hn => rfl); (case hr => first | (go_simp; done) | (go_simp; rfl)); intro w4 hw; have hb := below_set (g := g7) (j := 1) (v := (.int .i64 40000)) (below_set (g := g7) (j := 0) (v := (.slice A7 (pack fs).length k7)) HBA.out (Nat.le_of_eq HGE.out.symm)) (Nat.le_of_eq HGE.out.symm); rw [← hw] at hb; have H7 : Aside0 (Bx w w4 g7 A7 k7 fs (40000)) := ⟨by rw [hw]; exact Bx.new HR.out HBA.out HK.out⟩; clear hw z0 z1 y0 y1 HK HBA HGE; skip; replace HB := Aside0.mk (below_step HB.out hb); skip; clear hb; skip; have cH70 := H7.out.c0; have cH71 := H7.out.c1)
    | ((with_reducible refine gate_dst (N := 35) rfl ?_); refine Kd.R_make (Kd.int .u8) w.heap.size 5 rfl (N := 35) rfl 26 _ _ rfl ((40000 - (k : Int) + 7) / 8) rfl rfl Try.underlying26 (.int .u8 0) 1 info5 rfl (by decide) (by omega) 0 (ok := fun _ => True) (okp := fun _ => True) rfl (fun _ hk => hk) trivial (by omega) (by omega) HB.out (below_size HB.out) ?_; intro v1 w2 ho _ hg_ _; have hb := grown_below hg_; rw [HSQ.out] at ho; obtain ⟨A8, k8, eo⟩ := Kd.R_slice ho; subst eo; have HR := Aside0.mk ho; clear ho hg_; clear cH70 cH71; replace HB := Aside0.mk (below_step HB.out hb); replace H7 := Aside0.mk (H7.out.step hb); clear hb; have cH70 := H7.out.c0; have cH71 := H7.out.c1)
    | ((with_reducible refine gate_dst (N := 8) rfl ?_); refine box_event ?hg (N := 8) ?hd (cs := #[.slice none 0 0, .int .i64 0]) (t := 28) ?hr ?_; (case hd => rfl); (case hg => rfl); (case hr => first | (go_simp; done) | (go_simp; rfl)); intro g8 hg w3 hbox hb; have HK := Aside0.mk hbox; have HBA := Aside0.mk hb; have HGE := Aside0.mk hg; clear hbox hb hg; have z0 : w3.cell? ⟨g8, 0, none⟩ = some (.slice none 0 0) := (blk_cell HK.out 0).trans rfl; have z1 : w3.cell? ⟨g8, 1, none⟩ = some (.int .i64 0) := (blk_cell HK.out 1).trans rfl; have y0 := blk_frozen HK.out 0; have y1 := blk_frozen HK.out 1)
    | ((with_reducible refine gate_store (t := 28) (p := 8) rfl ?_); refine store_event (t := 28) (p := 8) (v := ?vo8) (w1 := ((w3.setCell ⟨g8, 0, none⟩ (.slice A8 (pack ss).length k8)).setCell ⟨g8, 1, none⟩ (.int .i64 (40000 - (k : Int))))) ?hg ?ho ?hn ?hr ?_; (case ho => rfl); (case hg => rfl); (case hn => rfl); (case hr => first | (go_simp; done) | (go_simp; rfl)); intro w4 hw; have hb := below_set (g := g8) (j := 1) (v := (.int .i64 (40000 - (k : Int)))) (below_set (g := g8) (j := 0) (v := (.slice A8 (pack ss).length k8)) HBA.out (Nat.le_of_eq HGE.out.symm)) (Nat.le_of_eq HGE.out.symm); rw [← hw] at hb; have H8 : Aside0 (Bx w w4 g8 A8 k8 ss ((40000 - (k : Int)))) := ⟨by rw [hw]; exact Bx.new HR.out HBA.out HK.out⟩; clear hw z0 z1 y0 y1 HK HBA HGE; clear cH70 cH71; replace HB := Aside0.mk (below_step HB.out hb); replace H7 := Aside0.mk (H7.out.step hb); clear hb; have cH70 := H7.out.c0; have cH71 := H7.out.c1; have cH80 := H8.out.c0; have cH81 := H8.out.c1)
    | fail)
  refine (bits_Append.calls A8 k8 (pack ss) (40000 - (k : Int)) (v : Int) (k : Int) _ _ _ _ H8.out.read H8.out.cap HAP.out).mono ?_
  rintro e w1 ⟨v0, rfl, ho, hb⟩
  obtain ⟨A9, k9, eo⟩ : ∃ A k, v0 = .slice A (pack cs).length k := (by obtain ⟨A, k, h⟩ := Kd.R_slice ho; exact ⟨A, k, by rw [h]⟩); subst eo
  have HR := Aside0.mk (Kd.R_lower ho (below_size HB.out))
  clear ho
  clear cH70 cH71 cH80 cH81; replace HB := Aside0.mk (below_step HB.out hb); replace H7 := Aside0.mk (H7.out.step hb); replace H8 := Aside0.mk (H8.out.step hb); clear hb; have cH70 := H7.out.c0; have cH71 := H7.out.c1; have cH80 := H8.out.c0; have cH81 := H8.out.c1
  go_wp2_with (first
    | ((with_reducible refine gate_dst (N := 9) rfl ?_); refine box_event ?hg (N := 9) ?hd (cs := #[.slice none 0 0, .int .i64 0]) (t := 28) ?hr ?_; (case hd => rfl); (case hg => rfl); (case hr => first | (go_simp; done) | (go_simp; rfl)); intro g9 hg w3 hbox hb; have HK := Aside0.mk hbox; have HBA := Aside0.mk hb; have HGE := Aside0.mk hg; clear hbox hb hg; have z0 : w3.cell? ⟨g9, 0, none⟩ = some (.slice none 0 0) := (blk_cell HK.out 0).trans rfl; have z1 : w3.cell? ⟨g9, 1, none⟩ = some (.int .i64 0) := (blk_cell HK.out 1).trans rfl; have y0 := blk_frozen HK.out 0; have y1 := blk_frozen HK.out 1)
    | ((with_reducible refine gate_store (t := 28) (p := 9) rfl ?_); refine store_event (t := 28) (p := 9) (v := ?vo9) (w1 := ((w3.setCell ⟨g9, 0, none⟩ (.slice A9 (pack cs).length k9)).setCell ⟨g9, 1, none⟩ (.int .i64 40000))) ?hg ?ho ?hn ?hr ?_; (case ho => rfl); (case hg => rfl); (case hn => rfl); (case hr => first | (go_simp; done) | (go_simp; rfl)); intro w4 hw; have hb := below_set (g := g9) (j := 1) (v := (.int .i64 40000)) (below_set (g := g9) (j := 0) (v := (.slice A9 (pack cs).length k9)) HBA.out (Nat.le_of_eq HGE.out.symm)) (Nat.le_of_eq HGE.out.symm); rw [← hw] at hb; have H9 : Aside0 (Bx w w4 g9 A9 k9 cs (40000)) := ⟨by rw [hw]; exact Bx.new HR.out HBA.out HK.out⟩; clear hw z0 z1 y0 y1 HK HBA HGE; clear cH70 cH71 cH80 cH81; replace HB := Aside0.mk (below_step HB.out hb); replace H7 := Aside0.mk (H7.out.step hb); replace H8 := Aside0.mk (H8.out.step hb); clear hb; have cH70 := H7.out.c0; have cH71 := H7.out.c1; have cH80 := H8.out.c0; have cH81 := H8.out.c1; have cH90 := H9.out.c0; have cH91 := H9.out.c1)
    | fail)
  refine (bits_Append.calls A7 k7 (pack fs) 40000 (v : Int) (k : Int) _ _ _ _ H7.out.read H7.out.cap HAF.out).mono ?_
  rintro e w1 ⟨v0, rfl, ho, hb⟩
  obtain ⟨A11, k11, eo⟩ : ∃ A k, v0 = .slice A 0 k := (by obtain ⟨A, k, h⟩ := Kd.R_slice ho; exact ⟨A, k, by rw [h]; rfl⟩); subst eo
  clear ho
  clear cH70 cH71 cH80 cH81 cH90 cH91; replace HB := Aside0.mk (below_step HB.out hb); replace H7 := Aside0.mk (H7.out.step hb); replace H8 := Aside0.mk (H8.out.step hb); replace H9 := Aside0.mk (H9.out.step hb); clear hb; have cH70 := H7.out.c0; have cH71 := H7.out.c1; have cH80 := H8.out.c0; have cH81 := H8.out.c1; have cH90 := H9.out.c0; have cH91 := H9.out.c1
  go_wp2_with (first
    | ((with_reducible refine gate_dst (N := 11) rfl ?_); refine box_event ?hg (N := 11) ?hd (cs := #[.slice none 0 0, .int .i64 0]) (t := 28) ?hr ?_; (case hd => rfl); (case hg => rfl); (case hr => first | (go_simp; done) | (go_simp; rfl)); intro g11 hg w3 hbox hb; have HK := Aside0.mk hbox; have HBA := Aside0.mk hb; have HGE := Aside0.mk hg; clear hbox hb hg; have z0 : w3.cell? ⟨g11, 0, none⟩ = some (.slice none 0 0) := (blk_cell HK.out 0).trans rfl; have z1 : w3.cell? ⟨g11, 1, none⟩ = some (.int .i64 0) := (blk_cell HK.out 1).trans rfl; have y0 := blk_frozen HK.out 0; have y1 := blk_frozen HK.out 1)
    | ((with_reducible refine gate_store (t := 28) (p := 11) rfl ?_); refine store_event (t := 28) (p := 11) (v := ?vo11) (w1 := ((w3.setCell ⟨g11, 0, none⟩ (.slice A11 0 k11)).setCell ⟨g11, 1, none⟩ (.int .i64 0))) ?hg ?ho ?hn ?hr ?_; (case ho => rfl); (case hg => rfl); (case hn => rfl); (case hr => first | (go_simp; done) | (go_simp; rfl)); intro w4 hw; have hb := below_set (g := g11) (j := 1) (v := (.int .i64 0)) (below_set (g := g11) (j := 0) (v := (.slice A11 0 k11)) HBA.out (Nat.le_of_eq HGE.out.symm)) (Nat.le_of_eq HGE.out.symm); rw [← hw] at hb; clear hw z0 z1 y0 y1 HK HBA HGE; clear cH70 cH71 cH80 cH81 cH90 cH91; replace HB := Aside0.mk (below_step HB.out hb); replace H7 := Aside0.mk (H7.out.step hb); replace H8 := Aside0.mk (H8.out.step hb); replace H9 := Aside0.mk (H9.out.step hb); clear hb; have cH70 := H7.out.c0; have cH71 := H7.out.c1; have cH80 := H8.out.c0; have cH81 := H8.out.c1; have cH90 := H9.out.c0; have cH91 := H9.out.c1)
    | fail)
  refine (bits_Read.calls K1 A9 k9 (pack cs) 40000 (40000 - (k : Int)) (k : Int) _ _ _ H9.out.read H9.out.cap HRD.out).mono ?_
  rintro e w1 ⟨rfl, hb⟩
  clear cH70 cH71 cH80 cH81 cH90 cH91; replace HB := Aside0.mk (below_step HB.out hb); replace H7 := Aside0.mk (H7.out.step hb); replace H8 := Aside0.mk (H8.out.step hb); replace H9 := Aside0.mk (H9.out.step hb); clear hb; have cH70 := H7.out.c0; have cH71 := H7.out.c1; have cH80 := H8.out.c0; have cH81 := H8.out.c1; have cH90 := H9.out.c0; have cH91 := H9.out.c1
  go_wp2_with fail
  refine (synopticref07_Append.calls K2 none 0 [] 0 0 1 _ _ _ _ (Kd.C_nil _ _) (by simp) HONE.out).mono ?_
  rintro e w1 ⟨v0, rfl, ho, hb⟩
  obtain ⟨A15, k15, eo⟩ : ∃ A k, v0 = .slice A (pack [false]).length k := (by obtain ⟨A, k, h⟩ := Kd.R_slice ho; exact ⟨A, k, by rw [h]⟩); subst eo
  have HR := Aside0.mk (Kd.R_lower ho (below_size HB.out))
  clear ho
  clear cH70 cH71 cH80 cH81 cH90 cH91; replace HB := Aside0.mk (below_step HB.out hb); replace H7 := Aside0.mk (H7.out.step hb); replace H8 := Aside0.mk (H8.out.step hb); replace H9 := Aside0.mk (H9.out.step hb); clear hb; have cH70 := H7.out.c0; have cH71 := H7.out.c1; have cH80 := H8.out.c0; have cH81 := H8.out.c1; have cH90 := H9.out.c0; have cH91 := H9.out.c1
  go_wp2_with (first
    | ((with_reducible refine gate_dst (N := 15) rfl ?_); refine box_event ?hg (N := 15) ?hd (cs := #[.slice none 0 0, .int .i64 0]) (t := 28) ?hr ?_; (case hd => rfl); (case hg => rfl); (case hr => first | (go_simp; done) | (go_simp; rfl)); intro g15 hg w3 hbox hb; have HK := Aside0.mk hbox; have HBA := Aside0.mk hb; have HGE := Aside0.mk hg; clear hbox hb hg; have z0 : w3.cell? ⟨g15, 0, none⟩ = some (.slice none 0 0) := (blk_cell HK.out 0).trans rfl; have z1 : w3.cell? ⟨g15, 1, none⟩ = some (.int .i64 0) := (blk_cell HK.out 1).trans rfl; have y0 := blk_frozen HK.out 0; have y1 := blk_frozen HK.out 1)
    | ((with_reducible refine gate_store (t := 28) (p := 15) rfl ?_); refine store_event (t := 28) (p := 15) (v := ?vo15) (w1 := ((w3.setCell ⟨g15, 0, none⟩ (.slice A15 (pack [false]).length k15)).setCell ⟨g15, 1, none⟩ (.int .i64 1))) ?hg ?ho ?hn ?hr ?_; (case ho => rfl); (case hg => rfl); (case hn => rfl); (case hr => first | (go_simp; done) | (go_simp; rfl)); intro w4 hw; have hb := below_set (g := g15) (j := 1) (v := (.int .i64 1)) (below_set (g := g15) (j := 0) (v := (.slice A15 (pack [false]).length k15)) HBA.out (Nat.le_of_eq HGE.out.symm)) (Nat.le_of_eq HGE.out.symm); rw [← hw] at hb; have H15 : Aside0 (Bx w w4 g15 A15 k15 [false] (1)) := ⟨by rw [hw]; exact Bx.new HR.out HBA.out HK.out⟩; clear hw z0 z1 y0 y1 HK HBA HGE; clear cH70 cH71 cH80 cH81 cH90 cH91; replace HB := Aside0.mk (below_step HB.out hb); replace H7 := Aside0.mk (H7.out.step hb); replace H8 := Aside0.mk (H8.out.step hb); replace H9 := Aside0.mk (H9.out.step hb); clear hb; have cH70 := H7.out.c0; have cH71 := H7.out.c1; have cH80 := H8.out.c0; have cH81 := H8.out.c1; have cH90 := H9.out.c0; have cH91 := H9.out.c1; have cH150 := H15.out.c0; have cH151 := H15.out.c1)
    | fail)
  refine (bits_Join.calls A7 k7 (pack fs) 40000 A15 k15 (pack [false]) 1 _ _ _ _ H7.out.read H7.out.cap H15.out.read H15.out.cap HJF.out).mono ?_
  rintro e w1 ⟨v0, rfl, ho, hb⟩
  obtain ⟨A17, k17, eo⟩ : ∃ A k, v0 = .slice A 0 k := (by obtain ⟨A, k, h⟩ := Kd.R_slice ho; exact ⟨A, k, by rw [h]; rfl⟩); subst eo
  clear ho
  clear cH70 cH71 cH80 cH81 cH90 cH91 cH150 cH151; replace HB := Aside0.mk (below_step HB.out hb); replace H7 := Aside0.mk (H7.out.step hb); replace H8 := Aside0.mk (H8.out.step hb); replace H9 := Aside0.mk (H9.out.step hb); replace H15 := Aside0.mk (H15.out.step hb); clear hb; have cH70 := H7.out.c0; have cH71 := H7.out.c1; have cH80 := H8.out.c0; have cH81 := H8.out.c1; have cH90 := H9.out.c0; have cH91 := H9.out.c1; have cH150 := H15.out.c0; have cH151 := H15.out.c1
  go_wp2_with (first
    | ((with_reducible refine gate_dst (N := 17) rfl ?_); refine box_event ?hg (N := 17) ?hd (cs := #[.slice none 0 0, .int .i64 0]) (t := 28) ?hr ?_; (case hd => rfl); (case hg => rfl); (case hr => first | (go_simp; done) | (go_simp; rfl)); intro g17 hg w3 hbox hb; have HK := Aside0.mk hbox; have HBA := Aside0.mk hb; have HGE := Aside0.mk hg; clear hbox hb hg; have z0 : w3.cell? ⟨g17, 0, none⟩ = some (.slice none 0 0) := (blk_cell HK.out 0).trans rfl; have z1 : w3.cell? ⟨g17, 1, none⟩ = some (.int .i64 0) := (blk_cell HK.out 1).trans rfl; have y0 := blk_frozen HK.out 0; have y1 := blk_frozen HK.out 1)
    | ((with_reducible refine gate_store (t := 28) (p := 17) rfl ?_); refine store_event (t := 28) (p := 17) (v := ?vo17) (w1 := ((w3.setCell ⟨g17, 0, none⟩ (.slice A17 0 k17)).setCell ⟨g17, 1, none⟩ (.int .i64 0))) ?hg ?ho ?hn ?hr ?_; (case ho => rfl); (case hg => rfl); (case hn => rfl); (case hr => first | (go_simp; done) | (go_simp; rfl)); intro w4 hw; have hb := below_set (g := g17) (j := 1) (v := (.int .i64 0)) (below_set (g := g17) (j := 0) (v := (.slice A17 0 k17)) HBA.out (Nat.le_of_eq HGE.out.symm)) (Nat.le_of_eq HGE.out.symm); rw [← hw] at hb; clear hw z0 z1 y0 y1 HK HBA HGE; clear cH70 cH71 cH80 cH81 cH90 cH91 cH150 cH151; replace HB := Aside0.mk (below_step HB.out hb); replace H7 := Aside0.mk (H7.out.step hb); replace H8 := Aside0.mk (H8.out.step hb); replace H9 := Aside0.mk (H9.out.step hb); replace H15 := Aside0.mk (H15.out.step hb); clear hb; have cH70 := H7.out.c0; have cH71 := H7.out.c1; have cH80 := H8.out.c0; have cH81 := H8.out.c1; have cH90 := H9.out.c0; have cH91 := H9.out.c1; have cH150 := H15.out.c0; have cH151 := H15.out.c1)
    | fail)
  refine (bits_Pad.calls A8 k8 (pack ss) (40000 - (k : Int)) _ _ _ _ H8.out.read H8.out.cap HPD.out).mono ?_
  rintro e w1 ⟨v0, rfl, ho, hb⟩
  obtain ⟨A19, k19, eo⟩ : ∃ A k, v0 = .slice A (pack ss).length k := (by obtain ⟨A, k, h⟩ := Kd.R_slice ho; exact ⟨A, k, by rw [h]⟩); subst eo
  have HR := Aside0.mk (Kd.R_lower ho (below_size HB.out))
  clear ho
  clear cH70 cH71 cH80 cH81 cH90 cH91 cH150 cH151; replace HB := Aside0.mk (below_step HB.out hb); replace H7 := Aside0.mk (H7.out.step hb); replace H8 := Aside0.mk (H8.out.step hb); replace H9 := Aside0.mk (H9.out.step hb); replace H15 := Aside0.mk (H15.out.step hb); clear hb; have cH70 := H7.out.c0; have cH71 := H7.out.c1; have cH80 := H8.out.c0; have cH81 := H8.out.c1; have cH90 := H9.out.c0; have cH91 := H9.out.c1; have cH150 := H15.out.c0; have cH151 := H15.out.c1
  go_wp2_with (first
    | ((with_reducible refine gate_dst (N := 19) rfl ?_); refine box_event ?hg (N := 19) ?hd (cs := #[.slice none 0 0, .int .i64 0]) (t := 28) ?hr ?_; (case hd => rfl); (case hg => rfl); (case hr => first | (go_simp; done) | (go_simp; rfl)); intro g19 hg w3 hbox hb; have HK := Aside0.mk hbox; have HBA := Aside0.mk hb; have HGE := Aside0.mk hg; clear hbox hb hg; have z0 : w3.cell? ⟨g19, 0, none⟩ = some (.slice none 0 0) := (blk_cell HK.out 0).trans rfl; have z1 : w3.cell? ⟨g19, 1, none⟩ = some (.int .i64 0) := (blk_cell HK.out 1).trans rfl; have y0 := blk_frozen HK.out 0; have y1 := blk_frozen HK.out 1)
    | ((with_reducible refine gate_store (t := 28) (p := 19) rfl ?_); refine store_event (t := 28) (p := 19) (v := ?vo19) (w1 := ((w3.setCell ⟨g19, 0, none⟩ (.slice A19 (pack ss).length k19)).setCell ⟨g19, 1, none⟩ (.int .i64 ((q : Int) * 8)))) ?hg ?ho ?hn ?hr ?_; (case ho => rfl); (case hg => rfl); (case hn => rfl); (case hr => first | (go_simp; done) | (go_simp; rfl)); intro w4 hw; have hb := below_set (g := g19) (j := 1) (v := (.int .i64 ((q : Int) * 8))) (below_set (g := g19) (j := 0) (v := (.slice A19 (pack ss).length k19)) HBA.out (Nat.le_of_eq HGE.out.symm)) (Nat.le_of_eq HGE.out.symm); rw [← hw] at hb; have H19 : Aside0 (Bx w w4 g19 A19 k19 ss (((q : Int) * 8))) := ⟨by rw [hw]; exact Bx.new HR.out HBA.out HK.out⟩; clear hw z0 z1 y0 y1 HK HBA HGE; clear cH70 cH71 cH80 cH81 cH90 cH91 cH150 cH151; replace HB := Aside0.mk (below_step HB.out hb); replace H7 := Aside0.mk (H7.out.step hb); replace H8 := Aside0.mk (H8.out.step hb); replace H9 := Aside0.mk (H9.out.step hb); replace H15 := Aside0.mk (H15.out.step hb); clear hb; have cH70 := H7.out.c0; have cH71 := H7.out.c1; have cH80 := H8.out.c0; have cH81 := H8.out.c1; have cH90 := H9.out.c0; have cH91 := H9.out.c1; have cH150 := H15.out.c0; have cH151 := H15.out.c1; have cH190 := H19.out.c0; have cH191 := H19.out.c1)
    | fail)
  refine (synopticlaw07_awake.calls true _ awake_true).mono ?_
  rintro e w1 ⟨rfl, hb⟩
  replace HB := Aside0.mk (below_step HB.out hb)
  clear hb
  go_wp2
  go_ret
  exact ⟨rfl, HB.out⟩


end Go.Proofs.Yteeamcodapjccaa.Bj
