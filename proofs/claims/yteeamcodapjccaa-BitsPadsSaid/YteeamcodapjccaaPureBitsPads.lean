/- It is proved that Pad adds fewer than eight bits, all 0, changes nothing before them, and that padding again changes nothing (statement BitsPads), for every input, without conditions. -/
import Derived.Test.YteeamcodapjccaaX2
import Derived.Test.YteeamcodapjccaaBi
namespace Go.Proofs.Yteeamcodapjccaa.Pure
open Go.RowKit Go.Proofs.Yteeamcodapjccaa.X Go.Proofs.YteeamcodapjccaaW.PrintWords Go.Proofs.YteeamcodapjccaaW.PrintLast
open Go.Proofs.Yteeamcodapjccaa.PBitsAnswers Go.Proofs.Yteeamcodapjccaa.Bb Go.Proofs.Yteeamcodapjccaa.Be Go.Proofs.Yteeamcodapjccaa.Bf Go.Proofs.Yteeamcodapjccaa.Bh Go.Proofs.Yteeamcodapjccaa.Bi

theorem bn_pad {bs : List Bool} {m i : Nat} : bn (bs ++ List.replicate m false) i = bn bs i := by
  unfold bn
  simp only [List.getD_eq_getElem?_getD]
  rcases Nat.lt_or_ge i bs.length with h | h
  · rw [List.getElem?_append_left h]
  · rw [List.getElem?_append_right h, List.getElem?_eq_none h]
    rcases Nat.lt_or_ge (i - bs.length) m with h2 | h2
    · rw [List.getElem?_replicate, if_pos h2]; rfl
    · rw [List.getElem?_eq_none (by simpa using h2)]
theorem pack_pad {bs : List Bool} {m : Nat} (h : (bs.length + m + 7) / 8 = (bs.length + 7) / 8) : pack (bs ++ List.replicate m false) = pack bs := by
  unfold pack
  rw [List.length_append, List.length_replicate, h]
  refine List.map_congr_left (fun i _ => ?_)
  unfold byteAt
  simp only [bn_pad]
theorem pads_check {all : List Int} (ha : all.length ≤ 60) (h01 : ∀ x ∈ all, x = 0 ∨ x = 1) {m : Nat} (hm : m = (all.length + 7) / 8 * 8) (d : Nat) : ∀ i : Nat, i + d = m → Ev (fun k => synopticlaw07_BitsPads.l1 k all (i : Int) (pack (ones all)) (all.length : Int) (pack (ones all)) (m : Int)) true := by
  induction d with
  | zero =>
    intro i hi
    refine Ev.succ ⟨0, fun k _ => ?_⟩
    simp only [synopticlaw07_BitsPads.l1]
    rw [if_neg (by omega), awake_true]
    rfl
  | succ d ih =>
    intro i hi
    have e0 : wrap64 ((i : Int) + 1) = ((i + 1 : Nat) : Int) := by unfold wrap64; omega
    have hat := at_pack (bs := ones all) (n := (m : Int)) (i := i) (by rw [ones_length]; omega) (by rw [ones_length]; omega)
    refine Ev.succ (Ev.congr (fun k => ?_) (ih (i + 1) (by omega)))
    simp only [synopticlaw07_BitsPads.l1]
    rw [if_pos (by omega)]
    by_cases hl : i < all.length
    · rw [if_pos (by omega), if_pos (by omega), if_pos (by omega), hat, Option.bind_some]
      have hx : rd all (i : Int) = all[i] := by
        unfold rd; rw [Int.toNat_natCast, List.getD_eq_getElem?_getD, List.getElem?_eq_getElem hl]; rfl
      have hb : ((bn (ones all) i : Nat) : Int) = all[i] := by
        unfold bn ones
        rw [List.getD_eq_getElem?_getD, List.getElem?_map, List.getElem?_eq_getElem hl]
        rcases h01 _ (List.getElem_mem hl) with h | h <;> rw [h] <;> rfl
      rw [if_pos (by rw [hx, hb]), e0]
    · rw [if_neg (by omega), hat, Option.bind_some, bn_ge (by rw [ones_length]; omega), if_pos (by rfl), e0]
theorem pads_end {all s : List Int} {a : Int} (ha : all.length ≤ 60) (h01 : ∀ x ∈ all, x = 0 ∨ x = 1) {n : Int} (hn : ¬ n > 0) : Ev (fun k => synopticlaw07_BitsPads.l0 k all n s a) true := by
  refine Ev.succ ?_
  simp only [synopticlaw07_BitsPads.l0]
  obtain ⟨m, hm⟩ : ∃ m, m = (all.length + 7) / 8 * 8 := ⟨_, rfl⟩
  obtain ⟨bs, hbs⟩ : ∃ bs, bs = ones all := ⟨_, rfl⟩
  have hlen : bs.length = all.length := by rw [hbs, ones_length]
  obtain ⟨cs, hcs⟩ : ∃ cs, cs = bs ++ List.replicate (m - bs.length) false := ⟨_, rfl⟩
  have hcl : cs.length = m := by rw [hcs, List.length_append, List.length_replicate]; omega
  have hcp : pack cs = pack bs := by rw [hcs]; exact pack_pad (by omega)
  have hof := of_ev (l := all) (by omega)
  rw [← hbs] at hof
  have hp1 : bits_Pad.f (pack bs) (all.length : Int) = some (pack bs, (m : Int), 0) := by
    have := pad_pack (bs := bs) (by omega)
    rw [hlen, ← hm] at this
    exact this
  have hp2 : bits_Pad.f (pack bs) (m : Int) = some (pack bs, (m : Int), 0) := by
    have := pad_pack (bs := cs) (by omega)
    rw [hcl, hcp, show (m + 7) / 8 * 8 = m by omega] at this
    exact this
  have hv := ref_valid_pack (bs := cs) (by omega)
  rw [hcl, hcp] at hv
  have hl1 := pads_check ha h01 hm m 0 (by omega)
  rw [← hbs] at hl1
  have hj1 : Ev (fun k => synopticlaw07_BitsPads.j1 k all false (pack bs) (all.length : Int) (pack bs) (m : Int)) true := by
    refine Ev.succ (Ev.congr (fun k => ?_) hl1)
    simp only [synopticlaw07_BitsPads.j1]
    rw [if_neg (by simp)]
    rfl
  have ht : Int.tmod (m : Int) 8 = 0 := by rw [Int.tmod_eq_emod_of_nonneg (by omega)]; omega
  have hw : wrap64 ((all.length : Int) + 8) = (all.length : Int) + 8 := by unfold wrap64; omega
  obtain ⟨K1, h1⟩ := hof
  obtain ⟨K2, h2⟩ := hv
  obtain ⟨K3, h3⟩ := hj1
  refine ⟨K1 + K2 + K3, fun k hk => ?_⟩
  simp only at h1 h2 h3 ⊢
  rw [if_neg hn, h1 k (by omega), Option.bind_some, hp1, Option.bind_some, hp2, Option.bind_some]
  simp only [if_true]
  rw [if_pos ht, if_neg (by omega), if_neg (by rw [hw]; omega), h2 k (by omega), Option.bind_some, if_pos rfl, same_refl, Option.bind_some]
  exact h3 k (by omega)
theorem pads_loop {s : List Int} (d : Nat) : ∀ (all : List Int) (a : Int), Src s a → all.length + d ≤ 60 → (∀ x ∈ all, x = 0 ∨ x = 1) → Ev (fun k => synopticlaw07_BitsPads.l0 k all (d : Int) s a) true := by
  induction d with
  | zero =>
    intro all a hs hl h01
    exact pads_end (by omega) h01 (by omega)
  | succ d ih =>
    intro all a hs hl h01
    obtain ⟨v, j, hv, hs2, g1, g2⟩ := n_src hs (show (1 : Int) ≤ 2 by omega) (by omega)
    refine Ev.succ (Ev.congr (fun k => ?_) (ih (all ++ [v]) j hs2 (by simp; omega) (fun x hx => by
      rcases List.mem_append.1 hx with h | h
      · exact h01 x h
      · rw [List.mem_singleton.1 h]; omega)))
    simp only [synopticlaw07_BitsPads.l0]
    rw [if_pos (by omega), hv, Option.bind_some, if_pos (by omega), show wrap64 (((d + 1 : Nat) : Int) - 1) = (d : Int) from by unfold wrap64; omega]
theorem BitsPads : synopticlaw07_BitsPads.Pure := by
  intro l h1 h2 h3
  obtain ⟨r, hr, hs⟩ := new_src h3
  obtain ⟨v, j, hv, hs2, g1, g2⟩ := n_src hs (show (1 : Int) ≤ 50 by omega) (by omega)
  obtain ⟨d, rfl⟩ := Int.eq_ofNat_of_zero_le g1
  obtain ⟨K, hK⟩ := pads_loop d [] j hs2 (by simp; omega) (by simp)
  refine ⟨K, ?_⟩
  unfold synopticlaw07_BitsPads.f
  rw [hr, Option.bind_some, hv, Option.bind_some]
  exact hK K (Nat.le_refl _)

end Go.Proofs.Yteeamcodapjccaa.Pure
