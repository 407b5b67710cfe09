/- Pure facts: the lists of bits that a source of choices makes; lists and blocks kept in memory. -/
import Derived.Test.YteeamcodapjccaaBo
import Derived.Test.YteeamcodapjccaaBl
namespace Go.Proofs.Yteeamcodapjccaa.Bp
open Go.RowKit Go.Proofs.YteeamcodapjccaaW.PrintWords Go.Proofs.YteeamcodapjccaaW.PrintLast Go.Proofs.YteeamcodapjccaaW.PrintMore
open Go.Proofs.Yteeamcodapjccaa.PBitsAnswers Go.Proofs.Yteeamcodapjccaa.Bb Go.Proofs.Yteeamcodapjccaa.Be Go.Proofs.Yteeamcodapjccaa.Bf Go.Proofs.Yteeamcodapjccaa.X Go.Proofs.Yteeamcodapjccaa.Bh Go.Proofs.Yteeamcodapjccaa.Bi Go.Proofs.Yteeamcodapjccaa.Bo
set_option linter.unusedVariables false
set_option linter.unusedSimpArgs false

theorem or_fin8 : ∀ x : Fin 256, 0 ≤ Go.bits .or .u8 (x.val : Int) 1 ∧ Go.bits .or .u8 (x.val : Int) 1 < 256 := by decide +kernel
theorem okL_set {l : List Int} (h : okL l) (i : Nat) {x : Int} (hx : 0 ≤ x ∧ x < 256) : okL (l.set i x) := by
  intro y hy
  rcases List.mem_or_eq_of_mem_set hy with h1 | h1
  · exact h y h1
  · rw [h1]; exact hx
def Made (f : List Int) (g : Nat → Option (List Int × Int × Int)) : Prop := ∃ l n i, Ev g (l, n, i) ∧ Src f i ∧ okL l ∧ l.length ≤ 100 ∧ -100 ≤ n ∧ n ≤ 100
theorem list_loop {f : List Int} (d : Nat) : ∀ (xs : List Int) (i : Int), d + xs.length ≤ 40 → Src f i → Made f (fun k => synopticlaw07_list.l0 k xs (d : Int) f i) := by
  induction d with
  | zero =>
    intro xs i hl hs
    have hof := of_ev (l := xs) (by omega)
    obtain ⟨v, j, hv, hs2, h0, h1⟩ := n_src hs (show (1 : Int) ≤ 9 by omega) (by omega)
    have hp : (pack (ones xs)).length ≤ 6 := by rw [pack_length, ones_length]; omega
    have hk := okL_pack (ones xs)
    have goal : ∀ (r : List Int × Int × Int), (∀ k : Nat, (if v = 0 then ((synoptickeep_Src_Range.f f j (-2) 2).bind fun bt183 => (some (pack (ones xs), wrap64 ((xs.length : Int) + bt183.1), bt183.2))) else (if v = 1 then ((synoptickeep_Src_N.f f j 2).bind fun bt185 => (if (pack (ones xs)).length < 140737488355328 then (some ((pack (ones xs) ++ [(bt185.1) % 256]), (xs.length : Int), bt185.2)) else (none))) else (if v = 2 then (if ((pack (ones xs)).length : Int) > 0 then (if 0 ≤ (wrap64 (((pack (ones xs)).length : Int) - 1)) then (if (wrap64 (((pack (ones xs)).length : Int) - 1)) < ((pack (ones xs)).length : Int) then (some (((pack (ones xs)).set ((wrap64 (((pack (ones xs)).length : Int) - 1)) : Int).toNat (Go.bits .or .u8 (rd (pack (ones xs)) (wrap64 (((pack (ones xs)).length : Int) - 1))) 1)), (xs.length : Int), j)) else (none)) else (none)) else (some (pack (ones xs), (xs.length : Int), j))) else (some (pack (ones xs), (xs.length : Int), j))))) = some r) → Ev (fun k => synopticlaw07_list.l0 k xs ((0 : Nat) : Int) f i) r := by
      intro r hr
      refine Ev.succ ?_
      simp only [synopticlaw07_list.l0]
      refine Ev.congr (fun k => by rw [if_neg (by omega)]) (Ev.bind hof (Ev.congr (fun k => ?_) (Ev.now _)))
      rw [hv, Option.bind_some]
      exact hr k
    by_cases c0 : v = 0
    · obtain ⟨u, q, hu, hs3, g0, g1⟩ := range_src hs2 (show (-1000000 : Int) ≤ -2 by omega) (show (-2 : Int) ≤ 2 by omega) (by omega)
      refine ⟨_, _, _, goal _ (fun _ => by rw [if_pos c0, hu, Option.bind_some]), hs3, hk, by omega, ?_, ?_⟩ <;> (unfold wrap64; omega)
    · by_cases c1 : v = 1
      · obtain ⟨u, q, hu, hs3, g0, g1⟩ := n_src hs2 (show (1 : Int) ≤ 2 by omega) (by omega)
        refine ⟨_, _, _, goal _ (fun _ => by rw [if_neg c0, if_pos c1, hu, Option.bind_some, if_pos (by omega)]), hs3, ?_, by simp; omega, by omega, by omega⟩
        intro x hx
        rcases List.mem_append.mp hx with h | h
        · exact hk x h
        · rw [List.mem_singleton.mp h]; omega
      · by_cases c2 : v = 2
        · by_cases c3 : ((pack (ones xs)).length : Int) > 0
          · have e : wrap64 (((pack (ones xs)).length : Int) - 1) = (((pack (ones xs)).length - 1 : Nat) : Int) := by unfold wrap64; omega
            refine ⟨_, _, _, goal _ (fun _ => by rw [if_neg c0, if_neg c1, if_pos c2, if_pos c3, if_pos (by rw [e]; omega), if_pos (by rw [e]; omega)]), hs2, ?_, by rw [List.length_set]; omega, by omega, by omega⟩
            refine okL_set hk _ ?_
            rw [e, rd_get (by omega)]
            have hm := hk _ (List.getElem_mem (show (pack (ones xs)).length - 1 < (pack (ones xs)).length by omega))
            obtain ⟨y, hy⟩ := Int.eq_ofNat_of_zero_le hm.1
            rw [hy]
            exact or_fin8 ⟨y, by omega⟩
          · exact ⟨_, _, _, goal _ (fun _ => by rw [if_neg c0, if_neg c1, if_pos c2, if_neg c3]), hs2, hk, by omega, by omega, by omega⟩
        · exact ⟨_, _, _, goal _ (fun _ => by rw [if_neg c0, if_neg c1, if_neg c2]), hs2, hk, by omega, by omega, by omega⟩
  | succ d ih =>
    intro xs i hl hs
    obtain ⟨v, j, hv, hs2, h0, h1⟩ := n_src hs (show (1 : Int) ≤ 2 by omega) (by omega)
    obtain ⟨l, n, q, h2, h3, h4, h5, h6, h7⟩ := ih (xs ++ [v]) j (by simp; omega) hs2
    refine ⟨l, n, q, Ev.succ (Ev.congr (fun k => ?_) h2), h3, h4, h5, h6, h7⟩
    simp only [synopticlaw07_list.l0]
    rw [if_pos (by omega), hv, Option.bind_some, if_pos (by omega)]
    rw [show wrap64 (((d + 1 : Nat) : Int) - 1) = (d : Int) from by unfold wrap64; omega]
theorem list_src {f : List Int} {i : Int} (hs : Src f i) : Made f (fun k => synopticlaw07_list.f k f i) := by
  obtain ⟨v, j, hv, hs2, h0, h1⟩ := n_src hs (show (1 : Int) ≤ 40 by omega) (by omega)
  obtain ⟨d, rfl⟩ := Int.eq_ofNat_of_zero_le h0
  obtain ⟨l, n, q, h2, h3⟩ := list_loop (f := f) d [] j (by simp; omega) hs2
  refine ⟨l, n, q, Ev.congr (fun k => ?_) h2, h3⟩
  unfold synopticlaw07_list.f
  rw [hv, Option.bind_some]

/-! ### Lists and blocks that stay while the source moves -/
/-- A list of bytes in memory that no step but one into the block gs touches. -/
def Held (w : World) (gs : Nat) (A : Option Addr) (l : List Int) : Prop := ∀ W', KeepBut w W' gs none → Kd.C (Kd.int .u8) W' A l.length l
theorem Held.now {w : World} {gs : Nat} {A : Option Addr} {l : List Int} (h : Held w gs A l) : Kd.C (Kd.int .u8) w A l.length l := h w (KeepBut.refl w gs none)
theorem Held.keep {w w1 : World} {gs : Nat} {A : Option Addr} {l : List Int} (h : Held w gs A l) (hk : KeepBut w w1 gs none) : Held w1 gs A l := Kd.C_foot_step h hk
theorem Held.own {w0 w : World} {gs : Nat} {A : Option Addr} {c b : Nat} {l f0 : List Int} {f1 : Int} {ok : Nat → Prop} (hI : IsS60 w0 w gs f0 f1) (h : Kd.R (Kd.int .u8) 5 w b ok (.slice A l.length c) l) : Held w gs A l :=
  Kd.C_foot_own (IsS60.apart hI h (by decide)) (fun _ h => h.2)
/-- A block that is written no more. -/
structure Blk (w : World) (gs : Nat) (g : Nat) (t : TypeId) (cs : Array Value) : Prop where
  at_ : w.heap[g]? = some (.cells cs t (0, 0))
  ne : g ≠ gs
theorem Blk.keep {w w1 : World} {gs g : Nat} {t : TypeId} {cs : Array Value} (h : Blk w gs g t cs) (hk : KeepBut w w1 gs none) : Blk w1 gs g t cs := ⟨(hk.2 g (blk_lt h.at_) h.ne (by simp)).trans h.at_, h.ne⟩
theorem Blk.cell {w : World} {gs g : Nat} {t : TypeId} {cs : Array Value} (h : Blk w gs g t cs) (j : Nat) : w.cell? ⟨g, j, none⟩ = cs[j]? := blk_cell h.at_ j
theorem keep_of {w w1 : World} (h : Below w.heap.size w w1) (gs : Nat) : KeepBut w w1 gs none := KeepBut.of_below h gs none
end Go.Proofs.Yteeamcodapjccaa.Bp
