/- Pure facts: what the layer bits answers is what its reference answers. -/
import Derived.Test.YteeamcodapjccaaBi
import Derived.Lib.Bytes
namespace Go.Proofs.Yteeamcodapjccaa.Bo
open Go.RowKit Go.Proofs.YteeamcodapjccaaW.PrintWords Go.Proofs.YteeamcodapjccaaW.PrintLast Go.Proofs.YteeamcodapjccaaW.PrintMore
open Go.Proofs.Yteeamcodapjccaa.PBitsAnswers Go.Proofs.Yteeamcodapjccaa.Bb Go.Proofs.Yteeamcodapjccaa.Be Go.Proofs.Yteeamcodapjccaa.Bf Go.Proofs.Yteeamcodapjccaa.X Go.Proofs.Yteeamcodapjccaa.Bh Go.Proofs.Yteeamcodapjccaa.Bi
set_option linter.unusedVariables false
set_option linter.unusedSimpArgs false

def bi (bs : List Bool) : List Int := bs.map fun b => if b then 1 else 0
theorem bi_length (bs : List Bool) : (bi bs).length = bs.length := by simp [bi]
theorem ones_bi (bs : List Bool) : ones (bi bs) = bs := by
  unfold ones bi
  rw [List.map_map]
  conv => rhs; rw [← List.map_id bs]
  refine List.map_congr_left (fun b _ => ?_)
  cases b <;> rfl
theorem bi_snoc (bs : List Bool) (b : Bool) : bi (bs ++ [b]) = bi bs ++ [if b then 1 else 0] := by simp [bi]
theorem bn_get {bs : List Bool} {i : Nat} (h : i < bs.length) : ((bn bs i : Nat) : Int) = if bs[i] then 1 else 0 := by
  unfold bn
  rw [List.getD_eq_getElem?_getD, List.getElem?_eq_getElem h]
  cases bs[i] <;> rfl

theorem all_loop {bs : List Bool} (hb : bs.length ≤ 40000) (d : Nat) : ∀ i : Nat, i + d = bs.length → Ev (fun k => synopticref07_All.l0 k (bi (bs.take i)) (i : Int) (pack bs) (bs.length : Int)) (bi bs) := by
  induction d with
  | zero =>
    intro i hi
    refine Ev.succ ⟨0, fun k _ => ?_⟩
    simp only [synopticref07_All.l0]
    rw [if_neg (by omega), List.take_of_length_le (by omega)]
  | succ d ih =>
    intro i hi
    refine Ev.succ (Ev.congr (fun k => ?_) (ih (i + 1) (by omega)))
    simp only [synopticref07_All.l0]
    rw [if_pos (by omega), at_pack (by omega) hb, Option.bind_some, if_pos (by rw [bi_length, List.length_take]; omega)]
    rw [List.take_succ_eq_append_getElem (show i < bs.length by omega), bi_snoc, bn_get (show i < bs.length by omega)]
    rw [show wrap64 ((i : Int) + 1) = ((i + 1 : Nat) : Int) from by unfold wrap64; omega]
theorem all_pack {bs : List Bool} (hb : bs.length ≤ 40000) : Ev (fun k => synopticref07_All.f k (pack bs) (bs.length : Int)) (bi bs) := all_loop hb bs.length 0 (by omega)

theorem shr_and {v i : Nat} (hv : v < 16777216) (hi : i ≤ 24) : Go.bits .and .i64 (shr .i64 (v : Int) (IntKind.u64.wrap (i : Int))) 1 = ((v / 2 ^ i % 2 : Nat) : Int) := by
  rw [IntKind.wrap_u64, show ((i : Int) % 18446744073709551616) = (i : Int) by omega]
  unfold shr
  rw [Int.toNat_natCast, Nat.min_eq_left (show i ≤ IntKind.i64.bits from by show _ ≤ 64; omega)]
  have h3 : (v : Int) / 2 ^ i = ((v / 2 ^ i : Nat) : Int) := by norm_cast
  have h4 : v / 2 ^ i < 16777216 := Nat.lt_of_le_of_lt (Nat.div_le_self _ _) hv
  rw [h3, Bc.and_one _ (by omega)]
theorem app_loop {v : Nat} (hv : v < 16777216) (i : Nat) : ∀ (bs : List Bool), i ≤ 24 → bs.length + i ≤ 40000 → Ev (fun k => synopticref07_Append.l0 k (v : Int) (bi bs) ((i : Int) - 1)) (pack (bs ++ bitsOf v i), ((bs ++ bitsOf v i).length : Int), 0) := by
  induction i with
  | zero =>
    intro bs hi hl
    refine Ev.succ ?_
    simp only [synopticref07_Append.l0]
    have h := of_ev (l := bi bs) (by rw [bi_length]; omega)
    rw [ones_bi, bi_length] at h
    refine Ev.congr (fun k => by rw [if_neg (by omega)]) (Ev.bind h ?_)
    refine ⟨0, fun k _ => ?_⟩
    simp [bitsOf]
  | succ i ih =>
    intro bs hi hl
    have h := ih (bs ++ [decide (v / 2 ^ i % 2 = 1)]) (by omega) (by simp; omega)
    refine Ev.succ ?_
    rw [List.append_assoc, List.singleton_append, show decide (v / 2 ^ i % 2 = 1) :: bitsOf v i = bitsOf v (i + 1) from rfl] at h
    refine Ev.congr (fun k => ?_) h
    simp only [synopticref07_Append.l0]
    have e : (((i + 1 : Nat) : Int) - 1) = (i : Int) := by omega
    rw [e, if_pos (by omega), if_pos (by rw [IntKind.wrap_u64]; omega), if_pos (by rw [bi_length]; omega), shr_and hv (by omega), bi_snoc]
    rw [show wrap64 ((i : Int) - 1) = (i : Int) - 1 from by unfold wrap64; omega]
    congr 2
    have := Nat.mod_lt (v / 2 ^ i) (show 0 < 2 by omega)
    generalize v / 2 ^ i % 2 = y at *
    by_cases hy : y = 1
    · subst hy; rfl
    · obtain rfl : y = 0 := by omega
      rfl

theorem okLb_of {l : List Int} (h : okL l) : okLb l = true := by
  unfold okLb
  rw [List.all_eq_true]
  intro x hx
  have := h x hx
  simp; omega
/-- A list in range: what its bytes are, and how long. -/
theorem wd_eq (w : Int) : bits_width.f w = some (decide (1 ≤ w ∧ w ≤ 24)) ∧ synopticref07_width.f w = some (decide (1 ≤ w ∧ w ≤ 24)) := by
  unfold bits_width.f synopticref07_width.f
  by_cases h : w ≥ 1
  · rw [if_pos h]; have : (decide (w ≤ 24)) = decide (1 ≤ w ∧ w ≤ 24) := by simp; omega
    rw [this]; exact ⟨rfl, rfl⟩
  · rw [if_neg h]
    have : decide (1 ≤ w ∧ w ≤ 24) = false := by simp; omega
    rw [this]; exact ⟨rfl, rfl⟩
theorem append_ref {l : List Int} (hl : okL l) (n v w : Int) (hv : -9223372036854775808 ≤ v ∧ v ≤ 9223372036854775807) (hw : -9223372036854775808 ≤ w ∧ w ≤ 9223372036854775807) :
    ∃ r : List Int × Int × Int, bits_Append.f l n v w = some r ∧ Ev (fun k => synopticref07_Append.f k l n v w) r := by
  obtain ⟨b, h1, h2⟩ := ref_valid hl n
  unfold bits_Append.f synopticref07_Append.f
  rw [if_pos (okLb_of hl)]
  cases b with
  | false =>
    rw [h1, if_neg (by simp)]
    refine ⟨_, rfl, Ev.bind h2 ?_⟩
    exact Ev.congr (fun k => by rw [if_neg (by simp)]) (Ev.now _)
  | true =>
    obtain ⟨h3, h4, h5, h6⟩ := valid_unpack hl h1
    rw [h1, if_pos rfl]
    obtain ⟨bs, hbs⟩ : ∃ bs, bs = unpack l n.toNat := ⟨_, rfl⟩
    rw [← hbs] at h5 h6
    rw [← hbs]
    have hb : bs.length ≤ 40000 := by omega
    by_cases hc : 1 ≤ w ∧ w ≤ 24 ∧ 0 ≤ v ∧ v < 2 ^ w.toNat
    · obtain ⟨k, rfl⟩ := Int.eq_ofNat_of_zero_le (show 0 ≤ w by omega)
      obtain ⟨u, rfl⟩ := Int.eq_ofNat_of_zero_le hc.2.2.1
      have hu : u < 2 ^ k := by have := hc.2.2.2; rw [Int.toNat_natCast] at this; exact_mod_cast this
      have hp2 : 2 ^ k ≤ 2 ^ 24 := Nat.pow_le_pow_right (by omega) (by omega)
      rw [if_pos hc, Int.toNat_natCast, Int.toNat_natCast]
      have hsh : shl .i64 1 (IntKind.u64.wrap (k : Int)) = ((2 ^ k : Nat) : Int) := by
        rw [IntKind.wrap_u64, show ((k : Int) % 18446744073709551616) = (k : Int) by omega]
        unfold shl
        rw [Int.toNat_natCast, Nat.min_eq_left (show k ≤ IntKind.i64.bits from by show _ ≤ 64; omega)]
        have e : (1 : Int) * 2 ^ k = ((2 ^ k : Nat) : Int) := by push_cast; omega
        rw [e, IntKind.wrap_i64]
        omega
      by_cases hlim : n + (k : Int) > 40000
      · rw [if_pos hlim]
        refine ⟨_, rfl, Ev.bind h2 ?_⟩
        refine Ev.succ (Ev.congr (fun q => ?_) (Ev.now _))
        rw [if_pos rfl, (wd_eq _).2, Option.bind_some, if_pos (by simp; omega), if_neg (by omega), if_pos (by rw [IntKind.wrap_u64]; omega), hsh]
        rw [show decide ((u : Int) ≥ ((2 ^ k : Nat) : Int)) = false by simp; exact_mod_cast hu]
        simp only [synopticref07_Append.j0]
        rw [if_neg (by simp), if_pos (by unfold wrap64; omega)]
      · rw [if_neg hlim]
        refine ⟨_, rfl, Ev.bind h2 ?_⟩
        refine Ev.succ ?_
        have ha := all_pack hb
        rw [← h5, h6] at ha
        have hloop := app_loop (v := u) (by omega) k bs (by omega) (by omega)
        have hg := Ev.bind (f := fun q x => synopticref07_Append.l0 q (u : Int) x ((k : Int) - 1)) ha hloop
        have e2 : (((bs ++ bitsOf u k).length : Nat) : Int) = n + (k : Int) := by rw [List.length_append, bitsOf_length]; omega
        rw [e2] at hg
        refine Ev.congr (fun q => ?_) hg
        rw [if_pos rfl, (wd_eq _).2, Option.bind_some, if_pos (by simp; omega), if_neg (by omega), if_pos (by rw [IntKind.wrap_u64]; omega), hsh]
        rw [show decide ((u : Int) ≥ ((2 ^ k : Nat) : Int)) = false by simp; exact_mod_cast hu]
        simp only [synopticref07_Append.j0]
        rw [if_neg (by simp), if_neg (by unfold wrap64; omega)]
        rw [show wrap64 ((k : Int) - 1) = (k : Int) - 1 from by unfold wrap64; omega]
    · rw [if_neg hc]
      refine ⟨_, rfl, Ev.bind h2 ?_⟩
      refine Ev.succ (Ev.congr (fun q => ?_) (Ev.now _))
      rw [if_pos rfl, (wd_eq _).2, Option.bind_some]
      by_cases hwd : 1 ≤ w ∧ w ≤ 24
      · rw [if_pos (by simp; omega)]
        by_cases hneg : v < 0
        · rw [if_pos hneg]; simp only [synopticref07_Append.j0, if_true]
        · obtain ⟨k, rfl⟩ := Int.eq_ofNat_of_zero_le (show 0 ≤ w by omega)
          have hp2 : 2 ^ k ≤ 2 ^ 24 := Nat.pow_le_pow_right (by omega) (by omega)
          have hge : v ≥ ((2 ^ k : Nat) : Int) := by
            by_cases h : v < ((2 ^ k : Nat) : Int)
            · exfalso; refine hc ⟨hwd.1, hwd.2, by omega, ?_⟩
              rw [Int.toNat_natCast]; exact_mod_cast h
            · omega
          have hp0 : 0 < 2 ^ k := Nat.pow_pos (by omega)
          have hsh : shl .i64 1 (IntKind.u64.wrap (k : Int)) = ((2 ^ k : Nat) : Int) := by
            rw [IntKind.wrap_u64, show ((k : Int) % 18446744073709551616) = (k : Int) by omega]
            unfold shl
            rw [Int.toNat_natCast, Nat.min_eq_left (show k ≤ IntKind.i64.bits from by show _ ≤ 64; omega)]
            have e : (1 : Int) * 2 ^ k = ((2 ^ k : Nat) : Int) := by push_cast; omega
            rw [e, IntKind.wrap_i64]
            omega
          rw [if_neg hneg, if_pos (by rw [IntKind.wrap_u64]; omega), hsh, show decide (v ≥ ((2 ^ k : Nat) : Int)) = true from decide_eq_true hge]
          simp only [synopticref07_Append.j0, if_true]
      · rw [if_neg (by simp; omega)]
        simp only [synopticref07_Append.j0, if_true]

/-! ### Read -/
theorem ref_read_loop {bs : List Bool} (hb : bs.length ≤ 40000) {at_ w : Nat} (hw : w ≤ 24) (ha : at_ + w ≤ bs.length) (d : Nat) : ∀ j : Nat, j + d = w → Ev (fun k => synopticref07_Read.l0 k (at_ : Int) (w : Int) ((readV bs at_ j : Nat) : Int) (j : Int) (pack bs) (bs.length : Int)) (((readV bs at_ w : Nat) : Int), 0) := by
  induction d with
  | zero =>
    intro j hj
    refine Ev.succ ⟨0, fun k _ => ?_⟩
    simp only [synopticref07_Read.l0]
    rw [if_neg (by omega), show j = w by omega]
  | succ d ih =>
    intro j hj
    refine Ev.succ (Ev.congr (fun k => ?_) (ih (j + 1) (by omega)))
    simp only [synopticref07_Read.l0]
    have h1 := readV_lt bs at_ j
    have h2 : 2 ^ j ≤ 2 ^ 24 := Nat.pow_le_pow_right (by omega) (by omega)
    have h3 := bn_le bs (at_ + j)
    rw [if_pos (by omega), show wrap64 ((at_ : Int) + (j : Int)) = ((at_ + j : Nat) : Int) from by unfold wrap64; omega, at_pack (by omega) hb, Option.bind_some]
    rw [wrap_two (Nat.lt_of_lt_of_le h1 h2) h3, ← readV_succ]
    rw [show wrap64 ((j : Int) + 1) = ((j + 1 : Nat) : Int) from by unfold wrap64; omega]
theorem read_ref {l : List Int} (hl : okL l) (n a w : Int) (ha : -9223372036854775808 ≤ a ∧ a ≤ 9223372036854775807) (hw : -9223372036854775808 ≤ w ∧ w ≤ 9223372036854775807) :
    ∃ r : Int × Int, Ev (fun k => bits_Read.f k l n a w) r ∧ Ev (fun k => synopticref07_Read.f k l n a w) r := by
  obtain ⟨b, h1, h2⟩ := ref_valid hl n
  unfold bits_Read.f synopticref07_Read.f
  rw [h1]
  cases b with
  | false => exact ⟨_, Ev.congr (fun k => by rw [Option.bind_some, if_neg (by simp)]) (Ev.now _), Ev.bind h2 (Ev.congr (fun k => by rw [if_neg (by simp)]) (Ev.now _))⟩
  | true =>
    obtain ⟨h3, h4, h5, h6⟩ := valid_unpack hl h1
    obtain ⟨bs, hbs⟩ : ∃ bs, bs = unpack l n.toNat := ⟨_, rfl⟩
    rw [← hbs] at h5 h6
    have hb : bs.length ≤ 40000 := by omega
    by_cases hc : 1 ≤ w ∧ w ≤ 24
    · by_cases hneg : a < 0
      · refine ⟨(0, 1), Ev.succ (Ev.congr (fun k => ?_) (Ev.now _)), Ev.bind h2 (Ev.succ (Ev.congr (fun k => ?_) (Ev.now _)))⟩
        · rw [Option.bind_some, if_pos rfl, (wd_eq _).1, Option.bind_some, if_pos (decide_eq_true hc), decide_eq_true hneg]
          simp only [bits_Read.j0, if_true]
        · rw [if_pos rfl, (wd_eq _).2, Option.bind_some, if_pos (decide_eq_true hc), decide_eq_true hneg]
          simp only [synopticref07_Read.j0, if_true]
      · by_cases hsh : a > n - w
        · refine ⟨(0, 11), Ev.succ (Ev.congr (fun k => ?_) (Ev.now _)), Ev.bind h2 (Ev.succ (Ev.congr (fun k => ?_) (Ev.now _)))⟩
          · rw [Option.bind_some, if_pos rfl, (wd_eq _).1, Option.bind_some, if_pos (decide_eq_true hc), decide_eq_false hneg]
            simp only [bits_Read.j0]
            rw [if_neg (by simp), if_pos (by unfold wrap64; omega)]
          · rw [if_pos rfl, (wd_eq _).2, Option.bind_some, if_pos (decide_eq_true hc), decide_eq_false hneg]
            simp only [synopticref07_Read.j0]
            rw [if_neg (by simp), if_pos (by unfold wrap64; omega)]
        · obtain ⟨k, rfl⟩ := Int.eq_ofNat_of_zero_le (show 0 ≤ w by omega)
          obtain ⟨u, rfl⟩ := Int.eq_ofNat_of_zero_le (show 0 ≤ a by omega)
          have hr1 := read_pack hb (at_ := u) (w := k) (by omega) (by omega) (by omega)
          have hr2 := ref_read_loop hb (at_ := u) (w := k) (by omega) (by omega) k 0 (by omega)
          rw [← h5, h6] at hr1 hr2
          refine ⟨_, ?_, Ev.bind h2 (Ev.succ (Ev.congr (fun q => ?_) hr2))⟩
          · refine Ev.congr (fun q => ?_) hr1
            unfold bits_Read.f
            rw [h1]
          · rw [if_pos rfl, (wd_eq _).2, Option.bind_some, if_pos (decide_eq_true hc), decide_eq_false hneg]
            simp only [synopticref07_Read.j0]
            rw [if_neg (by simp), if_neg (by unfold wrap64; omega)]
            rfl
    · refine ⟨(0, 1), Ev.succ (Ev.congr (fun k => ?_) (Ev.now _)), Ev.bind h2 (Ev.succ (Ev.congr (fun k => ?_) (Ev.now _)))⟩
      · rw [Option.bind_some, if_pos rfl, (wd_eq _).1, Option.bind_some, if_neg (by simp; omega)]
        simp only [bits_Read.j0, if_true]
      · rw [if_pos rfl, (wd_eq _).2, Option.bind_some, if_neg (by simp; omega)]
        simp only [synopticref07_Read.j0, if_true]

/-! ### Join, Pad, Same -/
theorem join_ref {l m : List Int} (hl : okL l) (hm : okL m) (n p : Int) :
    ∃ r : List Int × Int × Int, bits_Join.f l n m p = some r ∧ Ev (fun k => synopticref07_Join.f k l n m p) r := by
  obtain ⟨b, h1, h2⟩ := ref_valid hl n
  obtain ⟨c, g1, g2⟩ := ref_valid hm p
  unfold bits_Join.f synopticref07_Join.f
  rw [if_pos ⟨okLb_of hl, okLb_of hm⟩, h1, g1]
  cases b with
  | false =>
    rw [if_neg (by simp)]
    refine ⟨_, rfl, Ev.bind h2 (Ev.succ (Ev.congr (fun k => ?_) (Ev.now _)))⟩
    rw [if_neg (by simp)]
    simp only [synopticref07_Join.j0, if_true]
  | true =>
    cases c with
    | false =>
      rw [if_neg (by simp)]
      refine ⟨_, rfl, Ev.bind h2 (Ev.congr (fun k => by rw [if_pos rfl]) (Ev.bind g2 (Ev.succ (Ev.congr (fun k => ?_) (Ev.now _)))))⟩
      simp only [synopticref07_Join.j0, Bool.not_false, if_true]
    | true =>
      obtain ⟨h3, h4, h5, h6⟩ := valid_unpack hl h1
      obtain ⟨g3, g4, g5, g6⟩ := valid_unpack hm g1
      rw [if_pos ⟨rfl, rfl⟩]
      obtain ⟨bs, hbs⟩ : ∃ bs, bs = unpack l n.toNat := ⟨_, rfl⟩
      obtain ⟨cs, hcs⟩ : ∃ cs, cs = unpack m p.toNat := ⟨_, rfl⟩
      rw [← hbs] at h5 h6
      rw [← hcs] at g5 g6
      rw [← hbs, ← hcs]
      have hb : bs.length ≤ 40000 := by omega
      have hc : cs.length ≤ 40000 := by omega
      by_cases hlim : n + p > 40000
      · rw [if_pos hlim]
        refine ⟨_, rfl, Ev.bind h2 (Ev.congr (fun k => by rw [if_pos rfl]) (Ev.bind g2 (Ev.succ (Ev.congr (fun k => ?_) (Ev.now _)))))⟩
        simp only [synopticref07_Join.j0]
        rw [if_neg (by simp), if_pos (by unfold wrap64; omega)]
      · rw [if_neg hlim]
        have a1 := all_pack hb
        have a2 := all_pack hc
        rw [← h5, h6] at a1
        rw [← g5, g6] at a2
        have hof := of_ev (l := bi bs ++ bi cs) (by rw [List.length_append, bi_length, bi_length]; omega)
        have ho2 : ones (bi bs ++ bi cs) = bs ++ cs := by
          have := ones_bi (bs ++ cs)
          rwa [show bi (bs ++ cs) = bi bs ++ bi cs by simp [bi]] at this
        have hlen : (((bi bs ++ bi cs).length : Nat) : Int) = n + p := by rw [List.length_append, bi_length, bi_length]; omega
        rw [ho2, hlen] at hof
        have hg := Ev.bind (f := fun _ (x : List Int × Int) => some (x.1, x.2, (0 : Int))) hof (Ev.now _)
        have hg2 := Ev.bind (f := fun q (y : List Int) => if (bi bs).length + y.length < 17592186044416 then ((synopticref07_Of.f q (bi bs ++ y)).bind fun (x : List Int × Int) => some (x.1, x.2, (0 : Int))) else none) a2 (Ev.congr (fun q => by rw [if_pos (by rw [bi_length, bi_length]; omega)]) hg)
        have hg3 := Ev.bind (f := fun q (z : List Int) => (synopticref07_All.f q m p).bind fun y => if z.length + y.length < 17592186044416 then ((synopticref07_Of.f q (z ++ y)).bind fun (x : List Int × Int) => some (x.1, x.2, (0 : Int))) else none) a1 hg2
        refine ⟨_, rfl, Ev.bind h2 (Ev.congr (fun k => by rw [if_pos rfl]) (Ev.bind g2 (Ev.succ (Ev.congr (fun k => ?_) hg3))))⟩
        simp only [synopticref07_Join.j0]
        rw [if_neg (by simp), if_neg (by unfold wrap64; omega)]
theorem pad_ref {l : List Int} (hl : okL l) (n : Int) (hlen : l.length ≤ 1000000) :
    ∃ r : List Int × Int × Int, bits_Pad.f l n = some r ∧ Ev (fun k => synopticref07_Pad.f k l n) r := by
  obtain ⟨b, h1, h2⟩ := ref_valid hl n
  unfold bits_Pad.f synopticref07_Pad.f
  rw [if_pos (okLb_of hl), h1]
  cases b with
  | false =>
    rw [if_neg (by simp)]
    exact ⟨_, rfl, Ev.bind h2 (Ev.congr (fun k => by rw [if_neg (by simp)]) (Ev.now _))⟩
  | true =>
    rw [if_pos rfl]
    obtain ⟨h3, h4, h5, h6⟩ := valid_unpack hl h1
    have hll : l.length = (n.toNat + 7) / 8 := by
      have := congrArg List.length h5
      rw [pack_length, unpack_length] at this
      exact this
    refine ⟨_, rfl, Ev.bind h2 (Ev.congr (fun k => ?_) (Ev.now _))⟩
    rw [if_pos rfl, if_neg (by unfold wrap64; omega), Option.bind_some, if_pos (by simp; omega), List.nil_append]
    rw [hll, show wrap64 (8 * (((n.toNat + 7) / 8 : Nat) : Int)) = (((n.toNat + 7) / 8 : Nat) : Int) * 8 from by unfold wrap64; omega]
theorem u8_inj {x y : Int} (hx : 0 ≤ x ∧ x < 256) (hy : 0 ≤ y ∧ y < 256) (h : UInt8.ofNat x.toNat = UInt8.ofNat y.toNat) : x = y := by
  have := congrArg UInt8.toNat h
  rw [UInt8.toNat_ofNat', UInt8.toNat_ofNat'] at this
  omega
theorem bytes_inj {l : List Int} : ∀ {m : List Int}, okL l → okL m → Lib.bytesOf l = Lib.bytesOf m → l = m := by
  induction l with
  | nil => intro m _ _ h; cases m with | nil => rfl | cons y ys => simp [Lib.bytesOf] at h
  | cons x xs ih =>
    intro m hl hm h
    cases m with
    | nil => simp [Lib.bytesOf] at h
    | cons y ys =>
      simp only [Lib.bytesOf, List.map_cons, List.cons.injEq] at h
      rw [u8_inj (hl x (by simp)) (hm y (by simp)) h.1, ih (m := ys) (fun z hz => hl z (by simp [hz])) (fun z hz => hm z (by simp [hz])) h.2]
theorem ref_same {l m : List Int} (hl : okL l) (hm : okL m) (n p : Int) : synopticref07_Same.f l n m p = some (decide (n = p ∧ l = m)) := by
  unfold synopticref07_Same.f
  by_cases h : n = p
  · rw [if_pos h]
    by_cases h2 : l = m
    · subst h2; rw [decide_eq_true ⟨h, rfl⟩]; simp
    · rw [decide_eq_false (fun c => h2 c.2)]
      congr 1
      refine beq_eq_false_iff_ne.mpr (fun c => h2 (bytes_inj hl hm ?_))
      rwa [Lib.strOfNums_toList, Lib.strOfNums_toList] at c
  · rw [if_neg h, decide_eq_false (fun c => h c.1)]
theorem rd_get {l : List Int} {i : Nat} (h : i < l.length) : rd l (i : Int) = l[i] := by
  unfold rd; rw [Int.toNat_natCast, List.getD_eq_getElem?_getD, List.getElem?_eq_getElem h]; rfl
theorem drop_eq {l m : List Int} {i : Nat} (h1 : i < l.length) (h2 : i < m.length) : (l.drop i = m.drop i) ↔ (l[i] = m[i] ∧ l.drop (i + 1) = m.drop (i + 1)) := by
  rw [List.drop_eq_getElem_cons h1, List.drop_eq_getElem_cons h2, List.cons.injEq]
theorem eq_loop {l m : List Int} (hlm : l.length = m.length) (hl : l.length ≤ 1000000) (d : Nat) : ∀ i : Nat, i + d = l.length → Ev (fun k => slices_Equal_byte_byte.l0 k l m (l.length : Int) (i : Int)) (decide (l.drop i = m.drop i)) := by
  induction d with
  | zero =>
    intro i hi
    rw [List.drop_of_length_le (by omega), List.drop_of_length_le (by omega)]
    refine Ev.succ (Ev.congr (fun k => ?_) (Ev.now _))
    simp only [slices_Equal_byte_byte.l0]
    rw [if_neg (by omega)]; simp
  | succ d ih =>
    intro i hi
    have h := ih (i + 1) (by omega)
    have hd := drop_eq (show i < l.length by omega) (show i < m.length by omega)
    by_cases he : l[i]'(by omega) = m[i]'(by omega)
    · refine Ev.succ ?_
      rw [show decide (l.drop i = m.drop i) = decide (l.drop (i + 1) = m.drop (i + 1)) from decide_eq_decide.mpr (hd.trans ⟨fun c => c.2, fun c => ⟨he, c⟩⟩)]
      refine Ev.congr (fun k => ?_) h
      simp only [slices_Equal_byte_byte.l0]
      rw [if_pos (by omega), if_pos (by omega), if_pos (by omega), if_pos (by omega), rd_get (show i < l.length by omega), rd_get (show i < m.length by omega), if_pos he]
      rw [show wrap64 ((i : Int) + 1) = ((i + 1 : Nat) : Int) from by unfold wrap64; omega]
    · rw [decide_eq_false (fun c => he (hd.mp c).1)]
      refine Ev.succ (Ev.congr (fun k => ?_) (Ev.now _))
      simp only [slices_Equal_byte_byte.l0]
      rw [if_pos (by omega), if_pos (by omega), if_pos (by omega), if_pos (by omega), rd_get (show i < l.length by omega), rd_get (show i < m.length by omega), if_neg he]
theorem same_ev {l m : List Int} (n p : Int) (hl : l.length ≤ 1000000) : Ev (fun k => bits_Same.f k l n m p) (decide (n = p ∧ l = m)) := by
  unfold bits_Same.f
  by_cases h : n = p
  · by_cases h2 : l.length = m.length
    · have h3 := eq_loop h2 hl l.length 0 (by omega)
      rw [List.drop_zero, List.drop_zero] at h3
      rw [show decide (n = p ∧ l = m) = decide (l = m) from by simp [h]]
      have h4 : Ev (fun k => slices_Equal_byte_byte.f k l m) (decide (l = m)) := Ev.congr (fun k => by unfold slices_Equal_byte_byte.f; rw [if_pos (by omega)]; rfl) h3
      exact Ev.congr (fun k => by rw [if_pos h]) (Ev.bind h4 (Ev.now _))
    · have hne : decide (n = p ∧ l = m) = false := decide_eq_false (fun c => h2 (by rw [c.2]))
      rw [hne]
      refine Ev.congr (fun k => ?_) (Ev.now _)
      rw [if_pos h]
      unfold slices_Equal_byte_byte.f
      rw [if_neg (by omega)]; rfl
  · rw [decide_eq_false (fun c => h c.1)]
    exact Ev.congr (fun k => by rw [if_neg h]) (Ev.now _)
end Go.Proofs.Yteeamcodapjccaa.Bo
