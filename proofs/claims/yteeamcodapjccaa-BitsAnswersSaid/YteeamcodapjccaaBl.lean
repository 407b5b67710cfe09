/- An array of three lists of bits in memory. -/
import Derived.Test.YteeamcodapjccaaBk
namespace Go.Proofs.Yteeamcodapjccaa.Bl
open Go.RowKit Go.Proofs.YteeamcodapjccaaW.PrintWords Go.Proofs.YteeamcodapjccaaW.PrintLast Go.Proofs.YteeamcodapjccaaW.PrintMore
open Go.Proofs.Yteeamcodapjccaa.PBitsAnswers Go.Proofs.Yteeamcodapjccaa.Bb Go.Proofs.Yteeamcodapjccaa.Be Go.Proofs.Yteeamcodapjccaa.Bf Go.Proofs.Yteeamcodapjccaa.X Go.Proofs.Yteeamcodapjccaa.Bh Go.Proofs.Yteeamcodapjccaa.Bi Go.Proofs.Yteeamcodapjccaa.Bj
set_option linter.unusedVariables false
set_option linter.unusedSimpArgs false

structure Tri where
  A : Option Addr
  c : Nat
  b : List Bool
def Tri.sl (t : Tri) : Value := .slice t.A (pack t.b).length t.c
def xsl (l : List Tri) (j : Nat) : Value := match l[j]? with | some t => t.sl | none => .slice none 0 0
def xn (l : List Tri) (j : Nat) : Value := match l[j]? with | some t => .int .i64 (t.b.length : Int) | none => .int .i64 0
structure XS (w0 w : World) (g : Nat) (l : List Tri) : Prop where
  blk : w.heap[g]? = some (.cells #[xsl l 0, xn l 0, xsl l 1, xn l 1, xsl l 2, xn l 2] 38 (0, 0))
  ge : w0.heap.size ≤ g
  rows : ∀ t ∈ l, Kd.R (Kd.int .u8) 5 w w0.heap.size (fun _ => True) t.sl (pack t.b) ∧ t.b.length ≤ 40
theorem XS.below {w0 w w1 : World} {g : Nat} {l : List Tri} (h : XS w0 w g l) (hb : Below w.heap.size w w1) : XS w0 w1 g l :=
  ⟨blk_below h.blk hb, h.ge, fun t ht => ⟨Kd.R_below (h.rows t ht).1 hb, (h.rows t ht).2⟩⟩
theorem XS.keep {w0 w w1 : World} {g gs : Nat} {l : List Tri} {f0 : List Int} {f1 : Int} (h : XS w0 w g l) (hI : IsS60 w0 w gs f0 f1) (hk : KeepBut w w1 gs none) : XS w0 w1 g l :=
  ⟨(hk.2 g (blk_lt h.blk) (Ne.symm (hI.ne_blk h.blk (by decide))) (by simp)).trans h.blk, h.ge, fun t ht => ⟨Kd.R_mono (Kd.R_keep (IsS60.apart hI (h.rows t ht).1 (by decide)) hk (fun _ h => h.2)) (fun _ h => h.1), (h.rows t ht).2⟩⟩
theorem XS.grown {w0 w w1 : World} {g b : Nat} {l : List Tri} {ok : Nat → Prop} {v : Value} {ys : List Int} (h : XS w0 w g l) (hv : Kd.R (Kd.int .i64) 3 w b ok v ys) (hg : w.grownBy w1 v.ownBlock) : XS w0 w1 g l :=
  ⟨(hg.block g (blk_lt h.blk) (Kd.R_ne hv h.blk (by decide))).trans h.blk, h.ge, fun t ht => ⟨Kd.R_over (h.rows t ht).1 hv (by decide) hg, (h.rows t ht).2⟩⟩
theorem row_x {w : World} {b g : Nat} {v : Value} {xs : List Int} {cells : Array Value} (h : Kd.R (Kd.int .u8) 5 w b (fun _ => True) v xs) (hb : w.heap[g]? = some (.cells cells 38 (0, 0))) (i : Nat) (u : Value) : Kd.R (Kd.int .u8) 5 (w.setCell ⟨g, i, none⟩ u) b (fun _ => True) v xs :=
  Kd.R_set h hb (by decide) i u
theorem XS.put {w0 w : World} {g : Nat} {l : List Tri} (h : XS w0 w g l) (t : Tri) (ht : Kd.R (Kd.int .u8) 5 w w0.heap.size (fun _ => True) t.sl (pack t.b)) (hb : t.b.length ≤ 40) (hl : l.length < 3) :
    XS w0 ((w.setCell ⟨g, 2 * l.length, none⟩ t.sl).setCell ⟨g, 2 * l.length + 1, none⟩ (.int .i64 (t.b.length : Int))) g (l ++ [t]) := by
  have hr : ∀ v xs, Kd.R (Kd.int .u8) 5 w w0.heap.size (fun _ => True) v xs → Kd.R (Kd.int .u8) 5 ((w.setCell ⟨g, 2 * l.length, none⟩ t.sl).setCell ⟨g, 2 * l.length + 1, none⟩ (.int .i64 (t.b.length : Int))) w0.heap.size (fun _ => True) v xs := fun v xs hv =>
    row_x (row_x hv h.blk _ _) (blk_put h.blk _ _ rfl) _ _
  refine ⟨?_, h.ge, fun u hu => ?_⟩
  · obtain ⟨hk, _, _⟩ := h
    clear ht hr
    rcases l with _ | ⟨t0, _ | ⟨t1, _ | ⟨t2, l⟩⟩⟩
    · exact blk_put (blk_put hk 0 _ rfl) 1 _ rfl
    · exact blk_put (blk_put hk 2 _ rfl) 3 _ rfl
    · exact blk_put (blk_put hk 4 _ rfl) 5 _ rfl
    · simp at hl; omega
  · rcases List.mem_append.mp hu with h1 | h1
    · exact ⟨hr _ _ (h.rows u h1).1, (h.rows u h1).2⟩
    · obtain rfl := List.mem_singleton.mp h1
      exact ⟨hr _ _ ht, hb⟩

/-- All three are filled. -/
structure X3 (w0 w : World) (g : Nat) (A0 : Option Addr) (k0 : Nat) (b0 : List Bool) (A1 : Option Addr) (k1 : Nat) (b1 : List Bool) (A2 : Option Addr) (k2 : Nat) (b2 : List Bool) : Prop where
  blk : w.heap[g]? = some (.cells #[.slice A0 (pack b0).length k0, .int .i64 (b0.length : Int), .slice A1 (pack b1).length k1, .int .i64 (b1.length : Int), .slice A2 (pack b2).length k2, .int .i64 (b2.length : Int)] 38 (0, 0))
  row0 : Kd.R (Kd.int .u8) 5 w w0.heap.size (fun _ => True) (.slice A0 (pack b0).length k0) (pack b0)
  row1 : Kd.R (Kd.int .u8) 5 w w0.heap.size (fun _ => True) (.slice A1 (pack b1).length k1) (pack b1)
  row2 : Kd.R (Kd.int .u8) 5 w w0.heap.size (fun _ => True) (.slice A2 (pack b2).length k2) (pack b2)
section
variable {w0 w w1 : World} {g : Nat} {A0 A1 A2 : Option Addr} {k0 k1 k2 : Nat} {b0 b1 b2 : List Bool}
theorem X3.step (h : X3 w0 w g A0 k0 b0 A1 k1 b1 A2 k2 b2) (hb : Below w.heap.size w w1) : X3 w0 w1 g A0 k0 b0 A1 k1 b1 A2 k2 b2 := ⟨blk_below h.blk hb, Kd.R_below h.row0 hb, Kd.R_below h.row1 hb, Kd.R_below h.row2 hb⟩
theorem X3.c0 (h : X3 w0 w g A0 k0 b0 A1 k1 b1 A2 k2 b2) : w.cell? ⟨g, 0, none⟩ = some (.slice A0 (pack b0).length k0) := (blk_cell h.blk 0).trans rfl
theorem X3.c1 (h : X3 w0 w g A0 k0 b0 A1 k1 b1 A2 k2 b2) : w.cell? ⟨g, 1, none⟩ = some (.int .i64 (b0.length : Int)) := (blk_cell h.blk 1).trans rfl
theorem X3.c2 (h : X3 w0 w g A0 k0 b0 A1 k1 b1 A2 k2 b2) : w.cell? ⟨g, 2, none⟩ = some (.slice A1 (pack b1).length k1) := (blk_cell h.blk 2).trans rfl
theorem X3.c3 (h : X3 w0 w g A0 k0 b0 A1 k1 b1 A2 k2 b2) : w.cell? ⟨g, 3, none⟩ = some (.int .i64 (b1.length : Int)) := (blk_cell h.blk 3).trans rfl
theorem X3.c4 (h : X3 w0 w g A0 k0 b0 A1 k1 b1 A2 k2 b2) : w.cell? ⟨g, 4, none⟩ = some (.slice A2 (pack b2).length k2) := (blk_cell h.blk 4).trans rfl
theorem X3.c5 (h : X3 w0 w g A0 k0 b0 A1 k1 b1 A2 k2 b2) : w.cell? ⟨g, 5, none⟩ = some (.int .i64 (b2.length : Int)) := (blk_cell h.blk 5).trans rfl
theorem X3.read0 (h : X3 w0 w g A0 k0 b0 A1 k1 b1 A2 k2 b2) : Kd.C (Kd.int .u8) w A0 (pack b0).length (pack b0) := (Kd.R_reads' h.row0).2.2
theorem X3.cap0 (h : X3 w0 w g A0 k0 b0 A1 k1 b1 A2 k2 b2) : (pack b0).length ≤ k0 := (Kd.R_reads' h.row0).2.1
theorem X3.read1 (h : X3 w0 w g A0 k0 b0 A1 k1 b1 A2 k2 b2) : Kd.C (Kd.int .u8) w A1 (pack b1).length (pack b1) := (Kd.R_reads' h.row1).2.2
theorem X3.cap1 (h : X3 w0 w g A0 k0 b0 A1 k1 b1 A2 k2 b2) : (pack b1).length ≤ k1 := (Kd.R_reads' h.row1).2.1
theorem X3.read2 (h : X3 w0 w g A0 k0 b0 A1 k1 b1 A2 k2 b2) : Kd.C (Kd.int .u8) w A2 (pack b2).length (pack b2) := (Kd.R_reads' h.row2).2.2
theorem X3.cap2 (h : X3 w0 w g A0 k0 b0 A1 k1 b1 A2 k2 b2) : (pack b2).length ≤ k2 := (Kd.R_reads' h.row2).2.1
end
theorem XS.full {w0 w : World} {g : Nat} {t0 t1 t2 : Tri} (h : XS w0 w g [t0, t1, t2]) : X3 w0 w g t0.A t0.c t0.b t1.A t1.c t1.b t2.A t2.c t2.b :=
  ⟨h.blk, (h.rows t0 (by simp)).1, (h.rows t1 (by simp)).1, (h.rows t2 (by simp)).1⟩
/-- A list in memory is stored over. -/
theorem Bx.set {w0 w : World} {g : Nat} {A A' : Option Addr} {c c' : Nat} {bs bs' : List Bool} {n n' : Int} (h : Bx w0 w g A c bs n) (hr : Kd.R (Kd.int .u8) 5 w w0.heap.size (fun _ => True) (.slice A' (pack bs').length c') (pack bs')) :
    Bx w0 ((w.setCell ⟨g, 0, none⟩ (.slice A' (pack bs').length c')).setCell ⟨g, 1, none⟩ (.int .i64 n')) g A' c' bs' n' :=
  ⟨blk_put (blk_put h.blk 0 _ rfl) 1 _ rfl, row_far (row_far hr h.blk 0 _) (blk_put h.blk 0 _ rfl) 1 _⟩
/-- .. and the others are as they were. -/
theorem Bx.other {w0 w : World} {g g2 : Nat} {A A2 : Option Addr} {c c2 : Nat} {bs bs2 : List Bool} {n n2 : Int} (h : Bx w0 w g A c bs n) (h2 : Bx w0 w g2 A2 c2 bs2 n2) (hne : g ≠ g2) (u v : Value) :
    Bx w0 ((w.setCell ⟨g2, 0, none⟩ u).setCell ⟨g2, 1, none⟩ v) g A c bs n :=
  ⟨blk_far (blk_far h.blk hne u) hne v, row_far (row_far h.row h2.blk 0 _) (blk_put h2.blk 0 _ rfl) 1 _⟩
theorem X3.other {w0 w : World} {g g2 : Nat} {A0 A1 A2 : Option Addr} {k0 k1 k2 : Nat} {b0 b1 b2 : List Bool} {A' : Option Addr} {c2 : Nat} {bs2 : List Bool} {n2 : Int} (h : X3 w0 w g A0 k0 b0 A1 k1 b1 A2 k2 b2) (h2 : Bx w0 w g2 A' c2 bs2 n2) (u v : Value) :
    X3 w0 ((w.setCell ⟨g2, 0, none⟩ u).setCell ⟨g2, 1, none⟩ v) g A0 k0 b0 A1 k1 b1 A2 k2 b2 := by
  have hne : g ≠ g2 := fun e => by subst e; have := h.blk.symm.trans h2.blk; injection this with this; injection this with h1 h3 h4; cases h3
  exact ⟨blk_far (blk_far h.blk hne u) hne v, row_far (row_far h.row0 h2.blk 0 _) (blk_put h2.blk 0 _ rfl) 1 _, row_far (row_far h.row1 h2.blk 0 _) (blk_put h2.blk 0 _ rfl) 1 _, row_far (row_far h.row2 h2.blk 0 _) (blk_put h2.blk 0 _ rfl) 1 _⟩
theorem alloc_blk (w : World) (o : Obj) : (w.alloc o).heap[w.heap.size]? = some o := blk_new w o
theorem cell_set_ne {w : World} {a : Addr} {g j : Nat} {u v : Value} (h : w.cell? a = some v) (hne : a.block ≠ g) : (w.setCell ⟨g, j, none⟩ u).cell? a = some v :=
  (World.cell?_of_block (Below.heap_setCell w ⟨g, j, none⟩ u a.block hne)).trans h
/-- A list of bits in a block made with its content. -/
theorem Bx.made {w0 w : World} {A : Option Addr} {c : Nat} {bs : List Bool} {n : Int} (hr : Kd.R (Kd.int .u8) 5 w w0.heap.size (fun _ => True) (.slice A (pack bs).length c) (pack bs)) :
    Bx w0 (w.alloc (.cells #[.slice A (pack bs).length c, .int .i64 n] 28)) w.heap.size A c bs n := ⟨alloc_blk _ _, Kd.R_alloc hr _⟩
/-- .. and in one made before. -/
theorem Bx.laid {w0 w : World} {g : Nat} {A : Option Addr} {c : Nat} {bs : List Bool} {n : Int} (hr : Kd.R (Kd.int .u8) 5 w w0.heap.size (fun _ => True) (.slice A (pack bs).length c) (pack bs)) (hk : w.heap[g]? = some (.cells #[.slice none 0 0, .int .i64 0] 28 (0, 0))) :
    Bx w0 ((w.setCell ⟨g, 0, none⟩ (.slice A (pack bs).length c)).setCell ⟨g, 1, none⟩ (.int .i64 n)) g A c bs n :=
  ⟨blk_put (blk_put hk 0 _ rfl) 1 _ rfl, row_far (row_far hr hk 0 _) (blk_put hk 0 _ rfl) 1 _⟩
theorem Bx.off {w0 w : World} {g g2 : Nat} {A : Option Addr} {c : Nat} {bs : List Bool} {n : Int} (h : Bx w0 w g A c bs n) (hk : w.heap[g2]? = some (.cells #[.slice none 0 0, .int .i64 0] 28 (0, 0))) (hne : g ≠ g2) (u v : Value) :
    Bx w0 ((w.setCell ⟨g2, 0, none⟩ u).setCell ⟨g2, 1, none⟩ v) g A c bs n :=
  ⟨blk_far (blk_far h.blk hne u) hne v, row_far (row_far h.row hk 0 _) (blk_put hk 0 _ rfl) 1 _⟩
theorem X3.off {w0 w : World} {g g2 : Nat} {A0 A1 A2 : Option Addr} {k0 k1 k2 : Nat} {b0 b1 b2 : List Bool} (h : X3 w0 w g A0 k0 b0 A1 k1 b1 A2 k2 b2) (hk : w.heap[g2]? = some (.cells #[.slice none 0 0, .int .i64 0] 28 (0, 0))) (hne : g ≠ g2) (u v : Value) :
    X3 w0 ((w.setCell ⟨g2, 0, none⟩ u).setCell ⟨g2, 1, none⟩ v) g A0 k0 b0 A1 k1 b1 A2 k2 b2 :=
  ⟨blk_far (blk_far h.blk hne u) hne v, row_far (row_far h.row0 hk 0 _) (blk_put hk 0 _ rfl) 1 _, row_far (row_far h.row1 hk 0 _) (blk_put hk 0 _ rfl) 1 _, row_far (row_far h.row2 hk 0 _) (blk_put hk 0 _ rfl) 1 _⟩
theorem bits_one {bs : List Bool} {j : Nat} (h : j < bs.length) : bitsOf (bn bs j) 1 = [bs[j]] := by
  unfold bitsOf bitsOf bn
  rw [List.getD_eq_getElem?_getD, List.getElem?_eq_getElem h]
  cases bs[j] <;> rfl
end Go.Proofs.Yteeamcodapjccaa.Bl
