/- slices.ContainsFunc over nodes with the literal of order's Consistent; order's Consistent: what they compute. No node stands twice, at most a million events. -/
import Derived.Test.YtfeempgoejnfdaaH11
namespace Go.Proofs.Ytfeempgoejnfdaa.Ord
open Go.RowKit Go.Proofs.YtfeempgoejnfdaaW.PrintWords Go.Proofs.YtfeempgoejnfdaaW.PrintLast Go.Proofs.YtfeempgoejnfdaaW.PrintMore
set_option linter.unusedVariables false
set_option linter.unusedSimpArgs false
/-- What the literal reads, in whatever world behind w. -/
structure LitEnv (l : List S76) (y : S76) (V : Nat → Bool) (k : Nat) (A : Option Addr) (c cg pb ph pl pk g : Nat) (w : World) : Prop where
  nd : l.Nodup
  len : l.length ≤ 1000000
  hk : k < l.length
  C : k76.C w A l.length l
  b : Box76 w pb y
  hh : w.cell? ⟨ph, 0, none⟩ = some (.slice (some ⟨g, 0, none⟩) l.length cg)
  hl : w.cell? ⟨pl, 0, none⟩ = some (.slice A l.length c)
  hp : w.cell? ⟨pk, 0, none⟩ = some (.int .i64 (k : Int))
  r : ∀ j, j < l.length → ∃ bj, w.cell? ⟨g, j, none⟩ = some (.slice (some ⟨bj, 0, none⟩) l.length l.length) ∧ w.cell? ⟨bj, k, none⟩ = some (.bool (V j))
theorem LitEnv.below {l : List S76} {y : S76} {V : Nat → Bool} {k : Nat} {A : Option Addr} {c cg pb ph pl pk g : Nat} {w w1 : World} (h : LitEnv l y V k A c cg pb ph pl pk g w) (hb : Below w.heap.size w w1) : LitEnv l y V k A c cg pb ph pl pk g w1 := by
  have key : ∀ {a : Addr} {u : Value}, w.cell? a = some u → w1.cell? a = some u := fun {a u} ha => by rw [hb.cell (World.block_lt_of_cell? w _ ha)]; exact ha
  exact ⟨h.nd, h.len, h.hk, Kd.C_below h.C hb, h.b.below hb, key h.hh, key h.hl, key h.hp, fun j hj => by obtain ⟨bj, h1, h2⟩ := h.r j hj; exact ⟨bj, key h1, key h2⟩⟩
abbrev litV (pb ph pl pk : Nat) : Value := .func (.func 65) #[] #[.pointer (some ⟨pb, 0, none⟩), .pointer (some ⟨ph, 0, none⟩), .pointer (some ⟨pl, 0, none⟩), .pointer (some ⟨pk, 0, none⟩)]
def litP (l : List S76) (y : S76) (V : Nat → Bool) (j : Nat) : Bool := rfB (rd_T76 l j) y && V j
theorem range_true {p : Nat → Bool} {n j : Nat} (hj : j < n) (h : p j = true) : (List.range n).any p = true := by
  simp only [List.any_eq_true, List.mem_range]; exact ⟨j, hj, h⟩
theorem indexLit_any (l : List S76) (y : S76) (V : Nat → Bool) (k : Nat) (A : Option Addr) (c cg pb ph pl pk g : Nat) (w : World) (h : LitEnv l y V k A c cg pb ph pl pk g w) :
    Calls Try.prog 96 #[.slice A l.length c, litV pb ph pl pk] w (IdxGives ((List.range l.length).any (litP l y V)) w) := by
  have hlen := h.len
  have HE := Lib.hid h; clear h
  go_enter Try.func96, Try.ntmps96
  go_wp2
  go_loopw [8] (fun v wr => ∃ j : Nat, v = .int .i64 j ∧ j ≤ l.length ∧ (List.range j).any (litP l y V) = false ∧ Below w.heap.size w wr) (fun v _ => l.length - (intOf v).toNat)
  case atStart => exact ⟨0, rfl, by omega, rfl, Below.refl _ _⟩
  case round =>
    obtain ⟨j, rfl, hj, hno, hbw⟩ := hrel
    have HN := Lib.hid hno; have HB := Lib.hid hbw; clear hno hbw
    by_cases hlt : j < l.length
    · have HEW := Lib.hid (HE.out.below HB.out)
      obtain ⟨ad, rfl, g0, g1, g2, g3, g4, g5, g6, g7, g8, g9⟩ := at_T76 HEW.out.C (j : Int) (by omega) (by omega)
      rw [Int.toNat_natCast] at *
      have HP := Lib.hid (show litP l y V j = (rfB (rd_T76 l j) y && V j) from rfl)
      have HXE := Lib.hid (show l[j]? = some (rd_T76 l j) by rw [rd_get hlt, List.getElem?_eq_getElem hlt])
      obtain ⟨bj, r1, r2⟩ := HEW.out.r j hlt
      have HR1 := Lib.hid r1; have HR2 := Lib.hid r2; clear r1 r2
      generalize rd_T76 l (j : Int) = x at *
      generalize V j = vj at *
      go_wp2_with fail
      refine (lit65_any l HEW.out.nd HEW.out.len x y k j vj HXE.out HEW.out.hk _ c cg pb ph pl pk g bj _ HEW.out.C HEW.out.b HEW.out.hh HEW.out.hl HEW.out.hp HR1.out HR2.out).mono ?_
      rintro e w1 ⟨rfl, hb1⟩
      have HB1 := Lib.hid (HB.out.trans (hb1.mono HB.out.size)); clear hb1
      rw [← HP.out]
      cases hb : litP l y V j
      · go_wp2
        go_roundw
        case rel => exact ⟨j + 1, by go_num, by omega, by rw [range_any, HN.out, hb]; rfl, HB1.out⟩
        case measure => simp [intOf]; omega
      · go_wp2
        go_ret
        refine ⟨⟨_, rfl, ?_⟩, HB1.out⟩
        rw [range_true hlt hb]; simp
    · obtain rfl : j = l.length := by omega
      go_wp2
      go_ret
      refine ⟨⟨_, rfl, ?_⟩, HB.out⟩
      rw [HN.out]; decide
theorem containsLit_any (l : List S76) (y : S76) (V : Nat → Bool) (k : Nat) (A : Option Addr) (c cg pb ph pl pk g : Nat) (w : World) (h : LitEnv l y V k A c cg pb ph pl pk g w) :
    Calls Try.prog 64 #[.slice A l.length c, litV pb ph pl pk] w (Gives ((List.range l.length).any (litP l y V)) w) := by
  have h := indexLit_any l y V k A c cg pb ph pl pk g w h
  generalize ((List.range l.length).any (litP l y V)) = b at *
  have H := Lib.hid h; clear h
  go_enter Try.func64, Try.ntmps64
  go_wp2_with fail
  refine H.out.mono ?_
  rintro e w1 ⟨⟨i, rfl, hi⟩, hb1⟩
  have HI := Lib.hid hi; clear hi
  go_wp2
  go_ret
  exact ⟨ret_bool (by rw [← HI.out]), hb1⟩
end Go.Proofs.Ytfeempgoejnfdaa.Ord
