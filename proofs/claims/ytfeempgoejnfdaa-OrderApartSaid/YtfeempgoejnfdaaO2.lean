/- slices.ContainsFunc over the relations of order.join, called with the closure that asks one relation of two nodes. No condition. -/
import Derived.Test.YtfeempgoejnfdaaO1
import Derived.Shelf.Abstract
namespace Go.Proofs.Ytfeempgoejnfdaa.Ord
open Go.RowKit Go.Proofs.YtfeempgoejnfdaaW.PrintWords Go.Proofs.YtfeempgoejnfdaaW.PrintLast Go.Proofs.YtfeempgoejnfdaaW.PrintMore
set_option linter.unusedVariables false
set_option linter.unusedSimpArgs false
abbrev fnV (f : Nat) : Value := .func (.func f) #[] #[]
def kfn : Kd Nat := Kd.scalar fnV (fun _ => rfl)
/-- The relation that function f computes. -/
def RelAt (f : Nat) (rel : S76 → S76 → Bool) : Prop := (∀ args w, (callFunc f args).run Try.prog w = .ok (.enter f args) w) ∧ ∀ (x y : S76) (w : World), Calls Try.prog f #[v76 x, v76 y] w (Gives (rel x y) w)
def Box76 (w : World) (b : Nat) (x : S76) : Prop := w.heap[b]? = some (.cells (c76 x).toArray 84 (0, 0))
theorem box_cells {w : World} {b : Nat} {x : S76} (h : Box76 w b x) : w.cell? ⟨b, 0, none⟩ = some (.int .i64 x.f0.f0) ∧ w.cell? ⟨b, 1, none⟩ = some (.int .i64 x.f0.f1.f0) ∧ w.cell? ⟨b, 2, none⟩ = some (.int .i64 x.f0.f1.f1) ∧ w.cell? ⟨b, 3, none⟩ = some (.int .i64 x.f0.f1.f2) ∧ w.cell? ⟨b, 4, none⟩ = some (.int .i64 x.f0.f1.f3) ∧ w.cell? ⟨b, 5, none⟩ = some (.bool x.f0.f1.f4) ∧ w.cell? ⟨b, 6, none⟩ = some (.bool x.f0.f1.f5) ∧ w.cell? ⟨b, 7, none⟩ = some (.int .i64 x.f0.f2) ∧ w.cell? ⟨b, 8, none⟩ = some (.int .i64 x.f0.f3) ∧ w.cell? ⟨b, 9, none⟩ = some (.int .i64 x.f1) := by
  unfold Box76 at h
  simp [World.cell?, h, c76]
theorem Box76.below {w w1 : World} {b : Nat} {x : S76} (h : Box76 w b x) (hb : Below w.heap.size w w1) : Box76 w1 b x := by
  unfold Box76 at *
  have : b < w.heap.size := (Array.getElem?_eq_some_iff.1 h).1
  rw [hb.block b this]; exact h
theorem ask_any (f : Nat) (rel : S76 → S76 → Bool) (hr : RelAt f rel) (p q : Nat) (x y : S76) (w : World) (hp : Box76 w p x) (hq : Box76 w q y) :
    Calls Try.prog 92 #[fnV f, .pointer (some ⟨p, 0, none⟩), .pointer (some ⟨q, 0, none⟩)] w (Gives (rel x y) w) := by
  obtain ⟨p0, p1, p2, p3, p4, p5, p6, p7, p8, p9⟩ := box_cells hp
  obtain ⟨q0, q1, q2, q3, q4, q5, q6, q7, q8, q9⟩ := box_cells hq
  obtain ⟨eg, hr⟩ := hr
  have HR := Lib.hid hr; clear hr hp hq
  go_enter Try.func92, Try.ntmps92
  go_wp2_with fail
  refine (HR.out x y _).mono ?_; rintro e w1 ⟨rfl, hb1⟩
  go_wp2
  go_ret
  exact ⟨rfl, hb1⟩
def IdxGives (b : Bool) (w : World) (e : Ending) (w' : World) : Prop := (∃ i : Int, e = .returned (.int .i64 i) ∧ decide (0 ≤ i) = b) ∧ Below w.heap.size w w'
def IdxAt (fs : List Nat) (rel : Nat → S76 → S76 → Bool) (x y : S76) (w : World) (k : Nat) (wr : World) : Prop := k ≤ fs.length ∧ (fs.take k).any (fun f => rel f x y) = false ∧ Below w.heap.size w wr
theorem at_fn {w : World} {A : Option Addr} {n : Nat} {xs : List Nat} (h : kfn.C w A n xs) (i : Nat) (h1 : i < n) : ∃ ad f, A = some ad ∧ xs[i]? = some f ∧ w.cell? (ad.add i) = some (fnV f) := by
  obtain ⟨ad, c, e, hl, hK, hc⟩ := Kd.C_get h 0 (i : Int) (by omega) (by omega)
  rw [Int.toNat_natCast] at hK hc
  have hK' : c = [fnV (xs.getD i 0)] := hK
  subst hK'
  have hi : i < xs.length := by have := h.1; omega
  refine ⟨ad, xs[i], e, List.getElem?_eq_getElem hi, ?_⟩
  have h2 := hc 0 _ rfl
  have h3 : w.cell? (ad.add (i * 1 + 0)) = some (fnV (xs.getD i 0)) := h2
  rw [Nat.mul_one, Nat.add_zero] at h3
  rw [h3, List.getD_eq_getElem?_getD, List.getElem?_eq_getElem hi]; rfl
theorem take_any {α : Type} (l : List α) (p : α → Bool) (k : Nat) (a : α) (h : l[k]? = some a) : (l.take (k + 1)).any p = ((l.take k).any p || p a) := by
  obtain ⟨hk, rfl⟩ := List.getElem?_eq_some_iff.1 h
  rw [List.take_succ_eq_append_getElem hk, List.any_append]
  simp
theorem take_any_true {α : Type} (l : List α) (p : α → Bool) (k : Nat) (h : (l.take k).any p = true) : l.any p = true := by
  rw [List.any_eq_true] at *
  obtain ⟨x, hx, hp⟩ := h
  exact ⟨x, List.mem_of_mem_take hx, hp⟩
theorem indexRels_any (fs : List Nat) (rel : Nat → S76 → S76 → Bool) (hr : ∀ f, f ∈ fs → RelAt f (rel f)) (A : Option Addr) (c : Nat) (p q : Nat) (x y : S76) (w : World) (hp : Box76 w p x) (hq : Box76 w q y) (hrow : kfn.C w A fs.length fs) :
    Calls Try.prog 118 #[.slice A fs.length c, .func (.func 92) #[] #[.pointer (some ⟨p, 0, none⟩), .pointer (some ⟨q, 0, none⟩)]] w (IdxGives (fs.any fun f => rel f x y) w) := by
  have hmax : fs.length ≤ 9223372036854775807 := hrow.2.1
  have HR := Lib.hid hr; have HP := Lib.hid hp; have HQ := Lib.hid hq; have HC := Lib.hid hrow; clear hr hp hq hrow
  go_enter Try.func118, Try.ntmps118
  go_wp2
  go_loopw [8] (fun v wr => ∃ k : Nat, v = .int .i64 k ∧ IdxAt fs rel x y w k wr) (fun v _ => fs.length - (intOf v).toNat)
  case atStart => exact ⟨0, rfl, by omega, rfl, Below.refl _ _⟩
  case round =>
    obtain ⟨k, rfl, hk, hno, hbw⟩ := hrel
    have HN := Lib.hid hno; have HB := Lib.hid hbw; clear hno hbw
    by_cases hlt : k < fs.length
    · obtain ⟨ad, f, rfl, hf, hcell⟩ := at_fn (Kd.C_below HC.out HB.out) k hlt
      have hmem : f ∈ fs := List.mem_of_getElem? hf
      have HF := Lib.hid hf; clear hf
      have HM := Lib.hid hmem; clear hmem
      go_wp2_with fail
      refine (ask_any f (rel f) (HR.out f HM.out) p q x y _ (HP.out.below HB.out) (HQ.out.below HB.out)).mono ?_
      rintro e w1 ⟨rfl, hb1⟩
      have HB1 := Lib.hid (HB.out.trans (hb1.mono HB.out.size)); clear hb1
      cases hb : rel f x y
      · go_wp2
        go_roundw
        case rel => exact ⟨k + 1, by go_num, by omega, by rw [take_any _ _ _ _ HF.out, HN.out, hb]; rfl, HB1.out⟩
        case measure => simp [intOf]; omega
      · go_wp2
        go_ret
        refine ⟨⟨_, rfl, ?_⟩, HB1.out⟩
        have := take_any_true fs (fun f => rel f x y) (k + 1) (by rw [take_any _ _ _ _ HF.out, hb]; simp)
        rw [this]; simp
    · go_wp2
      go_ret
      refine ⟨⟨_, rfl, ?_⟩, HB.out⟩
      have : fs.take k = fs := List.take_of_length_le (by omega)
      have h := HN.out
      rw [this] at h
      rw [h]; decide
theorem containsRels_any (fs : List Nat) (rel : Nat → S76 → S76 → Bool) (hr : ∀ f, f ∈ fs → RelAt f (rel f)) (A : Option Addr) (c : Nat) (p q : Nat) (x y : S76) (w : World) (hp : Box76 w p x) (hq : Box76 w q y) (hrow : kfn.C w A fs.length fs) :
    Calls Try.prog 91 #[.slice A fs.length c, .func (.func 92) #[] #[.pointer (some ⟨p, 0, none⟩), .pointer (some ⟨q, 0, none⟩)]] w (Gives (fs.any fun f => rel f x y) w) := by
  have h := indexRels_any fs rel hr A c p q x y w hp hq hrow
  clear hr hp hq hrow
  generalize (fs.any fun f => rel f x y) = b at *
  have H := Lib.hid h; clear h
  go_enter Try.func91, Try.ntmps91
  go_wp2_with fail
  refine H.out.mono ?_
  rintro e w1 ⟨⟨i, rfl, hi⟩, hb1⟩
  have HI := Lib.hid hi; clear hi
  go_wp2
  go_ret
  exact ⟨ret_bool (by rw [← HI.out]), hb1⟩
end Go.Proofs.Ytfeempgoejnfdaa.Ord
