/- slices.SortFunc over nodes by their Ids: a row of the call's own holds its nodes in the order of their Ids. Ids of their own, none negative. -/
import Derived.Test.YtfeempgoejnfdaaA0
import Derived.Test.YtfeempgoejnfdaaA1
namespace Go.Proofs.Ytfeempgoejnfdaa.Ord
open Go.RowKit Go.Lib Go.Sort Go.Proofs.YtfeempgoejnfdaaW.PrintWords Go.Proofs.YtfeempgoejnfdaaW.PrintLast Go.Proofs.YtfeempgoejnfdaaW.PrintMore
set_option linter.unusedVariables false
set_option linter.unusedSimpArgs false
theorem closure89 (x y : S76) (h1 : 0 ≤ idN x) (h2 : idN x ≤ 9223372036854775807) (h3 : 0 ≤ idN y) (h4 : idN y ≤ 9223372036854775807) (W : World) :
    Calls Try.prog 89 #[v76 x, v76 y] W fun e w' => e = .returned (.int .i64 (idN x - idN y)) ∧ ∃ q os', w' = grow (W.drewN q) os' := by
  have hw : IntKind.i64.wrap (x.f0.f3 - y.f0.f3) = idN x - idN y := by
    unfold idN at *
    simp [IntKind.wrap, IntKind.bits, IntKind.signed]; omega
  generalize idN x - idN y = r at hw ⊢
  go_enter Try.func89, Try.ntmps89
  go_wp2
  go_ret
  exact ⟨rfl, 0, _, by rw [alloc_eq_grow, alloc_eq_grow, grow_grow]; rfl⟩
theorem flat_cells {α : Type} [Inhabited α] (enc : α → List Value) (k : Nat) (w : World) (g : Nat) (d : Array α) (cells : Array Value) (e : TypeId) (hk : ∀ x, (enc x).length = k) (hb : w.heap[g]? = some (.cells cells e (0, 0)))
    (hc : ∀ i c, i < d.size → c < k → w.cell? ⟨g, i * k + c, none⟩ = some (enc d[i]!)[c]!) : HoldsK enc k w g 0 d := by
  intro j hj
  rw [size_flatK] at hj
  have hk0 : 0 < k := by rcases Nat.eq_zero_or_pos k with h | h; · subst h; simp at hj
                         · exact h
  have h1 : j / k < d.size := Nat.div_lt_of_lt_mul (by rw [Nat.mul_comm]; exact hj)
  have h2 : j % k < k := Nat.mod_lt _ hk0
  have h3 := hc (j / k) (j % k) h1 h2
  rw [Nat.div_add_mod' j k] at h3
  rw [get_flatK _ _ _ _ hj, Nat.zero_add]
  exact ⟨h3, by simp [World.frozen?, hb]⟩
theorem sw_below {α : Type} [Inhabited α] (enc : α → List Value) (k : Nat) (w : World) (g n B : Nat) (d : Array α) (os : Array Obj) (hB : B ≤ g) (hg : g < w.heap.size) : RowKit.Below B w (sortWorldK enc k w g 0 n d os) := by
  refine ⟨rfl, rfl, rfl, ?_, fun i hi => ?_⟩
  · simp only [sortWorldK, size_grow, putRowK, size_putRow]
    exact Nat.le_add_right _ _
  · simp only [sortWorldK]
    rw [heap_grow_old _ _ (by simp only [putRowK, size_putRow]; exact Nat.lt_trans (Nat.lt_of_lt_of_le hi hB) hg)]
    simp only [putRowK, putRow, mapBlock, Array.getElem?_modify]
    rw [if_neg (by omega)]
    rfl
/-- What the sorted row is. -/
def SortGives (l : List S76) (B : Nat) (v : Value) (w : World) (e : Ending) (w' : World) : Prop :=
  e = .returned (.tuple #[]) ∧ RowKit.Below B w w' ∧ ∃ (L : List S76) (A : Option Addr) (c : Nat), L.Perm l ∧ L.Pairwise (fun x y => idN x < idN y) ∧ v = .slice A L.length c ∧ k76.C w' A L.length L
abbrev In (l : List S76) := {x : S76 // x ∈ l}
def cfN {l : List S76} (x y : In l) : Int := idN x.1 - idN y.1
def encN {l : List S76} (x : In l) : List Value := c76 x.1
theorem swoN {l : List S76} : SWO (ltOf (cfN (l := l))) := by
  constructor
  · intro x; simp [ltOf, cfN]
  · intro x y z h1 h2; have h1 : idN x.1 - idN y.1 < 0 := of_decide_eq_true h1; have h2 : idN y.1 - idN z.1 < 0 := of_decide_eq_true h2; exact decide_eq_true (show idN x.1 - idN z.1 < 0 by omega)
  · intro x y z h1 h2; have h1 : ¬ idN x.1 - idN y.1 < 0 := of_decide_eq_false h1; have h2 : ¬ idN y.1 - idN z.1 < 0 := of_decide_eq_false h2; exact decide_eq_false (show ¬ idN x.1 - idN z.1 < 0 by omega)
set_option maxHeartbeats 1000000 in
theorem sort_any (l : List S76) (hid : ∀ x, x ∈ l → 0 ≤ idN x ∧ idN x ≤ 9223372036854775807) (hone : l.Pairwise (fun x y => idN x ≠ idN y)) (hlen : l.length ≤ 1000000) (B : Nat) (w : World) (v : Value) (hR : Kd.R k76 84 w B (fun _ => True) v l) :
    Calls Try.prog 88 #[v, fnV 89] w (SortGives l B v w) := by
  rcases Nat.eq_zero_or_pos l.length with h0 | hp
  · obtain ⟨A, c, rfl, hc, hC⟩ := Kd.R_reads hR
    have hl : l = [] := List.eq_nil_of_length_eq_zero h0
    subst hl
    refine Calls.mono (AnyF.slices_SortFunc_none (P := Try.prog) (ρ := sortNode_ren) sortNode A c (fnV 89) w) ?_
    rintro e w' ⟨he, rfl⟩
    exact ⟨he, RowKit.Below.refl _ _, [], A, c, List.Perm.refl _, List.Pairwise.nil, rfl, hC⟩
  · obtain ⟨g, cap, rfl, hB, hg, cells, hcells⟩ := Kd.R_form hR hp
    obtain ⟨A, c, he, hcl, hC⟩ := Kd.R_reads hR
    injection he with he1 he2 he3
    subst he1
    obtain ⟨x0, hx0⟩ : ∃ x, x ∈ l := List.exists_mem_of_length_pos hp
    letI : Inhabited (In l) := ⟨⟨x0, hx0⟩⟩
    have hds : (l.attach).toArray.size = l.length := by simp
    have hget : ∀ i (hi : i < l.length), ((l.attach).toArray[i]!).1 = l[i] := by
      intro i hi
      rw [getElem!_pos _ _ (by rw [hds]; exact hi)]
      simp
    have hH : HoldsK encN 10 w g 0 (l.attach).toArray := by
      refine flat_cells encN 10 w g _ cells 84 (fun x => rfl) hcells fun i c hi hc => ?_
      rw [hds] at hi
      obtain ⟨ad, c0, ea, _, hK, hcell⟩ := Kd.C_get hC x0 (i : Int) (by omega) (by omega)
      injection ea with ea
      subst ea
      rw [Int.toNat_natCast] at hK hcell
      rw [List.getD_eq_getElem?_getD, List.getElem?_eq_getElem hi] at hK
      have hc0 := k76_open hK
      subst hc0
      have hlt : c < (c76 l[i]).length := hc
      have h1 := hcell c ((c76 l[i])[c]'hlt) (List.getElem?_eq_getElem hlt)
      rw [encN, hget i hi, getElem!_pos (c76 l[i]) c hlt]
      rw [add_plain] at h1
      exact h1
    have hcmp : CmpLays Try.prog 89 #[] encN 10 (cfN (l := l)) g 0 (l.attach).toArray.size w := fun _ _ _ _ x y =>
      closure89 x.1 y.1 (hid x.1 x.2).1 (hid x.1 x.2).2 (hid y.1 y.2).1 (hid y.1 y.2).2 _
    have h := AnyQ.slices_SortFunc (P := Try.prog) (ρ := sortNode_ren) sortNode 10 Try.isAgg84 Try.sizeOf84 encN (fun x => rfl) (fun x v hv => by
      simp only [encN, c76, List.mem_cons, List.not_mem_nil, or_false] at hv
      rcases hv with rfl | rfl | rfl | rfl | rfl | rfl | rfl | rfl | rfl | rfl <;> rfl) cfN swoN 89 #[] g 0 cap (l.attach).toArray w (enters_of Try.func89 (by kernel_rfl) rfl) hcmp hH hg (by rw [hds]; omega)
    rw [hds] at h
    refine Calls.mono h ?_
    rintro e w' ⟨rfl, d', n, os, hp', hs', rfl⟩
    have hsz : d'.size = l.length := by rw [hp'.1, hds]
    have hH' := holdsK_sortWorldK_c encN 10 w g 0 (l.attach).toArray d' n os hH hg (by rw [hsz, hds])
    have hperm : (d'.toList.map (·.1)).Perm l := by
      have h1 := hp'.2.2
      rw [show d'.extract 0 l.length = d' from by rw [← hsz]; exact Array.extract_size, show (l.attach).toArray.extract 0 l.length = (l.attach).toArray from by rw [← hds]; exact Array.extract_size] at h1
      have h2 := h1.map (·.1)
      simpa using h2
    have hLl : (d'.toList.map (·.1)).length = l.length := by simp [hsz]
    refine ⟨rfl, sw_below _ _ _ _ _ _ _ _ hB hg, d'.toList.map (·.1), some ⟨g, 0, none⟩, cap, hperm, ?_, by rw [hLl], ?_⟩
    · have hone' : (d'.toList.map (·.1)).Pairwise (fun x y => idN x ≠ idN y) := (hperm.pairwise_iff (fun {_ _} h => Ne.symm h)).2 hone
      rw [List.pairwise_iff_getElem] at hone' ⊢
      intro i j hi hj hij
      have h1 := hs' i j (by omega) hij (by rw [hLl] at hj; exact hj)
      have h2 := hone' i j hi hj hij
      have hi' : i < d'.size := by rw [hsz, ← hLl]; exact hi
      have hj' : j < d'.size := by rw [hsz, ← hLl]; exact hj
      rw [getElem!_pos d' i hi', getElem!_pos d' j hj'] at h1
      simp only [List.getElem_map, Array.getElem_toList] at h2 ⊢
      have h3 : ¬ idN d'[j].1 - idN d'[i].1 < 0 := of_decide_eq_false h1
      have h4 : idN d'[i].1 ≠ idN d'[j].1 := h2
      show idN d'[i].1 < idN d'[j].1
      omega
    · refine ⟨rfl, by rw [hLl]; omega, fun _ => ⟨_, rfl, fun j p hj => ⟨c76 p, rfl, k76_mk _ p, fun i u hu => ?_⟩⟩⟩
      obtain ⟨hj', rfl⟩ := List.getElem?_eq_some_iff.1 hj
      have hjs : j < d'.size := by rw [hsz, ← hLl]; exact hj'
      obtain ⟨hi', rfl⟩ := List.getElem?_eq_some_iff.1 hu
      have h1 := (HoldsK.cell hH' hjs (c := i) hi').1
      rw [getElem!_pos d' j hjs] at h1
      simp only [List.getElem_map, Array.getElem_toList, encN] at h1 hi' ⊢
      rw [getElem!_pos (c76 d'[j].1) i hi', Nat.zero_add] at h1
      rw [add_plain]
      exact h1
end Go.Proofs.Ytfeempgoejnfdaa.Ord
