/- Whatever reads as data is read by the kinds: slices, structs, numbers, bools, strings; with the sizes that a row's weights allow. No program's own facts. -/
import Derived.Test.YtfeempgoejnfdaaWWords
import Derived.SizedLaws
import Derived.ChangeArms
import Derived.DataReads
namespace Go.Proofs.Ytfeempgoejnfdaa.Opening
open Go.RowKit Go.Proofs.YtfeempgoejnfdaaW.PrintWords
set_option linter.unusedVariables false
/-- All that reads, N deep at most, as data of type T is read by kind d, and Q holds of it. -/
def Opens {α : Type} (P : Program) (N : Nat) (T : TypeId) (d : Kd α) (Q : α → Prop) : Prop :=
  ∀ (H : Type) (enc : TypeId × Value → H) (w : World) (base : Nat) (spare : Nat → Bool) (held : Bool) (fuel : Nat) (cs : List Value) (x : DataW H × List MemPlace), fuel ≤ N → DataW.trod enc P w base spare held fuel T cs = some x → (∀ m, m ∈ x.1.weights P T → m ≤ reachBytes) → ∃ a, d.K w a cs ∧ Q a
theorem Opens.imp {α : Type} {P : Program} {N : Nat} {T : TypeId} {d : Kd α} {Q Q' : α → Prop} (h : Opens P N T d Q) (hq : ∀ a, Q a → Q' a) : Opens P N T d Q' := fun H enc w base spare held fuel cs x hf ht hw => by
  obtain ⟨a, ha, hqa⟩ := h H enc w base spare held fuel cs x hf ht hw
  exact ⟨a, ha, hq a hqa⟩
theorem opens_int {P : Program} {N : Nat} {T : TypeId} {k : IntKind} (h : P.underlying T = some (.int k)) : Opens P N T (Kd.int k) (fun n => (Lit.int k n).wf = true) := fun H enc w base spare held fuel cs x _ ht _ => by
  obtain ⟨n, rfl, _, hw⟩ := DataW.trod_int h ht
  exact ⟨n, rfl, hw⟩
theorem opens_bool {P : Program} {N : Nat} {T : TypeId} (h : P.underlying T = some .bool) : Opens P N T Kd.bool (fun _ => True) := fun H enc w base spare held fuel cs x _ ht _ => by
  obtain ⟨b, rfl, _⟩ := DataW.trod_bool h ht
  exact ⟨b, rfl, trivial⟩
theorem opens_string {P : Program} {N : Nat} {T : TypeId} (h : P.underlying T = some .string) : Opens P N T Kd.string (fun s => s.size ≤ reachBytes) := fun H enc w base spare held fuel cs x _ ht hw => by
  obtain ⟨s, rfl, rfl, _⟩ := DataW.trod_string h ht
  exact ⟨s, rfl, by simpa [DataW.weights] using hw⟩
/-- The fields fs of a struct, from cell 'off' on. -/
def OpensFs {α : Type} (P : Program) (N : Nat) (fs : List Field) (off : Nat) (d : Kd α) (Q : α → Prop) : Prop :=
  ∀ (H : Type) (enc : TypeId × Value → H) (w : World) (base : Nat) (spare : Nat → Bool) (held : Bool) (fuel : Nat) (cs : List Value) (xs : List (DataW H × List MemPlace)), fuel ≤ N → xs.length = fs.length →
    (∀ (i : Nat) (f : Field), fs[i]? = some f → DataW.trod enc P w base spare held fuel f.type ((cs.drop f.offset).take (P.cellsOf f.type)) = xs[i]?) → (∀ (i : Nat) (f : Field) (x : DataW H × List MemPlace), fs[i]? = some f → xs[i]? = some x → ∀ m, m ∈ x.1.weights P f.type → m ≤ reachBytes) →
    ∃ a, d.K w a ((cs.drop off).take d.sz) ∧ Q a
theorem opensFs_one {α : Type} {P : Program} {N : Nat} {f : Field} {off : Nat} {d : Kd α} {Q : α → Prop} (hd : Opens P N f.type d Q) (ho : f.offset = off) (hc : P.cellsOf f.type = d.sz) : OpensFs P N [f] off d Q := fun H enc w base spare held fuel cs xs hf hl hx hw => by
  obtain ⟨x, hx0⟩ : ∃ x, xs[0]? = some x := ⟨_, List.getElem?_eq_getElem (by simp at hl; omega)⟩
  have h1 := hx 0 f rfl
  rw [hx0, ho, hc] at h1
  exact hd H enc w base spare held fuel _ x hf h1 (hw 0 f x rfl hx0)
theorem opensFs_cons {α β : Type} {P : Program} {N : Nat} {f : Field} {fs : List Field} {off : Nat} {d : Kd α} {e : Kd β} {Q : α → Prop} {R : β → Prop} (hd : Opens P N f.type d Q) (ho : f.offset = off) (hc : P.cellsOf f.type = d.sz) (he : OpensFs P N fs (off + d.sz) e R) : OpensFs P N (f :: fs) off (Kd.pair d e) (fun x => Q x.1 ∧ R x.2) := fun H enc w base spare held fuel cs xs hf hl hx hw => by
  cases xs with
  | nil => simp at hl
  | cons x xs =>
    have h1 := hx 0 f rfl
    rw [ho, hc] at h1
    obtain ⟨a, ha, hqa⟩ := hd H enc w base spare held fuel _ x hf (by simpa using h1) (hw 0 f x rfl rfl)
    obtain ⟨b, hb, hqb⟩ := he H enc w base spare held fuel cs xs hf (by simpa using hl) (fun i g hg => by simpa using hx (i + 1) g (by simpa using hg)) (fun i g y hg hy => hw (i + 1) g y (by simpa using hg) (by simpa using hy))
    refine ⟨(a, b), ⟨_, _, ?_, ha, hb⟩, hqa, hqb⟩
    show (cs.drop off).take (d.sz + e.sz) = _
    rw [List.take_add, List.drop_drop]
theorem weights_each {H : Type} {P : Program} : ∀ (fs : List Field) (xs : List (DataW H × List MemPlace)) (i : Nat) (f : Field) (x : DataW H × List MemPlace), fs[i]? = some f → xs[i]? = some x → ∀ m, m ∈ x.1.weights P f.type → m ∈ DataW.weightsEach P (fs.map (·.type)) (xs.map (·.1)) := fun fs xs i f x hf hx m hm =>
  DataW.weights_mem_each (t := f.type) (d := x.1) (by rw [List.getElem?_map, hf]; rfl) (by rw [List.getElem?_map, hx]; rfl) m hm
theorem opens_struct {α β : Type} {P : Program} {N : Nat} {T : TypeId} {fs : Array Field} {d : Kd α} {Q : α → Prop} (f : β → α) (g : α → β) (hg : ∀ a, f (g a) = a) (ht : P.underlying T = some (.struct fs)) (hc : P.cellsOf T = d.sz) (hfs : OpensFs P N fs.toList 0 d Q) : Opens P (N + 1) T (Kd.iso d f) (fun x => Q (f x)) := fun H enc w base spare held fuel cs x hf htr hw => by
  obtain ⟨xs, n, rfl, rfl, hl, hxl, hx⟩ := DataW.trod_struct ht htr
  have hw' : ∀ m, m ∈ DataW.weightsEach P (fs.toList.map (·.type)) (xs.map (·.1)) → m ≤ reachBytes := fun m hm => hw m (by simp only [DataW.weights, ht]; exact hm)
  obtain ⟨a, ha, hqa⟩ := hfs H enc w base spare held n cs xs (by omega) (by simpa using hxl) (fun i f hf => hx i f (by simpa using hf)) (fun i f x hf hxi m hm => hw' m (weights_each _ _ i f x hf hxi m hm))
  rw [List.drop_zero, List.take_of_length_le (by rw [hl, hc]; exact Nat.le_refl _)] at ha
  exact ⟨g a, by show d.K w (f (g a)) cs; rw [hg]; exact ha, by show Q (f (g a)); rw [hg]; exact hqa⟩
theorem weights_all {H : Type} {P : Program} {e : TypeId} : ∀ (l : List (DataW H)) (i : Nat) (x : DataW H), l[i]? = some x → ∀ m, m ∈ x.weights P e → m ∈ DataW.weightsAll P e l
  | [], i, x, h, m, hm => by simp at h
  | a :: t, 0, x, h, m, hm => by
    simp at h; subst h
    simp only [DataW.weightsAll, List.mem_append]; exact .inl hm
  | a :: t, i + 1, x, h, m, hm => by
    simp only [DataW.weightsAll, List.mem_append]
    exact .inr (weights_all t i x (by simpa using h) m hm)
theorem choose_list {α : Type} {p : Nat → α → Prop} : ∀ (n : Nat), (∀ i, i < n → ∃ a, p i a) → ∃ l : List α, l.length = n ∧ ∀ (i : Nat) (a : α), l[i]? = some a → p i a
  | 0, _ => ⟨[], rfl, fun i a h => by simp at h⟩
  | n + 1, h => by
    obtain ⟨l, hl, hp⟩ := choose_list n (fun i hi => h i (by omega))
    obtain ⟨a, ha⟩ := h n (by omega)
    refine ⟨l ++ [a], by simp [hl], fun i b hb => ?_⟩
    rcases Nat.lt_or_ge i l.length with hi | hi
    · rw [List.getElem?_append_left hi] at hb; exact hp i b hb
    · have : i = n := by have := (List.getElem?_eq_some_iff.1 hb).1; simp at this; omega
      subst this
      rw [← hl, List.getElem?_append_right (Nat.le_refl _)] at hb
      simp at hb; subst hb; exact ha
theorem add_add (a : Addr) (x y : Nat) : (a.add x).add y = a.add (x + y) := by
  unfold Addr.add
  by_cases hx : x = 0
  · simp [hx]
  · by_cases hy : y = 0
    · simp [hx, hy]
    · simp [hx, hy, Nat.add_assoc]
theorem opens_slice {α : Type} {P : Program} {N : Nat} {T e : TypeId} {d : Kd α} {Q : α → Prop} {b : Nat} (ht : P.underlying T = some (.slice e)) (hc : P.cellsOf e = d.sz) (hb : P.bytesOf e = b) (he : Opens P N e d Q) : Opens P (N + 1) T (Kd.slice e d) (fun xs => xs.length * b ≤ reachBytes ∧ ∀ x, x ∈ xs → Q x) := fun H enc w base spare held fuel cs x hf htr hw => by
  rcases DataW.trod_slice ht htr with ⟨rfl, rfl⟩ | ⟨a, len, cap, elems, rest, n, rfl, rfl, rfl, hba, hlc, hcm, hel, hx, _, _⟩
  · exact ⟨[], ⟨none, 0, rfl, Nat.le_refl _, rfl, by simp, fun h => by simp at h⟩, by simp, fun x hx => by simp at hx⟩
  · simp only [DataW.weights, ht] at hw
    have hw1 : (elems.length + rest.length) * b ≤ reachBytes := by
      have := hw ((elems.length + rest.length) * P.bytesOf e) (by simp)
      rwa [hb] at this
    have hall : ∀ i, i < len → ∃ x : α, (∃ c, c.length = d.sz ∧ d.K w x c ∧ ∀ (j : Nat) (u : Value), c[j]? = some u → w.cell? (a.add (i * d.sz + j)) = some u) ∧ Q x := fun i hi => by
      have h1 := hx i hi
      obtain ⟨y, hy⟩ : ∃ y, elems[i]? = some y := ⟨_, List.getElem?_eq_getElem (by omega)⟩
      rw [hy] at h1
      obtain ⟨c, hc1, hc2⟩ := Option.bind_eq_some_iff.1 h1
      obtain ⟨_, hcl, hcc⟩ := World.cells?_some hc1
      obtain ⟨z, hz, hq⟩ := he H enc w base spare held n c y (by omega) hc2 (fun m hm => hw m (by
        simp only [List.mem_cons, List.mem_append]
        exact .inr (.inl (weights_all _ i y.1 (by rw [List.getElem?_map, hy]; rfl) m hm))))
      refine ⟨z, ⟨c, by rw [hcl, hc], hz, fun j u hu => ?_⟩, hq⟩
      have hj := (List.getElem?_eq_some_iff.1 hu).1
      have h2 := hcc j (by omega)
      rw [add_add, hc, hu] at h2
      exact h2
    obtain ⟨l, hl, hp⟩ := choose_list len hall
    refine ⟨l, ⟨some a, cap, by rw [hl], by omega, rfl, ?_, fun _ => ⟨a, rfl, fun j p hj => (hp j p hj).1⟩⟩, ?_, fun x hx => ?_⟩
    · have : maxLen = 9223372036854775807 := rfl
      omega
    · have h3 : l.length * b ≤ (elems.length + rest.length) * b := Nat.mul_le_mul_right _ (by omega)
      omega
    · obtain ⟨i, hi⟩ := List.getElem?_of_mem hx
      exact (hp i x hi).2
end Go.Proofs.Ytfeempgoejnfdaa.Opening
