/- The reference's Acyclic: what it computes. At most a million events. -/
import Derived.Test.YtfeempgoejnfdaaR4
namespace Go.Proofs.Ytfeempgoejnfdaa.Ord
open Go.RowKit Go.Proofs.YtfeempgoejnfdaaW.PrintWords Go.Proofs.YtfeempgoejnfdaaW.PrintLast Go.Proofs.YtfeempgoejnfdaaW.PrintMore
set_option linter.unusedVariables false
set_option linter.unusedSimpArgs false
def stepF (rows : List (List Bool)) (i k : Nat) (v : Bool) : List (List Bool) := rows.set i ((rows.getD i []).set k v)
def fJ (e : Nat → Nat → Bool) (i : Nat) (rows : List (List Bool)) : Nat → List (List Bool)
  | 0 => rows
  | k + 1 => stepF (fJ e i rows k) i k (e i k)
def fI (n : Nat) (e : Nat → Nat → Bool) (rows : List (List Bool)) : Nat → List (List Bool)
  | 0 => rows
  | i + 1 => fJ e i (fI n e rows i) n
theorem Sq2.stepF {rows : List (List Bool)} {n : Nat} (h : Sq2 rows n) {i k : Nat} {v : Bool} (hi : i < n) : Sq2 (stepF rows i k v) n := by
  refine ⟨by simp [Ord.stepF, h.1], fun r hr => ?_⟩
  rcases List.mem_or_eq_of_mem_set hr with hr | rfl
  · exact h.2 r hr
  · rw [List.length_set, List.getD_eq_getElem?_getD, List.getElem?_eq_getElem (by rw [h.1]; exact hi)]
    exact h.2 _ (List.getElem_mem _)
theorem Sq2.fJ {rows : List (List Bool)} {n : Nat} (h : Sq2 rows n) {e : Nat → Nat → Bool} {i : Nat} (hi : i < n) : ∀ k, Sq2 (fJ e i rows k) n
  | 0 => h
  | k + 1 => (Sq2.fJ h hi k).stepF hi
theorem Sq2.fI {rows : List (List Bool)} {n : Nat} (h : Sq2 rows n) {e : Nat → Nat → Bool} : ∀ i, i ≤ n → Sq2 (fI n e rows i) n
  | 0, _ => h
  | i + 1, hi => (Sq2.fI h i (by omega)).fJ (by omega) n
theorem stepF_of {rows : List (List Bool)} {i k : Nat} {r : List Bool} {v : Bool} (hr : rows[i]? = some r) : stepF rows i k v = rows.set i (r.set k v) := by
  simp [stepF, List.getD_eq_getElem?_getD, hr]
theorem sq2_zero (n : Nat) : Sq2 (List.replicate n (List.replicate n false)) n := ⟨by simp, fun r hr => by rw [(List.mem_replicate.1 hr).2]; simp⟩
def edgeB (l : List S76) (pl : Bool) (i k : Nat) : Bool := (i != k) && wayB (rd_T76 l i) (rd_T76 l k) pl
/-- The reference's matrix of l, closed. -/
def closedOf (l : List S76) (pl : Bool) : List (List Bool) := kW l.length (fI l.length (edgeB l pl) (List.replicate l.length (List.replicate l.length false)) l.length) l.length
def acyclicB (l : List S76) (pl : Bool) : Bool := (List.range l.length).all fun i => !at2 (closedOf l pl) i i
theorem range_all (p : Nat → Bool) (k : Nat) : (List.range (k + 1)).all p = ((List.range k).all p && p k) := by rw [List.range_succ, List.all_append]; simp
def FillAt (B : Nat) (w0 : World) (g : Nat) (bs : List Nat) (l : List S76) (rows : List (List Bool)) (wr : World) : Prop := Mat B wr g l.length bs rows ∧ Below B w0 wr
theorem fill_set {B : Nat} {w0 wr : World} {g : Nat} {bs : List Nat} {l : List S76} {rows : List (List Bool)} (h : FillAt B w0 g bs l rows wr) {i b : Nat} {r : List Bool} (hb : bs[i]? = some b) (hr : rows[i]? = some r) (k : Nat) (v : Bool) : FillAt B w0 g bs l (stepF rows i k v) (wr.setCell ⟨b, k, none⟩ (.bool v)) := by
  rw [stepF_of hr]
  exact ⟨h.1.set hb hr k v, h.2.setCell (h.1.base b (List.mem_of_getElem? hb)).2 _⟩
theorem FillAt.below {B : Nat} {w0 wr w1 : World} {g : Nat} {bs : List Nat} {l : List S76} {rows : List (List Bool)} (h : FillAt B w0 g bs l rows wr) (hB : B ≤ wr.heap.size) (hb : Below wr.heap.size wr w1) : FillAt B w0 g bs l rows w1 := ⟨h.1.below hb, h.2.trans (hb.mono hB)⟩
set_option maxRecDepth 100000 in
set_option maxHeartbeats 4000000 in
theorem acyclic_any (run : List (List S68)) (only pl : Bool) (A : Option Addr) (c : Nat) (w : World) (hrun : krun.C w A run.length run) (hT : (run.map List.length).sum ≤ 1000000) (hrl : run.length ≤ 1000000) :
    Calls Try.prog 17 #[.slice A run.length c, .bool only, .bool pl] w (Gives (acyclicB (nodesN (whichB only) run) pl) w) := by
  have hn := refNodes_any run only A c w hrun hT hrl
  have hlen : (nodesN (whichB only) run).length ≤ 1000000 := Nat.le_trans (nodesN_len _ _) hT
  have HN := Lib.hid hn; clear hn hrun
  generalize nodesN (whichB only) run = l at *
  go_enter Try.func17, Try.ntmps17
  go_wp2_with fail
  refine HN.out.mono ?_
  rintro e w1 ⟨v, rfl, hR, hB⟩
  obtain ⟨A1, c1, rfl, hlc, hC⟩ := Kd.R_reads hR
  have HC := Lib.hid hC; have HB1 := Lib.hid hB; clear hC hB hR HN
  go_wp2_with fail
  refine (matrix_any l.length hlen _).mono ?_
  rintro e w2 ⟨g, bs, rfl, hB2, hM⟩
  have HF := Lib.hid (⟨hM, hB2⟩ : FillAt w1.heap.size w1 g bs l _ w2); clear hM hB2
  go_wp2
  go_loopw [21] (fun v wr => ∃ i : Nat, v = .int .i64 i ∧ i ≤ l.length ∧ FillAt w1.heap.size w1 g bs l (fI l.length (edgeB l pl) (List.replicate l.length (List.replicate l.length false)) i) wr) (fun v _ => l.length - (intOf v).toNat)
  case atStart => exact ⟨0, rfl, by omega, HF.out⟩
  case round =>
    obtain ⟨i, rfl, hi, hF⟩ := hrel
    have HF := Lib.hid hF; clear hF
    obtain ⟨wo, rfl⟩ : ∃ wo : World, wo = wr := ⟨_, rfl⟩
    by_cases hlt : i < l.length
    · go_wp2
      go_loopw [26] (fun v wr => ∃ k : Nat, v = .int .i64 k ∧ k ≤ l.length ∧ FillAt w1.heap.size w1 g bs l (fJ (edgeB l pl) i (fI l.length (edgeB l pl) (List.replicate l.length (List.replicate l.length false)) i) k) wr) (fun v _ => l.length - (intOf v).toNat)
      case atStart => exact ⟨0, rfl, by omega, HF.out⟩
      case round =>
        obtain ⟨k, rfl, hk, hF⟩ := hrel
        have hsq : Sq2 (fJ (edgeB l pl) i (fI l.length (edgeB l pl) (List.replicate l.length (List.replicate l.length false)) i) k) l.length := ((sq2_zero l.length).fI i (by omega)).fJ hlt k
        by_cases hlt2 : k < l.length
        · have HJ := Lib.hid (show fJ (edgeB l pl) i (fI l.length (edgeB l pl) (List.replicate l.length (List.replicate l.length false)) i) (k + 1) = stepF (fJ (edgeB l pl) i (fI l.length (edgeB l pl) (List.replicate l.length (List.replicate l.length false)) i) k) i k (edgeB l pl i k) from rfl)
          generalize fJ (edgeB l pl) i (fI l.length (edgeB l pl) (List.replicate l.length (List.replicate l.length false)) i) k = R at *
          obtain ⟨bi, ri, q1, q2, ci, hri, hli⟩ := hF.1.at i (by rw [hsq.1]; exact hlt)
          obtain ⟨x, hx⟩ : ∃ x, ri[k]? = some x := ⟨_, List.getElem?_eq_getElem (by omega)⟩
          have cx := hri.cell (j := k) (v := .bool x) (by simp [bools, hx])
          have fx := hri.free k
          have hbi := hF.1.base bi (List.mem_of_getElem? q1)
          have hbl := hri.lt
          have hgl := hF.1.outer.lt
          have HQ1 := Lib.hid q1; have HQ2 := Lib.hid q2; have HF2 := Lib.hid hF
          clear hx hri q1 q2 hF hsq hli
          by_cases hik : i = k
          · have hgd : ((i : Int) != (k : Int)) = false := by simp [hik]
            have hgd' : ((i : Int) == (k : Int)) = true := by simp [hik]
            have HE := Lib.hid (show edgeB l pl i k = false by simp [edgeB, hik]); clear hik
            have hn1 : g ≠ bi := Ne.symm hbi.1
            have hn2 : bi ≠ g := hbi.1
            go_wp2
            refine wp_region_held_drew (S := (fun w' => w'.cell? ⟨g, i, none⟩ = some (hdr l.length bi))) (by kernel_rfl) ?_ (fun hHeld => ?_)
            · (try dsimp only); go_keep
            refine wpAnyH_take (i := 0) (oi := { dst := some 29, op := Op.move (Operand.tmp 8), type := 80, pos := "ref.go:89", after := #[], guard := none }) (v := ?_) rfl (by kernel_rfl) (by kernel_rfl) (by kernel_rfl) (fun _ _ _ h => h) (Or.inl ⟨by rfl, ?_⟩) (by assumption) ?_
            rotate_left
            · intro w9 hSw; (try dsimp only at hSw); go_simp; try (with_reducible rfl)
            try simp only [Act.put, List.setIfInBounds_toArray, List.set_cons_zero, List.set_cons_succ]
            refine wpAnyH_take (i := 1) (oi := { dst := some 30, op := Op.move (Operand.tmp 9), type := 3, pos := "ref.go:89", after := #[], guard := none }) (v := ?_) rfl (by kernel_rfl) (by kernel_rfl) (by kernel_rfl) (fun _ _ _ h => h) (Or.inl ⟨by rfl, ?_⟩) (by assumption) ?_
            rotate_left
            · intro w9 hSw; (try dsimp only at hSw); go_simp; try (with_reducible rfl)
            try simp only [Act.put, List.setIfInBounds_toArray, List.set_cons_zero, List.set_cons_succ]
            refine wpAnyH_take (i := 2) (oi := { dst := some 31, op := Op.indexAddr 80 (Operand.tmp 29) (Operand.tmp 30), type := 0, pos := "ref.go:89", after := #[{ on := 0, ground := Ground.data }, { on := 1, ground := Ground.data }], guard := none }) (v := ?_) rfl (by kernel_rfl) (by kernel_rfl) (by kernel_rfl) (fun _ _ _ h => h) (Or.inl ⟨by rfl, ?_⟩) (by assumption) ?_
            rotate_left
            · intro w9 hSw; (try dsimp only at hSw); go_simp; try (with_reducible rfl)
            try simp only [Act.put, List.setIfInBounds_toArray, List.set_cons_zero, List.set_cons_succ]
            refine wpAnyH_take (i := 3) (oi := { dst := some 32, op := Op.load 90 (Operand.tmp 31), type := 90, pos := "ref.go:89", after := #[{ on := 2, ground := Ground.data }], guard := none }) (v := ?_) rfl (by kernel_rfl) (by kernel_rfl) (by kernel_rfl) (fun _ _ _ h => h) (Or.inl ⟨by rfl, ?_⟩) (by assumption) ?_
            rotate_left
            · intro w9 hSw; (try dsimp only at hSw); go_simp; try (with_reducible rfl)
            try simp only [Act.put, List.setIfInBounds_toArray, List.set_cons_zero, List.set_cons_succ]
            refine wpAnyH_take (i := 4) (oi := { dst := some 33, op := Op.move (Operand.tmp 10), type := 3, pos := "ref.go:89", after := #[], guard := none }) (v := ?_) rfl (by kernel_rfl) (by kernel_rfl) (by kernel_rfl) (fun _ _ _ h => h) (Or.inl ⟨by rfl, ?_⟩) (by assumption) ?_
            rotate_left
            · intro w9 hSw; (try dsimp only at hSw); go_simp; try (with_reducible rfl)
            try simp only [Act.put, List.setIfInBounds_toArray, List.set_cons_zero, List.set_cons_succ]
            refine wpAnyH_take (i := 5) (oi := { dst := some 34, op := Op.move (Operand.tmp 9), type := 3, pos := "ref.go:89", after := #[], guard := none }) (v := ?_) rfl (by kernel_rfl) (by kernel_rfl) (by kernel_rfl) (fun _ _ _ h => h) (Or.inl ⟨by rfl, ?_⟩) (by assumption) ?_
            rotate_left
            · intro w9 hSw; (try dsimp only at hSw); go_simp; try (with_reducible rfl)
            try simp only [Act.put, List.setIfInBounds_toArray, List.set_cons_zero, List.set_cons_succ]
            refine wpAnyH_take (i := 6) (oi := { dst := some 35, op := Op.move (Operand.tmp 10), type := 3, pos := "ref.go:89", after := #[], guard := none }) (v := ?_) rfl (by kernel_rfl) (by kernel_rfl) (by kernel_rfl) (fun _ _ _ h => h) (Or.inl ⟨by rfl, ?_⟩) (by assumption) ?_
            rotate_left
            · intro w9 hSw; (try dsimp only at hSw); go_simp; try (with_reducible rfl)
            try simp only [Act.put, List.setIfInBounds_toArray, List.set_cons_zero, List.set_cons_succ]
            refine wpAnyH_take (i := 7) (oi := { dst := some 36, op := Op.binOp BinOp.neq 3 (Operand.tmp 34) (Operand.tmp 35) 3, type := 4, pos := "ref.go:89", after := #[{ on := 5, ground := Ground.data }, { on := 6, ground := Ground.data }], guard := none }) (v := ?_) rfl (by kernel_rfl) (by kernel_rfl) (by kernel_rfl) (fun _ _ _ h => h) (Or.inl ⟨by rfl, ?_⟩) (by assumption) ?_
            rotate_left
            · intro w9 hSw; (try dsimp only at hSw); go_simp; try (with_reducible rfl)
            try simp only [Act.put, List.setIfInBounds_toArray, List.set_cons_zero, List.set_cons_succ]
            refine wpAnyH_take (i := 8) (oi := { dst := some 37, op := Op.move (Operand.tmp 36), type := 4, pos := "ref.go:89", after := #[{ on := 7, ground := Ground.data }], guard := none }) (v := ?_) rfl (by kernel_rfl) (by kernel_rfl) (by kernel_rfl) (fun _ _ _ h => h) (Or.inl ⟨by rfl, ?_⟩) (by assumption) ?_
            rotate_left
            · intro w9 hSw; (try dsimp only at hSw); go_simp; try (with_reducible rfl)
            try simp only [Act.put, List.setIfInBounds_toArray, List.set_cons_zero, List.set_cons_succ]
            refine wpAnyH_take (i := 9) (oi := { dst := some 38, op := Op.move (Operand.tmp 7), type := 86, pos := "ref.go:89", after := #[{ on := 8, ground := Ground.guard }], guard := some (8, true) }) (v := undef) rfl (by kernel_rfl) (by kernel_rfl) (by kernel_rfl) (fun _ _ _ h => h) (Or.inr ⟨by rfl, rfl⟩) (by assumption) ?_
            try simp only [Act.put, List.setIfInBounds_toArray, List.set_cons_zero, List.set_cons_succ]
            refine wpAnyH_take (i := 10) (oi := { dst := some 39, op := Op.move (Operand.tmp 9), type := 3, pos := "ref.go:89", after := #[{ on := 8, ground := Ground.guard }], guard := some (8, true) }) (v := undef) rfl (by kernel_rfl) (by kernel_rfl) (by kernel_rfl) (fun _ _ _ h => h) (Or.inr ⟨by rfl, rfl⟩) (by assumption) ?_
            try simp only [Act.put, List.setIfInBounds_toArray, List.set_cons_zero, List.set_cons_succ]
            refine wpAnyH_take (i := 11) (oi := { dst := some 40, op := Op.indexAddr 86 (Operand.tmp 38) (Operand.tmp 39), type := 0, pos := "ref.go:89", after := #[{ on := 9, ground := Ground.data }, { on := 10, ground := Ground.data }, { on := 8, ground := Ground.guard }], guard := some (8, true) }) (v := undef) rfl (by kernel_rfl) (by kernel_rfl) (by kernel_rfl) (fun _ _ _ h => h) (Or.inr ⟨by rfl, rfl⟩) (by assumption) ?_
            try simp only [Act.put, List.setIfInBounds_toArray, List.set_cons_zero, List.set_cons_succ]
            refine wpAnyH_take (i := 12) (oi := { dst := some 41, op := Op.load 76 (Operand.tmp 40), type := 76, pos := "ref.go:89", after := #[{ on := 11, ground := Ground.data }, { on := 8, ground := Ground.guard }], guard := some (8, true) }) (v := undef) rfl (by kernel_rfl) (by kernel_rfl) (by kernel_rfl) (fun _ _ _ h => h) (Or.inr ⟨by rfl, rfl⟩) (by assumption) ?_
            try simp only [Act.put, List.setIfInBounds_toArray, List.set_cons_zero, List.set_cons_succ]
            refine wpAnyH_take (i := 13) (oi := { dst := some 42, op := Op.move (Operand.tmp 7), type := 86, pos := "ref.go:89", after := #[{ on := 8, ground := Ground.guard }], guard := some (8, true) }) (v := undef) rfl (by kernel_rfl) (by kernel_rfl) (by kernel_rfl) (fun _ _ _ h => h) (Or.inr ⟨by rfl, rfl⟩) (by assumption) ?_
            try simp only [Act.put, List.setIfInBounds_toArray, List.set_cons_zero, List.set_cons_succ]
            refine wpAnyH_take (i := 14) (oi := { dst := some 43, op := Op.move (Operand.tmp 10), type := 3, pos := "ref.go:89", after := #[{ on := 8, ground := Ground.guard }], guard := some (8, true) }) (v := undef) rfl (by kernel_rfl) (by kernel_rfl) (by kernel_rfl) (fun _ _ _ h => h) (Or.inr ⟨by rfl, rfl⟩) (by assumption) ?_
            try simp only [Act.put, List.setIfInBounds_toArray, List.set_cons_zero, List.set_cons_succ]
            refine wpAnyH_take (i := 15) (oi := { dst := some 44, op := Op.indexAddr 86 (Operand.tmp 42) (Operand.tmp 43), type := 0, pos := "ref.go:89", after := #[{ on := 13, ground := Ground.data }, { on := 14, ground := Ground.data }, { on := 8, ground := Ground.guard }], guard := some (8, true) }) (v := undef) rfl (by kernel_rfl) (by kernel_rfl) (by kernel_rfl) (fun _ _ _ h => h) (Or.inr ⟨by rfl, rfl⟩) (by assumption) ?_
            try simp only [Act.put, List.setIfInBounds_toArray, List.set_cons_zero, List.set_cons_succ]
            refine wpAnyH_take (i := 16) (oi := { dst := some 45, op := Op.load 76 (Operand.tmp 44), type := 76, pos := "ref.go:89", after := #[{ on := 15, ground := Ground.data }, { on := 8, ground := Ground.guard }], guard := some (8, true) }) (v := undef) rfl (by kernel_rfl) (by kernel_rfl) (by kernel_rfl) (fun _ _ _ h => h) (Or.inr ⟨by rfl, rfl⟩) (by assumption) ?_
            try simp only [Act.put, List.setIfInBounds_toArray, List.set_cons_zero, List.set_cons_succ]
            refine wpAnyH_take (i := 17) (oi := { dst := some 46, op := Op.move (Operand.tmp 2), type := 4, pos := "ref.go:89", after := #[{ on := 8, ground := Ground.guard }], guard := some (8, true) }) (v := undef) rfl (by kernel_rfl) (by kernel_rfl) (by kernel_rfl) (fun _ _ _ h => h) (Or.inr ⟨by rfl, rfl⟩) (by assumption) ?_
            try simp only [Act.put, List.setIfInBounds_toArray, List.set_cons_zero, List.set_cons_succ]
            refine wpAnyH_take (i := 18) (oi := { dst := some 47, op := Op.call { callee := Callee.value (Operand.func 58), args := #[Operand.tmp 41, Operand.tmp 45, Operand.tmp 46], argTypes := #[76, 76, 4] }, type := 4, pos := "ref.go:89", after := #[{ on := 12, ground := Ground.data }, { on := 16, ground := Ground.data }, { on := 17, ground := Ground.data }, { on := 8, ground := Ground.chain }, { on := 8, ground := Ground.guard }], guard := some (8, true) }) (v := undef) rfl (by kernel_rfl) (by kernel_rfl) (by kernel_rfl) (fun _ _ _ h => h) (Or.inr ⟨by rfl, rfl⟩) (by assumption) ?_
            try simp only [Act.put, List.setIfInBounds_toArray, List.set_cons_zero, List.set_cons_succ]
            refine wpAnyH_take (i := 19) (oi := { dst := some 48, op := Op.pick (Operand.tmp 37) (Operand.tmp 47) (Operand.const (Value.bool false)), type := 4, pos := "ref.go:89", after := #[{ on := 8, ground := Ground.data }, { on := 18, ground := Ground.data }], guard := none }) (v := ?_) rfl (by kernel_rfl) (by kernel_rfl) (by kernel_rfl) (fun _ _ _ h => h) (Or.inl ⟨by rfl, ?_⟩) (by assumption) ?_
            rotate_left
            · intro w9 hSw; (try dsimp only at hSw); go_simp; try (with_reducible rfl)
            try simp only [Act.put, List.setIfInBounds_toArray, List.set_cons_zero, List.set_cons_succ]
            refine wpAnyH_take (i := 20) (oi := { dst := some 49, op := Op.indexAddr 90 (Operand.tmp 32) (Operand.tmp 33), type := 0, pos := "ref.go:89", after := #[{ on := 3, ground := Ground.data }, { on := 4, ground := Ground.data }, { on := 0, ground := Ground.phase }, { on := 1, ground := Ground.phase }, { on := 2, ground := Ground.phase }, { on := 3, ground := Ground.phase }, { on := 4, ground := Ground.phase }, { on := 5, ground := Ground.phase }, { on := 6, ground := Ground.phase }, { on := 7, ground := Ground.phase }, { on := 8, ground := Ground.phase }, { on := 9, ground := Ground.phase }, { on := 10, ground := Ground.phase }, { on := 11, ground := Ground.phase }, { on := 12, ground := Ground.phase }, { on := 13, ground := Ground.phase }, { on := 14, ground := Ground.phase }, { on := 15, ground := Ground.phase }, { on := 16, ground := Ground.phase }, { on := 17, ground := Ground.phase }, { on := 18, ground := Ground.phase }, { on := 19, ground := Ground.phase }], guard := none }) (v := ?_) rfl (by kernel_rfl) (by kernel_rfl) (by kernel_rfl) (fun _ _ _ h => h) (Or.inl ⟨by rfl, ?_⟩) (by assumption) ?_
            rotate_left
            · intro w9 hSw; (try dsimp only at hSw); go_simp; try (with_reducible rfl)
            try simp only [Act.put, List.setIfInBounds_toArray, List.set_cons_zero, List.set_cons_succ]
            refine wpAnyH_ready (rs := [21]) (by kernel_rfl) (by simp) ?_
            refine AllReadyH.cons (o := { dst := none, op := Op.store 4 (Operand.tmp 49) (Operand.tmp 48), type := 0, pos := "ref.go:89", after := #[{ on := 20, ground := Ground.data }, { on := 19, ground := Ground.data }, { on := 18, ground := Ground.chain }, { on := 0, ground := Ground.phase }, { on := 1, ground := Ground.phase }, { on := 2, ground := Ground.phase }, { on := 3, ground := Ground.phase }, { on := 4, ground := Ground.phase }, { on := 5, ground := Ground.phase }, { on := 6, ground := Ground.phase }, { on := 7, ground := Ground.phase }, { on := 8, ground := Ground.phase }, { on := 9, ground := Ground.phase }, { on := 10, ground := Ground.phase }, { on := 11, ground := Ground.phase }, { on := 12, ground := Ground.phase }, { on := 13, ground := Ground.phase }, { on := 14, ground := Ground.phase }, { on := 15, ground := Ground.phase }, { on := 16, ground := Ground.phase }, { on := 17, ground := Ground.phase }, { on := 18, ground := Ground.phase }, { on := 19, ground := Ground.phase }], guard := none }) rfl (fun K hK => ?_) AllReadyH.nil
            go_simp
            refine hK.out _ _ ?_ (fun hHeld2 => ?_)
            · (try dsimp only); go_keep
            clear hK K
            try simp only [Act.put, List.setIfInBounds_toArray, List.set_cons_zero, List.set_cons_succ]
            refine wpAnyH_done (by kernel_rfl) ?_ _
            go_wp2
            go_roundw
            case rel => exact ⟨k + 1, by go_num, by omega, by rw [HJ.out, HE.out]; exact FillAt.below (fill_set HF2.out HQ1.out HQ2.out k false) (by simpa using HF2.out.2.size) (below_drew (Below.refl _ _))⟩
            case measure => simp [intOf]; omega
          · have hgd : ((i : Int) != (k : Int)) = true := by simp; omega
            have hgd' : ((i : Int) == (k : Int)) = false := by simp; omega
            obtain ⟨ad, rfl, g0, g1, g2, g3, g4, g5, g6, g7, g8, g9⟩ := at_T76 HC.out (i : Int) (by omega) (by omega)
            obtain ⟨ad', ead, k0, k1, k2, k3, k4, k5, k6, k7, k8, k9⟩ := at_T76 HC.out (k : Int) (by omega) (by omega)
            obtain rfl : ad = ad' := by simpa using ead
            clear ead
            have hW := HF2.out.2
            have ba := World.block_lt_of_cell? w1 _ g0
            have bb := World.block_lt_of_cell? w1 _ k0
            rw [Int.toNat_natCast] at *
            have HE := Lib.hid (show edgeB l pl i k = wayB (rd_T76 l (i : Int)) (rd_T76 l (k : Int)) pl by simp [edgeB, hik]); clear hik
            generalize rd_T76 l (i : Int) = a at *
            generalize rd_T76 l (k : Int) = b at *
            have g0' := (hW.cell (p := ad.add (i * 10)) ba).trans g0; clear g0
            have k0' := (hW.cell (p := ad.add (k * 10)) bb).trans k0; clear k0
            have g1' := (hW.cell (p := ⟨(ad.add (i * 10)).block, (ad.add (i * 10)).off + 1, none⟩) ba).trans g1; clear g1
            have k1' := (hW.cell (p := ⟨(ad.add (k * 10)).block, (ad.add (k * 10)).off + 1, none⟩) bb).trans k1; clear k1
            have g2' := (hW.cell (p := ⟨(ad.add (i * 10)).block, (ad.add (i * 10)).off + 2, none⟩) ba).trans g2; clear g2
            have k2' := (hW.cell (p := ⟨(ad.add (k * 10)).block, (ad.add (k * 10)).off + 2, none⟩) bb).trans k2; clear k2
            have g3' := (hW.cell (p := ⟨(ad.add (i * 10)).block, (ad.add (i * 10)).off + 3, none⟩) ba).trans g3; clear g3
            have k3' := (hW.cell (p := ⟨(ad.add (k * 10)).block, (ad.add (k * 10)).off + 3, none⟩) bb).trans k3; clear k3
            have g4' := (hW.cell (p := ⟨(ad.add (i * 10)).block, (ad.add (i * 10)).off + 4, none⟩) ba).trans g4; clear g4
            have k4' := (hW.cell (p := ⟨(ad.add (k * 10)).block, (ad.add (k * 10)).off + 4, none⟩) bb).trans k4; clear k4
            have g5' := (hW.cell (p := ⟨(ad.add (i * 10)).block, (ad.add (i * 10)).off + 5, none⟩) ba).trans g5; clear g5
            have k5' := (hW.cell (p := ⟨(ad.add (k * 10)).block, (ad.add (k * 10)).off + 5, none⟩) bb).trans k5; clear k5
            have g6' := (hW.cell (p := ⟨(ad.add (i * 10)).block, (ad.add (i * 10)).off + 6, none⟩) ba).trans g6; clear g6
            have k6' := (hW.cell (p := ⟨(ad.add (k * 10)).block, (ad.add (k * 10)).off + 6, none⟩) bb).trans k6; clear k6
            have g7' := (hW.cell (p := ⟨(ad.add (i * 10)).block, (ad.add (i * 10)).off + 7, none⟩) ba).trans g7; clear g7
            have k7' := (hW.cell (p := ⟨(ad.add (k * 10)).block, (ad.add (k * 10)).off + 7, none⟩) bb).trans k7; clear k7
            have g8' := (hW.cell (p := ⟨(ad.add (i * 10)).block, (ad.add (i * 10)).off + 8, none⟩) ba).trans g8; clear g8
            have k8' := (hW.cell (p := ⟨(ad.add (k * 10)).block, (ad.add (k * 10)).off + 8, none⟩) bb).trans k8; clear k8
            have g9' := (hW.cell (p := ⟨(ad.add (i * 10)).block, (ad.add (i * 10)).off + 9, none⟩) ba).trans g9; clear g9
            have k9' := (hW.cell (p := ⟨(ad.add (k * 10)).block, (ad.add (k * 10)).off + 9, none⟩) bb).trans k9; clear k9
            have hz := hW.size
            have na : (ad.add (i * 10)).block ≠ bi := Nat.ne_of_lt (Nat.lt_of_lt_of_le ba hbi.2)
            have nb : (ad.add (k * 10)).block ≠ bi := Nat.ne_of_lt (Nat.lt_of_lt_of_le bb hbi.2)
            have ma : bi ≠ (ad.add (i * 10)).block := Ne.symm na
            have mb : bi ≠ (ad.add (k * 10)).block := Ne.symm nb
            have na' : (ad.add (i * 10)).block < wr.heap.size := Nat.lt_of_lt_of_le ba hz
            have nb' : (ad.add (k * 10)).block < wr.heap.size := Nat.lt_of_lt_of_le bb hz
            have hn1 : g ≠ bi := Ne.symm hbi.1
            have hn2 : bi ≠ g := hbi.1
            clear hW
            go_wp2
            go_region_held3 (fun w' => w'.cell? ⟨g, i, none⟩ = some (hdr l.length bi) ∧ w'.cell? (ad.add (i * 10)) = some (.int .i64 a.f0.f0) ∧ w'.cell? ⟨(ad.add (i * 10)).block, (ad.add (i * 10)).off + 1, none⟩ = some (.int .i64 a.f0.f1.f0) ∧ w'.cell? ⟨(ad.add (i * 10)).block, (ad.add (i * 10)).off + 2, none⟩ = some (.int .i64 a.f0.f1.f1) ∧ w'.cell? ⟨(ad.add (i * 10)).block, (ad.add (i * 10)).off + 3, none⟩ = some (.int .i64 a.f0.f1.f2) ∧ w'.cell? ⟨(ad.add (i * 10)).block, (ad.add (i * 10)).off + 4, none⟩ = some (.int .i64 a.f0.f1.f3) ∧ w'.cell? ⟨(ad.add (i * 10)).block, (ad.add (i * 10)).off + 5, none⟩ = some (.bool a.f0.f1.f4) ∧ w'.cell? ⟨(ad.add (i * 10)).block, (ad.add (i * 10)).off + 6, none⟩ = some (.bool a.f0.f1.f5) ∧ w'.cell? ⟨(ad.add (i * 10)).block, (ad.add (i * 10)).off + 7, none⟩ = some (.int .i64 a.f0.f2) ∧ w'.cell? ⟨(ad.add (i * 10)).block, (ad.add (i * 10)).off + 8, none⟩ = some (.int .i64 a.f0.f3) ∧ w'.cell? ⟨(ad.add (i * 10)).block, (ad.add (i * 10)).off + 9, none⟩ = some (.int .i64 a.f1) ∧ w'.cell? (ad.add (k * 10)) = some (.int .i64 b.f0.f0) ∧ w'.cell? ⟨(ad.add (k * 10)).block, (ad.add (k * 10)).off + 1, none⟩ = some (.int .i64 b.f0.f1.f0) ∧ w'.cell? ⟨(ad.add (k * 10)).block, (ad.add (k * 10)).off + 2, none⟩ = some (.int .i64 b.f0.f1.f1) ∧ w'.cell? ⟨(ad.add (k * 10)).block, (ad.add (k * 10)).off + 3, none⟩ = some (.int .i64 b.f0.f1.f2) ∧ w'.cell? ⟨(ad.add (k * 10)).block, (ad.add (k * 10)).off + 4, none⟩ = some (.int .i64 b.f0.f1.f3) ∧ w'.cell? ⟨(ad.add (k * 10)).block, (ad.add (k * 10)).off + 5, none⟩ = some (.bool b.f0.f1.f4) ∧ w'.cell? ⟨(ad.add (k * 10)).block, (ad.add (k * 10)).off + 6, none⟩ = some (.bool b.f0.f1.f5) ∧ w'.cell? ⟨(ad.add (k * 10)).block, (ad.add (k * 10)).off + 7, none⟩ = some (.int .i64 b.f0.f2) ∧ w'.cell? ⟨(ad.add (k * 10)).block, (ad.add (k * 10)).off + 8, none⟩ = some (.int .i64 b.f0.f3) ∧ w'.cell? ⟨(ad.add (k * 10)).block, (ad.add (k * 10)).off + 9, none⟩ = some (.int .i64 b.f1)) (go_keep) (first | (go_at_call 58; refine (way_any a b pl _).mono ?_; rintro e w4 ⟨rfl, hb4⟩; have hpa : w4.cell? (ad.add (i * 10)) = wr.cell? (ad.add (i * 10)) := hb4.cell na'; have hpb : w4.cell? (ad.add (k * 10)) = wr.cell? (ad.add (k * 10)) := hb4.cell nb'; have hc4 : ∀ b o, b < wr.heap.size → w4.cell? ⟨b, o, none⟩ = wr.cell? ⟨b, o, none⟩ := fun b o h => hb4.cell (p := ⟨b, o, none⟩) h; have hf4 : ∀ b o, b < wr.heap.size → w4.frozen? ⟨b, o, none⟩ = wr.frozen? ⟨b, o, none⟩ := fun b o h => hb4.frozen (p := ⟨b, o, none⟩) h; have HB4 := Lib.hid hb4; clear hb4))
            go_wp2
            go_roundw
            case rel => exact ⟨k + 1, by go_num, by omega, by rw [HJ.out, HE.out]; exact fill_set (FillAt.below HF2.out (by simpa using HF2.out.2.size) ((below_drew (Below.refl _ wr)).trans HB4.out)) HQ1.out HQ2.out k _⟩
            case measure => simp [intOf]; omega
        · obtain rfl : k = l.length := by omega
          have HF2 := Lib.hid hF; clear hF hsq
          go_wp2
          go_roundw
          case rel => exact ⟨i + 1, by go_num, by omega, HF2.out⟩
          case measure => simp [intOf]; omega
    · obtain rfl : i = l.length := by omega
      go_wp2_with fail
      refine (closure_any w1.heap.size w1 g l.length bs _ _ HF.out.1 ((sq2_zero l.length).fI l.length (Nat.le_refl _)) hlen HF.out.2).mono ?_
      rintro e w3 ⟨rfl, hM, hB⟩
      have HSQ := Lib.hid (((sq2_zero l.length).fI (e := edgeB l pl) l.length (Nat.le_refl _)).kW l.length)
      have hM' : Mat w1.heap.size w3 g l.length bs (closedOf l pl) := hM
      have HSQ' := Lib.hid (show Sq2 (closedOf l pl) l.length from HSQ.out)
      have HM := Lib.hid hM'; have HB := Lib.hid hB; clear hM hM' hB HSQ HF
      have HAC := Lib.hid (show acyclicB l pl = (List.range l.length).all (fun i => !at2 (closedOf l pl) i i) from rfl)
      generalize acyclicB l pl = ac at *
      generalize closedOf l pl = R at *
      go_wp2
      go_loopw [55] (fun v wr => ∃ k : Nat, v = .int .i64 k ∧ k ≤ l.length ∧ wr = w3 ∧ ((List.range k).all fun i => !at2 R i i) = true) (fun v _ => l.length - (intOf v).toNat)
      case atStart => exact ⟨0, rfl, by omega, rfl, rfl⟩
      case round =>
        obtain ⟨k, rfl, hk, rfl, hall⟩ := hrel
        by_cases hlt : k < l.length
        · obtain ⟨bi, ri, q1, q2, ci, hri, hli⟩ := HM.out.at k (by rw [HSQ'.out.1]; exact hlt)
          obtain ⟨x, hx⟩ : ∃ x, ri[k]? = some x := ⟨_, List.getElem?_eq_getElem (by omega)⟩
          have cx := hri.cell (j := k) (v := .bool x) (by simp [bools, hx])
          have HX := Lib.hid (at2_of q2 hx)
          have HALL := Lib.hid hall
          clear hx hri q1 q2 hli hall
          cases x with
          | true =>
            go_wp2
            go_ret
            exact ⟨ret_bool (by
              rw [HAC.out]; symm; rw [List.all_eq_false]
              exact ⟨k, List.mem_range.2 hlt, by simp [HX.out]⟩), HB1.out.trans (HB.out.mono HB1.out.size)⟩
          | false =>
            go_wp2
            go_roundw
            case rel => exact ⟨k + 1, by go_num, by omega, by simp, by rw [range_all, HALL.out, HX.out]; rfl⟩
            case measure => simp [intOf]; omega
        · obtain rfl : k = l.length := by omega
          have HALL := Lib.hid hall; clear hall
          go_wp2
          go_ret
          exact ⟨ret_bool (by rw [HAC.out, HALL.out]), HB1.out.trans (HB.out.mono HB1.out.size)⟩
end Go.Proofs.Ytfeempgoejnfdaa.Ord
