/- The reference's closure: what it makes of a square matrix, in place. At most a million rows. -/
import Derived.Test.YtfeempgoejnfdaaR2
import Derived.Test.YtfeempgoejnfdaaSt
namespace Go.Proofs.Ytfeempgoejnfdaa.Ord
open Go.RowKit Go.Proofs.YtfeempgoejnfdaaW.PrintWords Go.Proofs.YtfeempgoejnfdaaW.PrintLast Go.Proofs.YtfeempgoejnfdaaW.PrintMore
set_option linter.unusedVariables false
set_option linter.unusedSimpArgs false
def at2 (rows : List (List Bool)) (i j : Nat) : Bool := (rows.getD i []).getD j false
def stepW (rows : List (List Bool)) (k i j : Nat) : List (List Bool) := rows.set i ((rows.getD i []).set j (at2 rows i j || at2 rows i k && at2 rows k j))
def jW (k i : Nat) (rows : List (List Bool)) : Nat → List (List Bool)
  | 0 => rows
  | j + 1 => stepW (jW k i rows j) k i j
def iW (n k : Nat) (rows : List (List Bool)) : Nat → List (List Bool)
  | 0 => rows
  | i + 1 => jW k i (iW n k rows i) n
def kW (n : Nat) (rows : List (List Bool)) : Nat → List (List Bool)
  | 0 => rows
  | k + 1 => iW n k (kW n rows k) n
def Sq2 (rows : List (List Bool)) (n : Nat) : Prop := rows.length = n ∧ ∀ r, r ∈ rows → r.length = n
theorem Sq2.step {rows : List (List Bool)} {n : Nat} (h : Sq2 rows n) {k i j : Nat} (hi : i < n) : Sq2 (stepW rows k i j) n := by
  refine ⟨by simp [stepW, h.1], fun r hr => ?_⟩
  rcases List.mem_or_eq_of_mem_set hr with hr | rfl
  · exact h.2 r hr
  · rw [List.length_set, List.getD_eq_getElem?_getD, List.getElem?_eq_getElem (by rw [h.1]; exact hi)]
    exact h.2 _ (List.getElem_mem _)
theorem Sq2.jW {rows : List (List Bool)} {n : Nat} (h : Sq2 rows n) {k i : Nat} (hi : i < n) : ∀ j, Sq2 (jW k i rows j) n
  | 0 => h
  | j + 1 => (Sq2.jW h hi j).step hi
theorem Sq2.iW {rows : List (List Bool)} {n : Nat} (h : Sq2 rows n) {k : Nat} : ∀ i, i ≤ n → Sq2 (iW n k rows i) n
  | 0, _ => h
  | i + 1, hi => (Sq2.iW h i (by omega)).jW (by omega) n
theorem Sq2.kW {rows : List (List Bool)} {n : Nat} (h : Sq2 rows n) : ∀ k, Sq2 (kW n rows k) n
  | 0 => h
  | k + 1 => (Sq2.kW h k).iW n (Nat.le_refl _)
theorem at2_of {rows : List (List Bool)} {i j : Nat} {r : List Bool} {x : Bool} (hr : rows[i]? = some r) (hx : r[j]? = some x) : at2 rows i j = x := by
  simp [at2, List.getD_eq_getElem?_getD, hr, hx]
theorem stepW_of {rows : List (List Bool)} {k i j : Nat} {r : List Bool} (hr : rows[i]? = some r) : stepW rows k i j = rows.set i (r.set j (at2 rows i j || at2 rows i k && at2 rows k j)) := by
  simp [stepW, List.getD_eq_getElem?_getD, hr]
def ClosGives (B : Nat) (w0 : World) (g n : Nat) (bs : List Nat) (rows : List (List Bool)) (e : Ending) (w' : World) : Prop := e = .returned (.slice (some ⟨g, 0, none⟩) n n) ∧ Mat B w' g n bs rows ∧ Below B w0 w'
set_option maxRecDepth 100000 in
set_option maxHeartbeats 1000000 in
theorem closure_any (B : Nat) (w0 : World) (g n : Nat) (bs : List Nat) (rows : List (List Bool)) (w : World) (hM : Mat B w g n bs rows) (hs : Sq2 rows n) (hn : n ≤ 1000000) (hB : Below B w0 w) :
    Calls Try.prog 59 #[.slice (some ⟨g, 0, none⟩) n n] w (ClosGives B w0 g n bs (kW n rows n)) := by
  have HM := Lib.hid hM; have HS := Lib.hid hs; have HB := Lib.hid hB; clear hM hs hB
  go_enter Try.func59, Try.ntmps59
  go_wp2
  go_loopw [8] (fun v wr => ∃ k : Nat, v = .int .i64 k ∧ k ≤ n ∧ Mat B wr g n bs (kW n rows k) ∧ Below B w0 wr) (fun v _ => n - (intOf v).toNat)
  case atStart => exact ⟨0, rfl, by omega, HM.out, HB.out⟩
  case round =>
    obtain ⟨k, rfl, hk, hM, hB⟩ := hrel
    have HM := Lib.hid hM; have HB := Lib.hid hB; clear hM hB
    obtain ⟨wo, rfl⟩ : ∃ wo : World, wo = wr := ⟨_, rfl⟩
    by_cases hlt : k < n
    · go_wp2
      go_loopw [13] (fun v wr => ∃ i : Nat, v = .int .i64 i ∧ i ≤ n ∧ Mat B wr g n bs (iW n k (kW n rows k) i) ∧ Below B w0 wr) (fun v _ => n - (intOf v).toNat)
      case atStart => exact ⟨0, rfl, by omega, HM.out, HB.out⟩
      case round =>
        obtain ⟨i, rfl, hi, hM, hB⟩ := hrel
        have HM := Lib.hid hM; have HB := Lib.hid hB; clear hM hB
        obtain ⟨wo2, rfl⟩ : ∃ wo2 : World, wo2 = wr := ⟨_, rfl⟩
        by_cases hlt2 : i < n
        · go_wp2
          go_loopw [18] (fun v wr => ∃ j : Nat, v = .int .i64 j ∧ j ≤ n ∧ Mat B wr g n bs (jW k i (iW n k (kW n rows k) i) j) ∧ Below B w0 wr) (fun v _ => n - (intOf v).toNat)
          case atStart => exact ⟨0, rfl, by omega, HM.out, HB.out⟩
          case round =>
            obtain ⟨j, rfl, hj, hM, hB⟩ := hrel
            have hsq : Sq2 (jW k i (iW n k (kW n rows k) i) j) n := ((HS.out.kW k).iW i (by omega)).jW hlt2 j
            by_cases hlt3 : j < n
            · have HJ := Lib.hid (show jW k i (iW n k (kW n rows k) i) (j + 1) = stepW (jW k i (iW n k (kW n rows k) i) j) k i j from rfl)
              generalize jW k i (iW n k (kW n rows k) i) j = R at *
              obtain ⟨bi, ri, q1, q2, ci, hri, hli⟩ := hM.at i (by rw [hsq.1]; exact hlt2)
              obtain ⟨bk, rk, q3, q4, ck, hrk, hlk⟩ := hM.at k (by rw [hsq.1]; exact hlt)
              obtain ⟨x, hx⟩ : ∃ x, ri[j]? = some x := ⟨_, List.getElem?_eq_getElem (by omega)⟩
              obtain ⟨y, hy⟩ : ∃ y, ri[k]? = some y := ⟨_, List.getElem?_eq_getElem (by omega)⟩
              obtain ⟨z, hz⟩ : ∃ z, rk[j]? = some z := ⟨_, List.getElem?_eq_getElem (by omega)⟩
              have cx := hri.cell (j := j) (v := .bool x) (by simp [bools, hx])
              have cy := hri.cell (j := k) (v := .bool y) (by simp [bools, hy])
              have cz := hrk.cell (j := j) (v := .bool z) (by simp [bools, hz])
              have fx := hri.free j
              have HST := Lib.hid (show stepW R k i j = R.set i (ri.set j (x || y && z)) by rw [stepW_of q2, at2_of q2 hx, at2_of q2 hy, at2_of q4 hz])
              have hbi := hM.base bi (List.mem_of_getElem? q1)
              have HQ1 := Lib.hid q1; have HQ2 := Lib.hid q2; have HM2 := Lib.hid hM; have HB2 := Lib.hid hB
              clear hx hy hz hri hrk q1 q2 q3 q4 hM hB hsq hli hlk
              cases x with
              | true =>
                go_wp2
                refine Still.region_tail 31 [(12, 33), (20, 41)] (by kernel_rfl) (by kernel_rfl) (by kernel_rfl) (fun OPS hy => ?_)
                have hy12 : ∀ tmps, yielded OPS tmps 12 = Still.bitAt tmps 33 := fun tmps => hy (12, 33) (by simp) tmps
                have hy20 : ∀ tmps, yielded OPS tmps 20 = Still.bitAt tmps 41 := fun tmps => hy (20, 41) (by simp) tmps
                clear hy
                simp only [List.take_succ_cons, List.take_zero, List.drop_succ_cons, List.drop_zero]
                refine Still.still_yield (v := ?_) rfl ?_ ?_
                rotate_left
                · go_simp; try (with_reducible rfl)
                simp only [Act.put, List.setIfInBounds_toArray, List.set_cons_zero, List.set_cons_succ]
                refine Still.still_yield (v := ?_) rfl ?_ ?_
                rotate_left
                · go_simp; try (with_reducible rfl)
                simp only [Act.put, List.setIfInBounds_toArray, List.set_cons_zero, List.set_cons_succ]
                refine Still.still_yield (v := ?_) rfl ?_ ?_
                rotate_left
                · go_simp; try (with_reducible rfl)
                simp only [Act.put, List.setIfInBounds_toArray, List.set_cons_zero, List.set_cons_succ]
                refine Still.still_yield (v := ?_) rfl ?_ ?_
                rotate_left
                · go_simp; try (with_reducible rfl)
                simp only [Act.put, List.setIfInBounds_toArray, List.set_cons_zero, List.set_cons_succ]
                refine Still.still_yield (v := ?_) rfl ?_ ?_
                rotate_left
                · go_simp; try (with_reducible rfl)
                simp only [Act.put, List.setIfInBounds_toArray, List.set_cons_zero, List.set_cons_succ]
                refine Still.still_yield (v := ?_) rfl ?_ ?_
                rotate_left
                · go_simp; try (with_reducible rfl)
                simp only [Act.put, List.setIfInBounds_toArray, List.set_cons_zero, List.set_cons_succ]
                refine Still.still_yield (v := ?_) rfl ?_ ?_
                rotate_left
                · go_simp; try (with_reducible rfl)
                simp only [Act.put, List.setIfInBounds_toArray, List.set_cons_zero, List.set_cons_succ]
                refine Still.still_yield (v := ?_) rfl ?_ ?_
                rotate_left
                · go_simp; try (with_reducible rfl)
                simp only [Act.put, List.setIfInBounds_toArray, List.set_cons_zero, List.set_cons_succ]
                refine Still.still_yield (v := ?_) rfl ?_ ?_
                rotate_left
                · go_simp; try (with_reducible rfl)
                simp only [Act.put, List.setIfInBounds_toArray, List.set_cons_zero, List.set_cons_succ]
                refine Still.still_yield (v := ?_) rfl ?_ ?_
                rotate_left
                · go_simp; try (with_reducible rfl)
                simp only [Act.put, List.setIfInBounds_toArray, List.set_cons_zero, List.set_cons_succ]
                refine Still.still_yield (v := ?_) rfl ?_ ?_
                rotate_left
                · go_simp; try (with_reducible rfl)
                simp only [Act.put, List.setIfInBounds_toArray, List.set_cons_zero, List.set_cons_succ]
                refine Still.still_yield (v := ?_) rfl ?_ ?_
                rotate_left
                · go_simp; try (with_reducible rfl)
                simp only [Act.put, List.setIfInBounds_toArray, List.set_cons_zero, List.set_cons_succ]
                refine Still.still_yield (v := ?_) rfl ?_ ?_
                rotate_left
                · go_simp; try (with_reducible rfl)
                simp only [Act.put, List.setIfInBounds_toArray, List.set_cons_zero, List.set_cons_succ]
                refine Still.still_skip (by simp [Region.wanted, hy12, Still.bitAt, undef]) ?_
                simp only [Act.put, List.setIfInBounds_toArray, List.set_cons_zero, List.set_cons_succ]
                refine Still.still_skip (by simp [Region.wanted, hy12, Still.bitAt, undef]) ?_
                simp only [Act.put, List.setIfInBounds_toArray, List.set_cons_zero, List.set_cons_succ]
                refine Still.still_skip (by simp [Region.wanted, hy12, Still.bitAt, undef]) ?_
                simp only [Act.put, List.setIfInBounds_toArray, List.set_cons_zero, List.set_cons_succ]
                refine Still.still_skip (by simp [Region.wanted, hy12, Still.bitAt, undef]) ?_
                simp only [Act.put, List.setIfInBounds_toArray, List.set_cons_zero, List.set_cons_succ]
                refine Still.still_skip (by simp [Region.wanted, hy12, Still.bitAt, undef]) ?_
                simp only [Act.put, List.setIfInBounds_toArray, List.set_cons_zero, List.set_cons_succ]
                refine Still.still_skip (by simp [Region.wanted, hy12, Still.bitAt, undef]) ?_
                simp only [Act.put, List.setIfInBounds_toArray, List.set_cons_zero, List.set_cons_succ]
                refine Still.still_skip (by simp [Region.wanted, hy12, Still.bitAt, undef]) ?_
                simp only [Act.put, List.setIfInBounds_toArray, List.set_cons_zero, List.set_cons_succ]
                refine Still.still_skip (by simp [Region.wanted, hy12, Still.bitAt, undef]) ?_
                simp only [Act.put, List.setIfInBounds_toArray, List.set_cons_zero, List.set_cons_succ]
                refine Still.still_skip (by simp [Region.wanted, hy20, Still.bitAt, undef]) ?_
                simp only [Act.put, List.setIfInBounds_toArray, List.set_cons_zero, List.set_cons_succ]
                refine Still.still_skip (by simp [Region.wanted, hy20, Still.bitAt, undef]) ?_
                simp only [Act.put, List.setIfInBounds_toArray, List.set_cons_zero, List.set_cons_succ]
                refine Still.still_skip (by simp [Region.wanted, hy20, Still.bitAt, undef]) ?_
                simp only [Act.put, List.setIfInBounds_toArray, List.set_cons_zero, List.set_cons_succ]
                refine Still.still_skip (by simp [Region.wanted, hy20, Still.bitAt, undef]) ?_
                simp only [Act.put, List.setIfInBounds_toArray, List.set_cons_zero, List.set_cons_succ]
                refine Still.still_skip (by simp [Region.wanted, hy20, Still.bitAt, undef]) ?_
                simp only [Act.put, List.setIfInBounds_toArray, List.set_cons_zero, List.set_cons_succ]
                refine Still.still_skip (by simp [Region.wanted, hy20, Still.bitAt, undef]) ?_
                simp only [Act.put, List.setIfInBounds_toArray, List.set_cons_zero, List.set_cons_succ]
                refine Still.still_skip (by simp [Region.wanted, hy20, Still.bitAt, undef]) ?_
                simp only [Act.put, List.setIfInBounds_toArray, List.set_cons_zero, List.set_cons_succ]
                refine Still.still_skip (by simp [Region.wanted, hy12, Still.bitAt, undef]) ?_
                simp only [Act.put, List.setIfInBounds_toArray, List.set_cons_zero, List.set_cons_succ]
                refine Still.still_yield (v := ?_) rfl ?_ ?_
                rotate_left
                · go_simp; try (with_reducible rfl)
                simp only [Act.put, List.setIfInBounds_toArray, List.set_cons_zero, List.set_cons_succ]
                refine Still.still_yield (v := ?_) rfl ?_ ?_
                rotate_left
                · go_simp; try (with_reducible rfl)
                simp only [Act.put, List.setIfInBounds_toArray, List.set_cons_zero, List.set_cons_succ]
                refine wpStill_nil ?_
                go_wp2
                go_roundw
                case rel => exact ⟨j + 1, by go_num, by omega, by rw [HJ.out, HST.out]; exact (HM2.out.set HQ1.out HQ2.out j true).move (fun _ _ => rfl), below_drew (HB2.out.setCell (by exact hbi.2) _)⟩
                case measure => simp [intOf]; omega
              | false =>
                cases y with
                | false =>
                  go_wp2
                  refine Still.region_tail 31 [(12, 33), (20, 41)] (by kernel_rfl) (by kernel_rfl) (by kernel_rfl) (fun OPS hy => ?_)
                  have hy12 : ∀ tmps, yielded OPS tmps 12 = Still.bitAt tmps 33 := fun tmps => hy (12, 33) (by simp) tmps
                  have hy20 : ∀ tmps, yielded OPS tmps 20 = Still.bitAt tmps 41 := fun tmps => hy (20, 41) (by simp) tmps
                  clear hy
                  simp only [List.take_succ_cons, List.take_zero, List.drop_succ_cons, List.drop_zero]
                  refine Still.still_yield (v := ?_) rfl ?_ ?_
                  rotate_left
                  · go_simp; try (with_reducible rfl)
                  simp only [Act.put, List.setIfInBounds_toArray, List.set_cons_zero, List.set_cons_succ]
                  refine Still.still_yield (v := ?_) rfl ?_ ?_
                  rotate_left
                  · go_simp; try (with_reducible rfl)
                  simp only [Act.put, List.setIfInBounds_toArray, List.set_cons_zero, List.set_cons_succ]
                  refine Still.still_yield (v := ?_) rfl ?_ ?_
                  rotate_left
                  · go_simp; try (with_reducible rfl)
                  simp only [Act.put, List.setIfInBounds_toArray, List.set_cons_zero, List.set_cons_succ]
                  refine Still.still_yield (v := ?_) rfl ?_ ?_
                  rotate_left
                  · go_simp; try (with_reducible rfl)
                  simp only [Act.put, List.setIfInBounds_toArray, List.set_cons_zero, List.set_cons_succ]
                  refine Still.still_yield (v := ?_) rfl ?_ ?_
                  rotate_left
                  · go_simp; try (with_reducible rfl)
                  simp only [Act.put, List.setIfInBounds_toArray, List.set_cons_zero, List.set_cons_succ]
                  refine Still.still_yield (v := ?_) rfl ?_ ?_
                  rotate_left
                  · go_simp; try (with_reducible rfl)
                  simp only [Act.put, List.setIfInBounds_toArray, List.set_cons_zero, List.set_cons_succ]
                  refine Still.still_yield (v := ?_) rfl ?_ ?_
                  rotate_left
                  · go_simp; try (with_reducible rfl)
                  simp only [Act.put, List.setIfInBounds_toArray, List.set_cons_zero, List.set_cons_succ]
                  refine Still.still_yield (v := ?_) rfl ?_ ?_
                  rotate_left
                  · go_simp; try (with_reducible rfl)
                  simp only [Act.put, List.setIfInBounds_toArray, List.set_cons_zero, List.set_cons_succ]
                  refine Still.still_yield (v := ?_) rfl ?_ ?_
                  rotate_left
                  · go_simp; try (with_reducible rfl)
                  simp only [Act.put, List.setIfInBounds_toArray, List.set_cons_zero, List.set_cons_succ]
                  refine Still.still_yield (v := ?_) rfl ?_ ?_
                  rotate_left
                  · go_simp; try (with_reducible rfl)
                  simp only [Act.put, List.setIfInBounds_toArray, List.set_cons_zero, List.set_cons_succ]
                  refine Still.still_yield (v := ?_) rfl ?_ ?_
                  rotate_left
                  · go_simp; try (with_reducible rfl)
                  simp only [Act.put, List.setIfInBounds_toArray, List.set_cons_zero, List.set_cons_succ]
                  refine Still.still_yield (v := ?_) rfl ?_ ?_
                  rotate_left
                  · go_simp; try (with_reducible rfl)
                  simp only [Act.put, List.setIfInBounds_toArray, List.set_cons_zero, List.set_cons_succ]
                  refine Still.still_yield (v := ?_) rfl ?_ ?_
                  rotate_left
                  · go_simp; try (with_reducible rfl)
                  simp only [Act.put, List.setIfInBounds_toArray, List.set_cons_zero, List.set_cons_succ]
                  refine Still.still_yield (v := ?_) (by simp [Region.wanted, hy12, Still.bitAt]) ?_ ?_
                  rotate_left
                  · go_simp; try (with_reducible rfl)
                  simp only [Act.put, List.setIfInBounds_toArray, List.set_cons_zero, List.set_cons_succ]
                  refine Still.still_yield (v := ?_) (by simp [Region.wanted, hy12, Still.bitAt]) ?_ ?_
                  rotate_left
                  · go_simp; try (with_reducible rfl)
                  simp only [Act.put, List.setIfInBounds_toArray, List.set_cons_zero, List.set_cons_succ]
                  refine Still.still_yield (v := ?_) (by simp [Region.wanted, hy12, Still.bitAt]) ?_ ?_
                  rotate_left
                  · go_simp; try (with_reducible rfl)
                  simp only [Act.put, List.setIfInBounds_toArray, List.set_cons_zero, List.set_cons_succ]
                  refine Still.still_yield (v := ?_) (by simp [Region.wanted, hy12, Still.bitAt]) ?_ ?_
                  rotate_left
                  · go_simp; try (with_reducible rfl)
                  simp only [Act.put, List.setIfInBounds_toArray, List.set_cons_zero, List.set_cons_succ]
                  refine Still.still_yield (v := ?_) (by simp [Region.wanted, hy12, Still.bitAt]) ?_ ?_
                  rotate_left
                  · go_simp; try (with_reducible rfl)
                  simp only [Act.put, List.setIfInBounds_toArray, List.set_cons_zero, List.set_cons_succ]
                  refine Still.still_yield (v := ?_) (by simp [Region.wanted, hy12, Still.bitAt]) ?_ ?_
                  rotate_left
                  · go_simp; try (with_reducible rfl)
                  simp only [Act.put, List.setIfInBounds_toArray, List.set_cons_zero, List.set_cons_succ]
                  refine Still.still_yield (v := ?_) (by simp [Region.wanted, hy12, Still.bitAt]) ?_ ?_
                  rotate_left
                  · go_simp; try (with_reducible rfl)
                  simp only [Act.put, List.setIfInBounds_toArray, List.set_cons_zero, List.set_cons_succ]
                  refine Still.still_yield (v := ?_) (by simp [Region.wanted, hy12, Still.bitAt]) ?_ ?_
                  rotate_left
                  · go_simp; try (with_reducible rfl)
                  simp only [Act.put, List.setIfInBounds_toArray, List.set_cons_zero, List.set_cons_succ]
                  refine Still.still_skip (by simp [Region.wanted, hy20, Still.bitAt, undef]) ?_
                  simp only [Act.put, List.setIfInBounds_toArray, List.set_cons_zero, List.set_cons_succ]
                  refine Still.still_skip (by simp [Region.wanted, hy20, Still.bitAt, undef]) ?_
                  simp only [Act.put, List.setIfInBounds_toArray, List.set_cons_zero, List.set_cons_succ]
                  refine Still.still_skip (by simp [Region.wanted, hy20, Still.bitAt, undef]) ?_
                  simp only [Act.put, List.setIfInBounds_toArray, List.set_cons_zero, List.set_cons_succ]
                  refine Still.still_skip (by simp [Region.wanted, hy20, Still.bitAt, undef]) ?_
                  simp only [Act.put, List.setIfInBounds_toArray, List.set_cons_zero, List.set_cons_succ]
                  refine Still.still_skip (by simp [Region.wanted, hy20, Still.bitAt, undef]) ?_
                  simp only [Act.put, List.setIfInBounds_toArray, List.set_cons_zero, List.set_cons_succ]
                  refine Still.still_skip (by simp [Region.wanted, hy20, Still.bitAt, undef]) ?_
                  simp only [Act.put, List.setIfInBounds_toArray, List.set_cons_zero, List.set_cons_succ]
                  refine Still.still_skip (by simp [Region.wanted, hy20, Still.bitAt, undef]) ?_
                  simp only [Act.put, List.setIfInBounds_toArray, List.set_cons_zero, List.set_cons_succ]
                  refine Still.still_yield (v := ?_) (by simp [Region.wanted, hy12, Still.bitAt]) ?_ ?_
                  rotate_left
                  · go_simp; try (with_reducible rfl)
                  simp only [Act.put, List.setIfInBounds_toArray, List.set_cons_zero, List.set_cons_succ]
                  refine Still.still_yield (v := ?_) rfl ?_ ?_
                  rotate_left
                  · go_simp; try (with_reducible rfl)
                  simp only [Act.put, List.setIfInBounds_toArray, List.set_cons_zero, List.set_cons_succ]
                  refine Still.still_yield (v := ?_) rfl ?_ ?_
                  rotate_left
                  · go_simp; try (with_reducible rfl)
                  simp only [Act.put, List.setIfInBounds_toArray, List.set_cons_zero, List.set_cons_succ]
                  refine wpStill_nil ?_
                  go_wp2
                  go_roundw
                  case rel => exact ⟨j + 1, by go_num, by omega, by rw [HJ.out, HST.out]; exact (HM2.out.set HQ1.out HQ2.out j false).move (fun _ _ => rfl), below_drew (HB2.out.setCell (by exact hbi.2) _)⟩
                  case measure => simp [intOf]; omega
                | true =>
                  go_wp2
                  refine Still.region_tail 31 [(12, 33), (20, 41)] (by kernel_rfl) (by kernel_rfl) (by kernel_rfl) (fun OPS hy => ?_)
                  have hy12 : ∀ tmps, yielded OPS tmps 12 = Still.bitAt tmps 33 := fun tmps => hy (12, 33) (by simp) tmps
                  have hy20 : ∀ tmps, yielded OPS tmps 20 = Still.bitAt tmps 41 := fun tmps => hy (20, 41) (by simp) tmps
                  clear hy
                  simp only [List.take_succ_cons, List.take_zero, List.drop_succ_cons, List.drop_zero]
                  refine Still.still_yield (v := ?_) rfl ?_ ?_
                  rotate_left
                  · go_simp; try (with_reducible rfl)
                  simp only [Act.put, List.setIfInBounds_toArray, List.set_cons_zero, List.set_cons_succ]
                  refine Still.still_yield (v := ?_) rfl ?_ ?_
                  rotate_left
                  · go_simp; try (with_reducible rfl)
                  simp only [Act.put, List.setIfInBounds_toArray, List.set_cons_zero, List.set_cons_succ]
                  refine Still.still_yield (v := ?_) rfl ?_ ?_
                  rotate_left
                  · go_simp; try (with_reducible rfl)
                  simp only [Act.put, List.setIfInBounds_toArray, List.set_cons_zero, List.set_cons_succ]
                  refine Still.still_yield (v := ?_) rfl ?_ ?_
                  rotate_left
                  · go_simp; try (with_reducible rfl)
                  simp only [Act.put, List.setIfInBounds_toArray, List.set_cons_zero, List.set_cons_succ]
                  refine Still.still_yield (v := ?_) rfl ?_ ?_
                  rotate_left
                  · go_simp; try (with_reducible rfl)
                  simp only [Act.put, List.setIfInBounds_toArray, List.set_cons_zero, List.set_cons_succ]
                  refine Still.still_yield (v := ?_) rfl ?_ ?_
                  rotate_left
                  · go_simp; try (with_reducible rfl)
                  simp only [Act.put, List.setIfInBounds_toArray, List.set_cons_zero, List.set_cons_succ]
                  refine Still.still_yield (v := ?_) rfl ?_ ?_
                  rotate_left
                  · go_simp; try (with_reducible rfl)
                  simp only [Act.put, List.setIfInBounds_toArray, List.set_cons_zero, List.set_cons_succ]
                  refine Still.still_yield (v := ?_) rfl ?_ ?_
                  rotate_left
                  · go_simp; try (with_reducible rfl)
                  simp only [Act.put, List.setIfInBounds_toArray, List.set_cons_zero, List.set_cons_succ]
                  refine Still.still_yield (v := ?_) rfl ?_ ?_
                  rotate_left
                  · go_simp; try (with_reducible rfl)
                  simp only [Act.put, List.setIfInBounds_toArray, List.set_cons_zero, List.set_cons_succ]
                  refine Still.still_yield (v := ?_) rfl ?_ ?_
                  rotate_left
                  · go_simp; try (with_reducible rfl)
                  simp only [Act.put, List.setIfInBounds_toArray, List.set_cons_zero, List.set_cons_succ]
                  refine Still.still_yield (v := ?_) rfl ?_ ?_
                  rotate_left
                  · go_simp; try (with_reducible rfl)
                  simp only [Act.put, List.setIfInBounds_toArray, List.set_cons_zero, List.set_cons_succ]
                  refine Still.still_yield (v := ?_) rfl ?_ ?_
                  rotate_left
                  · go_simp; try (with_reducible rfl)
                  simp only [Act.put, List.setIfInBounds_toArray, List.set_cons_zero, List.set_cons_succ]
                  refine Still.still_yield (v := ?_) rfl ?_ ?_
                  rotate_left
                  · go_simp; try (with_reducible rfl)
                  simp only [Act.put, List.setIfInBounds_toArray, List.set_cons_zero, List.set_cons_succ]
                  refine Still.still_yield (v := ?_) (by simp [Region.wanted, hy12, Still.bitAt]) ?_ ?_
                  rotate_left
                  · go_simp; try (with_reducible rfl)
                  simp only [Act.put, List.setIfInBounds_toArray, List.set_cons_zero, List.set_cons_succ]
                  refine Still.still_yield (v := ?_) (by simp [Region.wanted, hy12, Still.bitAt]) ?_ ?_
                  rotate_left
                  · go_simp; try (with_reducible rfl)
                  simp only [Act.put, List.setIfInBounds_toArray, List.set_cons_zero, List.set_cons_succ]
                  refine Still.still_yield (v := ?_) (by simp [Region.wanted, hy12, Still.bitAt]) ?_ ?_
                  rotate_left
                  · go_simp; try (with_reducible rfl)
                  simp only [Act.put, List.setIfInBounds_toArray, List.set_cons_zero, List.set_cons_succ]
                  refine Still.still_yield (v := ?_) (by simp [Region.wanted, hy12, Still.bitAt]) ?_ ?_
                  rotate_left
                  · go_simp; try (with_reducible rfl)
                  simp only [Act.put, List.setIfInBounds_toArray, List.set_cons_zero, List.set_cons_succ]
                  refine Still.still_yield (v := ?_) (by simp [Region.wanted, hy12, Still.bitAt]) ?_ ?_
                  rotate_left
                  · go_simp; try (with_reducible rfl)
                  simp only [Act.put, List.setIfInBounds_toArray, List.set_cons_zero, List.set_cons_succ]
                  refine Still.still_yield (v := ?_) (by simp [Region.wanted, hy12, Still.bitAt]) ?_ ?_
                  rotate_left
                  · go_simp; try (with_reducible rfl)
                  simp only [Act.put, List.setIfInBounds_toArray, List.set_cons_zero, List.set_cons_succ]
                  refine Still.still_yield (v := ?_) (by simp [Region.wanted, hy12, Still.bitAt]) ?_ ?_
                  rotate_left
                  · go_simp; try (with_reducible rfl)
                  simp only [Act.put, List.setIfInBounds_toArray, List.set_cons_zero, List.set_cons_succ]
                  refine Still.still_yield (v := ?_) (by simp [Region.wanted, hy12, Still.bitAt]) ?_ ?_
                  rotate_left
                  · go_simp; try (with_reducible rfl)
                  simp only [Act.put, List.setIfInBounds_toArray, List.set_cons_zero, List.set_cons_succ]
                  refine Still.still_yield (v := ?_) (by simp [Region.wanted, hy20, Still.bitAt]) ?_ ?_
                  rotate_left
                  · go_simp; try (with_reducible rfl)
                  simp only [Act.put, List.setIfInBounds_toArray, List.set_cons_zero, List.set_cons_succ]
                  refine Still.still_yield (v := ?_) (by simp [Region.wanted, hy20, Still.bitAt]) ?_ ?_
                  rotate_left
                  · go_simp; try (with_reducible rfl)
                  simp only [Act.put, List.setIfInBounds_toArray, List.set_cons_zero, List.set_cons_succ]
                  refine Still.still_yield (v := ?_) (by simp [Region.wanted, hy20, Still.bitAt]) ?_ ?_
                  rotate_left
                  · go_simp; try (with_reducible rfl)
                  simp only [Act.put, List.setIfInBounds_toArray, List.set_cons_zero, List.set_cons_succ]
                  refine Still.still_yield (v := ?_) (by simp [Region.wanted, hy20, Still.bitAt]) ?_ ?_
                  rotate_left
                  · go_simp; try (with_reducible rfl)
                  simp only [Act.put, List.setIfInBounds_toArray, List.set_cons_zero, List.set_cons_succ]
                  refine Still.still_yield (v := ?_) (by simp [Region.wanted, hy20, Still.bitAt]) ?_ ?_
                  rotate_left
                  · go_simp; try (with_reducible rfl)
                  simp only [Act.put, List.setIfInBounds_toArray, List.set_cons_zero, List.set_cons_succ]
                  refine Still.still_yield (v := ?_) (by simp [Region.wanted, hy20, Still.bitAt]) ?_ ?_
                  rotate_left
                  · go_simp; try (with_reducible rfl)
                  simp only [Act.put, List.setIfInBounds_toArray, List.set_cons_zero, List.set_cons_succ]
                  refine Still.still_yield (v := ?_) (by simp [Region.wanted, hy20, Still.bitAt]) ?_ ?_
                  rotate_left
                  · go_simp; try (with_reducible rfl)
                  simp only [Act.put, List.setIfInBounds_toArray, List.set_cons_zero, List.set_cons_succ]
                  refine Still.still_yield (v := ?_) (by simp [Region.wanted, hy12, Still.bitAt]) ?_ ?_
                  rotate_left
                  · go_simp; try (with_reducible rfl)
                  simp only [Act.put, List.setIfInBounds_toArray, List.set_cons_zero, List.set_cons_succ]
                  refine Still.still_yield (v := ?_) rfl ?_ ?_
                  rotate_left
                  · go_simp; try (with_reducible rfl)
                  simp only [Act.put, List.setIfInBounds_toArray, List.set_cons_zero, List.set_cons_succ]
                  refine Still.still_yield (v := ?_) rfl ?_ ?_
                  rotate_left
                  · go_simp; try (with_reducible rfl)
                  simp only [Act.put, List.setIfInBounds_toArray, List.set_cons_zero, List.set_cons_succ]
                  refine wpStill_nil ?_
                  go_wp2
                  go_roundw
                  case rel => exact ⟨j + 1, by go_num, by omega, by rw [HJ.out, HST.out]; exact (HM2.out.set HQ1.out HQ2.out j z).move (fun _ _ => rfl), below_drew (HB2.out.setCell (by exact hbi.2) _)⟩
                  case measure => simp [intOf]; omega
            · obtain rfl : j = n := by omega
              have HM2 := Lib.hid hM; have HB2 := Lib.hid hB; clear hM hB hsq
              go_wp2
              go_roundw
              case rel => exact ⟨i + 1, by go_num, by omega, HM2.out, HB2.out⟩
              case measure => simp [intOf]; omega
        · obtain rfl : i = n := by omega
          go_wp2
          go_roundw
          case rel => exact ⟨k + 1, by go_num, by omega, HM.out, HB.out⟩
          case measure => simp [intOf]; omega
    · obtain rfl : k = n := by omega
      go_wp2
      go_ret
      exact ⟨rfl, HM.out, HB.out⟩
end Go.Proofs.Ytfeempgoejnfdaa.Ord
