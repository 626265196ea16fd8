/- The reference's Ahead: what it computes. At most a million events. -/
import Derived.Test.YtfeempgoejnfdaaH2
namespace Go.Proofs.Ytfeempgoejnfdaa.Ord
open Go.RowKit Go.Proofs.YtfeempgoejnfdaaW.PrintWords Go.Proofs.YtfeempgoejnfdaaW.PrintLast Go.Proofs.YtfeempgoejnfdaaW.PrintMore
set_option linter.unusedVariables false
set_option linter.unusedSimpArgs false
def aheadE (l : List S76) (i k : Nat) : Bool := (i != k) && (poB (rd_T76 l i) (rd_T76 l k) || relB (rd_T76 l i) (rd_T76 l k))
def aheadC (l : List S76) : List (List Bool) := kW l.length (fI l.length (aheadE l) (List.replicate l.length (List.replicate l.length false)) l.length) l.length
def AheadGives (l : List S76) (w : World) (e : Ending) (w' : World) : Prop := ∃ g bs, e = .returned (.slice (some ⟨g, 0, none⟩) l.length l.length) ∧ Below w.heap.size w w' ∧ Mat w.heap.size w' g l.length bs (aheadC l)
theorem FillAt.alloc {B : Nat} {w0 wr : World} {g : Nat} {bs : List Nat} {l : List S76} {rows : List (List Bool)} (h : FillAt B w0 g bs l rows wr) (hB : B ≤ wr.heap.size) (o : Obj) : FillAt B w0 g bs l rows (wr.alloc o) := h.below hB ((Below.refl _ _).alloc (Nat.le_refl _) _)
theorem bx_new (w : World) (p : Addr) (v : Value) (x : S76) : Bx ((w.setCell p v).alloc (.cells (c76 x).toArray 76)) w.heap.size x := by
  have h := Blk.new (w.setCell p v) (c76 x) 76
  rwa [World.size_setCell] at h
theorem bx_drew {w : World} {b : Nat} {x : S76} (h : Bx w b x) : Bx w.drew b x := Blk.move h rfl
set_option maxRecDepth 100000 in
set_option maxHeartbeats 4000000 in
theorem ahead_any (l : List S76) (A : Option Addr) (c : Nat) (w : World) (hlen : l.length ≤ 1000000) (hC : k76.C w A l.length l) :
    Calls Try.prog 67 #[.slice A l.length c] w (AheadGives l w) := by
  have HC := Lib.hid hC; clear hC
  go_enter Try.func67, Try.ntmps67
  go_wp2_with fail
  refine (matrix_any l.length hlen _).mono ?_
  rintro e w2 ⟨g, bs, rfl, hB2, hM⟩
  have HF := Lib.hid (⟨hM, hB2⟩ : FillAt w.heap.size w g bs l _ w2); clear hM hB2
  go_wp2
  go_loopw [13] (fun v wr => ∃ i : Nat, v = .int .i64 i ∧ i ≤ l.length ∧ FillAt w.heap.size w g bs l (fI l.length (aheadE l) (List.replicate l.length (List.replicate l.length false)) i) wr) (fun v _ => l.length - (intOf v).toNat)
  case atStart => exact ⟨0, rfl, by omega, HF.out⟩
  case round =>
    obtain ⟨i, rfl, hi, hF⟩ := hrel
    have HF := Lib.hid hF; clear hF
    obtain ⟨wo, rfl⟩ : ∃ wo : World, wo = wr := ⟨_, rfl⟩
    by_cases hlt : i < l.length
    · obtain ⟨ad, rfl, g0, g1, g2, g3, g4, g5, g6, g7, g8, g9⟩ := at_T76 (Kd.C_below HC.out HF.out.2) (i : Int) (by omega) (by omega)
      rw [Int.toNat_natCast] at *
      generalize hae : rd_T76 l (i : Int) = a at *
      have HA := Lib.hid hae; clear hae
      have hwo := HF.out.2.size
      obtain ⟨bi, ri0, q1, _, _, hri0, _⟩ := HF.out.1.at i (by rw [((sq2_zero l.length).fI i (by omega)).1]; exact hlt)
      have hbo := hri0.lt
      have hgo := HF.out.1.outer.lt
      have HQ1 := Lib.hid q1; clear q1 hri0
      have hHFA := HF.out.alloc hwo (.cells (c76 a).toArray 76)
      have HFA := Lib.hid hHFA; clear hHFA
      go_wp2
      clear g0 g1 g2 g3 g4 g5 g6 g7 g8 g9
      go_loopw [20] (fun v wr => ∃ k : Nat, v = .int .i64 k ∧ k ≤ l.length ∧ FillAt w.heap.size w g bs l (fJ (aheadE l) i (fI l.length (aheadE l) (List.replicate l.length (List.replicate l.length false)) i) k) wr ∧ Bx wr wo.heap.size a) (fun v _ => l.length - (intOf v).toNat)
      case atStart => exact ⟨0, rfl, by omega, HFA.out, Blk.new wo (c76 a) 76⟩
      case round =>
        obtain ⟨k, rfl, hk, hF, hbx⟩ := hrel
        have hsq : Sq2 (fJ (aheadE l) i (fI l.length (aheadE l) (List.replicate l.length (List.replicate l.length false)) i) k) l.length := ((sq2_zero l.length).fI i (by omega)).fJ hlt k
        by_cases hlt2 : k < l.length
        · have HJ := Lib.hid (show fJ (aheadE l) i (fI l.length (aheadE l) (List.replicate l.length (List.replicate l.length false)) i) (k + 1) = stepF (fJ (aheadE l) i (fI l.length (aheadE l) (List.replicate l.length (List.replicate l.length false)) i) k) i k (aheadE l i k) from rfl)
          generalize fJ (aheadE l) i (fI l.length (aheadE l) (List.replicate l.length (List.replicate l.length false)) i) k = R at *
          obtain ⟨bi', ri, q1, q2, ci, hri, hli⟩ := hF.1.at i (by rw [hsq.1]; exact hlt)
          obtain rfl : bi = bi' := Option.some.inj (HQ1.out.symm.trans q1)
          obtain ⟨x, hx⟩ : ∃ x, ri[k]? = some x := ⟨_, List.getElem?_eq_getElem (by omega)⟩
          have cx := hri.cell (j := k) (v := .bool x) (by simp [bools, hx])
          have fx := hri.free k
          have hbi := hF.1.base bi (List.mem_of_getElem? q1)
          have hwr := hF.2.size
          have hbl := hri.lt
          have hgl := hF.1.outer.lt
          have hxl := hbx.lt
          obtain ⟨ad', ead, g0, g1, g2, g3, g4, g5, g6, g7, g8, g9⟩ := at_T76 (Kd.C_below HC.out hF.2) (k : Int) (by omega) (by omega)
          obtain rfl : ad = ad' := by simpa using ead
          clear ead
          rw [Int.toNat_natCast] at *
          have HQ2 := Lib.hid q2; have HF2 := Lib.hid hF; have HBX := Lib.hid hbx
          have HE := Lib.hid (show aheadE l i k = ((i != k) && (poB a (rd_T76 l k) || relB a (rd_T76 l k))) by unfold aheadE; rw [HA.out])
          clear hx hri q1 q2 hF hsq hli
          generalize rd_T76 l (k : Int) = b at *
          obtain ⟨a0, a1, a2, a3, a4, a5, a6, a7, a8, a9⟩ := bx_cells hbx
          clear hbx
          have hn1 : g ≠ bi := Ne.symm hbi.1
          have hn2 : bi ≠ g := hbi.1
          have hn3 : bi ≠ wo.heap.size := by omega
          have hn4 : wo.heap.size ≠ bi := by omega
          have hn5 : bi ≠ wr.heap.size := by omega
          have hn6 : wr.heap.size ≠ bi := by omega
          have hn7 : wr.heap.size ≠ wo.heap.size := by omega
          have hn8 : wo.heap.size ≠ wr.heap.size := by omega
          have hn9 : g ≠ wr.heap.size := by omega
          have hp1 : bi < wr.heap.size + 1 := by omega
          have hp2 : g < wr.heap.size + 1 := by omega
          have hp3 : wo.heap.size < wr.heap.size + 1 := by omega
          go_wp2
          clear g0 g1 g2 g3 g4 g5 g6 g7 g8 g9
          by_cases hik : i = k
          · have hgd : ((i : Int) != (k : Int)) = false := by simp [hik]
            have hgd' : ((i : Int) == (k : Int)) = true := by simp [hik]
            have HV := Lib.hid (show aheadE l i k = false by rw [HE.out]; simp [hik]); clear hik
            obtain ⟨n0, n1, n2, n3, n4, n5, n6, n7, n8, n9⟩ := bx_cells (bx_new wr ⟨bi, k, none⟩ (.bool false) b)
            simp only [c76] at n0 n1 n2 n3 n4 n5 n6 n7 n8 n9
            refine wp_region_held_drew (S := (fun w' => w'.cell? ⟨g, i, none⟩ = some (hdr l.length bi) ∧ w'.cell? ⟨wo.heap.size, 0, none⟩ = some (.int .i64 a.f0.f0) ∧ w'.cell? ⟨wo.heap.size, 1, none⟩ = some (.int .i64 a.f0.f1.f0) ∧ w'.cell? ⟨wo.heap.size, 2, none⟩ = some (.int .i64 a.f0.f1.f1) ∧ w'.cell? ⟨wo.heap.size, 3, none⟩ = some (.int .i64 a.f0.f1.f2) ∧ w'.cell? ⟨wo.heap.size, 4, none⟩ = some (.int .i64 a.f0.f1.f3) ∧ w'.cell? ⟨wo.heap.size, 5, none⟩ = some (.bool a.f0.f1.f4) ∧ w'.cell? ⟨wo.heap.size, 6, none⟩ = some (.bool a.f0.f1.f5) ∧ w'.cell? ⟨wo.heap.size, 7, none⟩ = some (.int .i64 a.f0.f2) ∧ w'.cell? ⟨wo.heap.size, 8, none⟩ = some (.int .i64 a.f0.f3) ∧ w'.cell? ⟨wo.heap.size, 9, none⟩ = some (.int .i64 a.f1) ∧ w'.cell? ⟨wr.heap.size, 0, none⟩ = some (.int .i64 b.f0.f0) ∧ w'.cell? ⟨wr.heap.size, 1, none⟩ = some (.int .i64 b.f0.f1.f0) ∧ w'.cell? ⟨wr.heap.size, 2, none⟩ = some (.int .i64 b.f0.f1.f1) ∧ w'.cell? ⟨wr.heap.size, 3, none⟩ = some (.int .i64 b.f0.f1.f2) ∧ w'.cell? ⟨wr.heap.size, 4, none⟩ = some (.int .i64 b.f0.f1.f3) ∧ w'.cell? ⟨wr.heap.size, 5, none⟩ = some (.bool b.f0.f1.f4) ∧ w'.cell? ⟨wr.heap.size, 6, none⟩ = some (.bool b.f0.f1.f5) ∧ w'.cell? ⟨wr.heap.size, 7, none⟩ = some (.int .i64 b.f0.f2) ∧ w'.cell? ⟨wr.heap.size, 8, none⟩ = some (.int .i64 b.f0.f3) ∧ w'.cell? ⟨wr.heap.size, 9, none⟩ = some (.int .i64 b.f1))) (by kernel_rfl) ?_ (fun hHeld => ?_)
            · (try dsimp only); go_keep
            refine wpAnyH_take (i := 0) (oi := { dst := some 25, op := Op.move (Operand.tmp 3), type := 80, pos := "ref.go:105", after := #[], guard := none }) (v := ?_) rfl (by kernel_rfl) (by kernel_rfl) (by kernel_rfl) (fun _ _ _ h => h) (Or.inl ⟨by rfl, ?_⟩) (by assumption) ?_
            rotate_left
            · intro w9 hSw; (try dsimp only at hSw); go_simp; try (with_reducible rfl)
            try simp only [Act.put, List.setIfInBounds_toArray, List.set_cons_zero, List.set_cons_succ]
            refine wpAnyH_take (i := 1) (oi := { dst := some 26, op := Op.move (Operand.tmp 4), type := 3, pos := "ref.go:105", after := #[], guard := none }) (v := ?_) rfl (by kernel_rfl) (by kernel_rfl) (by kernel_rfl) (fun _ _ _ h => h) (Or.inl ⟨by rfl, ?_⟩) (by assumption) ?_
            rotate_left
            · intro w9 hSw; (try dsimp only at hSw); go_simp; try (with_reducible rfl)
            try simp only [Act.put, List.setIfInBounds_toArray, List.set_cons_zero, List.set_cons_succ]
            refine wpAnyH_take (i := 2) (oi := { dst := some 27, op := Op.indexAddr 80 (Operand.tmp 25) (Operand.tmp 26), type := 0, pos := "ref.go:105", after := #[{ on := 0, ground := Ground.data }, { on := 1, ground := Ground.data }], guard := none }) (v := ?_) rfl (by kernel_rfl) (by kernel_rfl) (by kernel_rfl) (fun _ _ _ h => h) (Or.inl ⟨by rfl, ?_⟩) (by assumption) ?_
            rotate_left
            · intro w9 hSw; (try dsimp only at hSw); go_simp; try (with_reducible rfl)
            try simp only [Act.put, List.setIfInBounds_toArray, List.set_cons_zero, List.set_cons_succ]
            refine wpAnyH_take (i := 3) (oi := { dst := some 28, op := Op.load 90 (Operand.tmp 27), type := 90, pos := "ref.go:105", after := #[{ on := 2, ground := Ground.data }], guard := none }) (v := ?_) rfl (by kernel_rfl) (by kernel_rfl) (by kernel_rfl) (fun _ _ _ h => h) (Or.inl ⟨by rfl, ?_⟩) (by assumption) ?_
            rotate_left
            · intro w9 hSw; (try dsimp only at hSw); go_simp; try (with_reducible rfl)
            try simp only [Act.put, List.setIfInBounds_toArray, List.set_cons_zero, List.set_cons_succ]
            refine wpAnyH_take (i := 4) (oi := { dst := some 29, op := Op.move (Operand.tmp 6), type := 3, pos := "ref.go:105", after := #[], guard := none }) (v := ?_) rfl (by kernel_rfl) (by kernel_rfl) (by kernel_rfl) (fun _ _ _ h => h) (Or.inl ⟨by rfl, ?_⟩) (by assumption) ?_
            rotate_left
            · intro w9 hSw; (try dsimp only at hSw); go_simp; try (with_reducible rfl)
            try simp only [Act.put, List.setIfInBounds_toArray, List.set_cons_zero, List.set_cons_succ]
            refine wpAnyH_take (i := 5) (oi := { dst := some 30, op := Op.move (Operand.tmp 4), type := 3, pos := "ref.go:105", after := #[], guard := none }) (v := ?_) rfl (by kernel_rfl) (by kernel_rfl) (by kernel_rfl) (fun _ _ _ h => h) (Or.inl ⟨by rfl, ?_⟩) (by assumption) ?_
            rotate_left
            · intro w9 hSw; (try dsimp only at hSw); go_simp; try (with_reducible rfl)
            try simp only [Act.put, List.setIfInBounds_toArray, List.set_cons_zero, List.set_cons_succ]
            refine wpAnyH_take (i := 6) (oi := { dst := some 31, op := Op.move (Operand.tmp 6), type := 3, pos := "ref.go:105", after := #[], guard := none }) (v := ?_) rfl (by kernel_rfl) (by kernel_rfl) (by kernel_rfl) (fun _ _ _ h => h) (Or.inl ⟨by rfl, ?_⟩) (by assumption) ?_
            rotate_left
            · intro w9 hSw; (try dsimp only at hSw); go_simp; try (with_reducible rfl)
            try simp only [Act.put, List.setIfInBounds_toArray, List.set_cons_zero, List.set_cons_succ]
            refine wpAnyH_take (i := 7) (oi := { dst := some 32, op := Op.binOp BinOp.neq 3 (Operand.tmp 30) (Operand.tmp 31) 3, type := 4, pos := "ref.go:105", after := #[{ on := 5, ground := Ground.data }, { on := 6, ground := Ground.data }], guard := none }) (v := ?_) rfl (by kernel_rfl) (by kernel_rfl) (by kernel_rfl) (fun _ _ _ h => h) (Or.inl ⟨by rfl, ?_⟩) (by assumption) ?_
            rotate_left
            · intro w9 hSw; (try dsimp only at hSw); go_simp; try (with_reducible rfl)
            try simp only [Act.put, List.setIfInBounds_toArray, List.set_cons_zero, List.set_cons_succ]
            refine wpAnyH_take (i := 8) (oi := { dst := some 33, op := Op.move (Operand.tmp 32), type := 4, pos := "ref.go:105", after := #[{ on := 7, ground := Ground.data }], guard := none }) (v := ?_) rfl (by kernel_rfl) (by kernel_rfl) (by kernel_rfl) (fun _ _ _ h => h) (Or.inl ⟨by rfl, ?_⟩) (by assumption) ?_
            rotate_left
            · intro w9 hSw; (try dsimp only at hSw); go_simp; try (with_reducible rfl)
            try simp only [Act.put, List.setIfInBounds_toArray, List.set_cons_zero, List.set_cons_succ]
            refine wpAnyH_take (i := 9) (oi := { dst := some 34, op := Op.fieldAddr 76 (Operand.tmp 5) 0, type := 0, pos := "ref.go:105", after := #[{ on := 8, ground := Ground.guard }], guard := some (8, true) }) (v := undef) rfl (by kernel_rfl) (by kernel_rfl) (by kernel_rfl) (fun _ _ _ h => h) (Or.inr ⟨by rfl, rfl⟩) (by assumption) ?_
            try simp only [Act.put, List.setIfInBounds_toArray, List.set_cons_zero, List.set_cons_succ]
            refine wpAnyH_take (i := 10) (oi := { dst := some 35, op := Op.fieldAddr 68 (Operand.tmp 34) 0, type := 0, pos := "ref.go:105", after := #[{ on := 9, ground := Ground.data }, { on := 8, ground := Ground.guard }], guard := some (8, true) }) (v := undef) rfl (by kernel_rfl) (by kernel_rfl) (by kernel_rfl) (fun _ _ _ h => h) (Or.inr ⟨by rfl, rfl⟩) (by assumption) ?_
            try simp only [Act.put, List.setIfInBounds_toArray, List.set_cons_zero, List.set_cons_succ]
            refine wpAnyH_take (i := 11) (oi := { dst := some 36, op := Op.load 3 (Operand.tmp 35), type := 3, pos := "ref.go:105", after := #[{ on := 10, ground := Ground.data }, { on := 8, ground := Ground.guard }], guard := some (8, true) }) (v := undef) rfl (by kernel_rfl) (by kernel_rfl) (by kernel_rfl) (fun _ _ _ h => h) (Or.inr ⟨by rfl, rfl⟩) (by assumption) ?_
            try simp only [Act.put, List.setIfInBounds_toArray, List.set_cons_zero, List.set_cons_succ]
            refine wpAnyH_take (i := 12) (oi := { dst := some 37, op := Op.fieldAddr 76 (Operand.tmp 7) 0, type := 0, pos := "ref.go:105", after := #[{ on := 8, ground := Ground.guard }], guard := some (8, true) }) (v := undef) rfl (by kernel_rfl) (by kernel_rfl) (by kernel_rfl) (fun _ _ _ h => h) (Or.inr ⟨by rfl, rfl⟩) (by assumption) ?_
            try simp only [Act.put, List.setIfInBounds_toArray, List.set_cons_zero, List.set_cons_succ]
            refine wpAnyH_take (i := 13) (oi := { dst := some 38, op := Op.fieldAddr 68 (Operand.tmp 37) 0, type := 0, pos := "ref.go:105", after := #[{ on := 12, ground := Ground.data }, { on := 8, ground := Ground.guard }], guard := some (8, true) }) (v := undef) rfl (by kernel_rfl) (by kernel_rfl) (by kernel_rfl) (fun _ _ _ h => h) (Or.inr ⟨by rfl, rfl⟩) (by assumption) ?_
            try simp only [Act.put, List.setIfInBounds_toArray, List.set_cons_zero, List.set_cons_succ]
            refine wpAnyH_take (i := 14) (oi := { dst := some 39, op := Op.load 3 (Operand.tmp 38), type := 3, pos := "ref.go:105", after := #[{ on := 13, ground := Ground.data }, { on := 8, ground := Ground.guard }], guard := some (8, true) }) (v := undef) rfl (by kernel_rfl) (by kernel_rfl) (by kernel_rfl) (fun _ _ _ h => h) (Or.inr ⟨by rfl, rfl⟩) (by assumption) ?_
            try simp only [Act.put, List.setIfInBounds_toArray, List.set_cons_zero, List.set_cons_succ]
            refine wpAnyH_take (i := 15) (oi := { dst := some 40, op := Op.binOp BinOp.eql 3 (Operand.tmp 36) (Operand.tmp 39) 3, type := 4, pos := "ref.go:105", after := #[{ on := 11, ground := Ground.data }, { on := 14, ground := Ground.data }, { on := 8, ground := Ground.guard }], guard := some (8, true) }) (v := undef) rfl (by kernel_rfl) (by kernel_rfl) (by kernel_rfl) (fun _ _ _ h => h) (Or.inr ⟨by rfl, rfl⟩) (by assumption) ?_
            try simp only [Act.put, List.setIfInBounds_toArray, List.set_cons_zero, List.set_cons_succ]
            refine wpAnyH_take (i := 16) (oi := { dst := some 41, op := Op.move (Operand.tmp 40), type := 4, pos := "ref.go:105", after := #[{ on := 15, ground := Ground.data }, { on := 8, ground := Ground.chain }, { on := 8, ground := Ground.guard }], guard := some (8, true) }) (v := undef) rfl (by kernel_rfl) (by kernel_rfl) (by kernel_rfl) (fun _ _ _ h => h) (Or.inr ⟨by rfl, rfl⟩) (by assumption) ?_
            try simp only [Act.put, List.setIfInBounds_toArray, List.set_cons_zero, List.set_cons_succ]
            refine wpAnyH_take (i := 17) (oi := { dst := some 42, op := Op.fieldAddr 76 (Operand.tmp 5) 1, type := 0, pos := "ref.go:105", after := #[{ on := 16, ground := Ground.guard }], guard := some (16, true) }) (v := undef) rfl (by kernel_rfl) (by kernel_rfl) (by kernel_rfl) (fun _ _ _ h => h) (Or.inr ⟨by rfl, rfl⟩) (by assumption) ?_
            try simp only [Act.put, List.setIfInBounds_toArray, List.set_cons_zero, List.set_cons_succ]
            refine wpAnyH_take (i := 18) (oi := { dst := some 43, op := Op.load 3 (Operand.tmp 42), type := 3, pos := "ref.go:105", after := #[{ on := 17, ground := Ground.data }, { on := 16, ground := Ground.guard }], guard := some (16, true) }) (v := undef) rfl (by kernel_rfl) (by kernel_rfl) (by kernel_rfl) (fun _ _ _ h => h) (Or.inr ⟨by rfl, rfl⟩) (by assumption) ?_
            try simp only [Act.put, List.setIfInBounds_toArray, List.set_cons_zero, List.set_cons_succ]
            refine wpAnyH_take (i := 19) (oi := { dst := some 44, op := Op.fieldAddr 76 (Operand.tmp 7) 1, type := 0, pos := "ref.go:105", after := #[{ on := 16, ground := Ground.guard }], guard := some (16, true) }) (v := undef) rfl (by kernel_rfl) (by kernel_rfl) (by kernel_rfl) (fun _ _ _ h => h) (Or.inr ⟨by rfl, rfl⟩) (by assumption) ?_
            try simp only [Act.put, List.setIfInBounds_toArray, List.set_cons_zero, List.set_cons_succ]
            refine wpAnyH_take (i := 20) (oi := { dst := some 45, op := Op.load 3 (Operand.tmp 44), type := 3, pos := "ref.go:105", after := #[{ on := 19, ground := Ground.data }, { on := 16, ground := Ground.guard }], guard := some (16, true) }) (v := undef) rfl (by kernel_rfl) (by kernel_rfl) (by kernel_rfl) (fun _ _ _ h => h) (Or.inr ⟨by rfl, rfl⟩) (by assumption) ?_
            try simp only [Act.put, List.setIfInBounds_toArray, List.set_cons_zero, List.set_cons_succ]
            refine wpAnyH_take (i := 21) (oi := { dst := some 46, op := Op.binOp BinOp.lss 3 (Operand.tmp 43) (Operand.tmp 45) 3, type := 4, pos := "ref.go:105", after := #[{ on := 18, ground := Ground.data }, { on := 20, ground := Ground.data }, { on := 16, ground := Ground.guard }], guard := some (16, true) }) (v := undef) rfl (by kernel_rfl) (by kernel_rfl) (by kernel_rfl) (fun _ _ _ h => h) (Or.inr ⟨by rfl, rfl⟩) (by assumption) ?_
            try simp only [Act.put, List.setIfInBounds_toArray, List.set_cons_zero, List.set_cons_succ]
            refine wpAnyH_take (i := 22) (oi := { dst := some 47, op := Op.pick (Operand.tmp 41) (Operand.tmp 46) (Operand.const (Value.bool false)), type := 4, pos := "ref.go:105", after := #[{ on := 16, ground := Ground.data }, { on := 21, ground := Ground.data }, { on := 8, ground := Ground.guard }], guard := some (8, true) }) (v := undef) rfl (by kernel_rfl) (by kernel_rfl) (by kernel_rfl) (fun _ _ _ h => h) (Or.inr ⟨by rfl, rfl⟩) (by assumption) ?_
            try simp only [Act.put, List.setIfInBounds_toArray, List.set_cons_zero, List.set_cons_succ]
            refine wpAnyH_take (i := 23) (oi := { dst := some 48, op := Op.move (Operand.tmp 47), type := 4, pos := "ref.go:105", after := #[{ on := 22, ground := Ground.data }, { on := 16, ground := Ground.chain }, { on := 8, ground := Ground.guard }], guard := some (8, true) }) (v := undef) rfl (by kernel_rfl) (by kernel_rfl) (by kernel_rfl) (fun _ _ _ h => h) (Or.inr ⟨by rfl, rfl⟩) (by assumption) ?_
            try simp only [Act.put, List.setIfInBounds_toArray, List.set_cons_zero, List.set_cons_succ]
            refine wpAnyH_take (i := 24) (oi := { dst := some 49, op := Op.load 76 (Operand.tmp 5), type := 76, pos := "ref.go:105", after := #[{ on := 23, ground := Ground.guard }], guard := some (23, false) }) (v := undef) rfl (by kernel_rfl) (by kernel_rfl) (by kernel_rfl) (fun _ _ _ h => h) (Or.inr ⟨by rfl, rfl⟩) (by assumption) ?_
            try simp only [Act.put, List.setIfInBounds_toArray, List.set_cons_zero, List.set_cons_succ]
            refine wpAnyH_take (i := 25) (oi := { dst := some 50, op := Op.load 76 (Operand.tmp 7), type := 76, pos := "ref.go:105", after := #[{ on := 23, ground := Ground.guard }], guard := some (23, false) }) (v := undef) rfl (by kernel_rfl) (by kernel_rfl) (by kernel_rfl) (fun _ _ _ h => h) (Or.inr ⟨by rfl, rfl⟩) (by assumption) ?_
            try simp only [Act.put, List.setIfInBounds_toArray, List.set_cons_zero, List.set_cons_succ]
            refine wpAnyH_take (i := 26) (oi := { dst := some 51, op := Op.call { callee := Callee.value (Operand.func 97), args := #[Operand.tmp 49, Operand.tmp 50], argTypes := #[76, 76] }, type := 4, pos := "ref.go:105", after := #[{ on := 24, ground := Ground.data }, { on := 25, ground := Ground.data }, { on := 23, ground := Ground.chain }, { on := 23, ground := Ground.guard }], guard := some (23, false) }) (v := undef) rfl (by kernel_rfl) (by kernel_rfl) (by kernel_rfl) (fun _ _ _ h => h) (Or.inr ⟨by rfl, rfl⟩) (by assumption) ?_
            try simp only [Act.put, List.setIfInBounds_toArray, List.set_cons_zero, List.set_cons_succ]
            refine wpAnyH_take (i := 27) (oi := { dst := some 52, op := Op.pick (Operand.tmp 48) (Operand.const (Value.bool true)) (Operand.tmp 51), type := 4, pos := "ref.go:105", after := #[{ on := 23, ground := Ground.data }, { on := 26, ground := Ground.data }, { on := 8, ground := Ground.guard }], guard := some (8, true) }) (v := undef) rfl (by kernel_rfl) (by kernel_rfl) (by kernel_rfl) (fun _ _ _ h => h) (Or.inr ⟨by rfl, rfl⟩) (by assumption) ?_
            try simp only [Act.put, List.setIfInBounds_toArray, List.set_cons_zero, List.set_cons_succ]
            refine wpAnyH_take (i := 28) (oi := { dst := some 53, op := Op.pick (Operand.tmp 33) (Operand.tmp 52) (Operand.const (Value.bool false)), type := 4, pos := "ref.go:105", after := #[{ on := 8, ground := Ground.data }, { on := 27, ground := Ground.data }], guard := none }) (v := ?_) rfl (by kernel_rfl) (by kernel_rfl) (by kernel_rfl) (fun _ _ _ h => h) (Or.inl ⟨by rfl, ?_⟩) (by assumption) ?_
            rotate_left
            · intro w9 hSw; (try dsimp only at hSw); go_simp; try (with_reducible rfl)
            try simp only [Act.put, List.setIfInBounds_toArray, List.set_cons_zero, List.set_cons_succ]
            refine wpAnyH_take (i := 29) (oi := { dst := some 54, op := Op.indexAddr 90 (Operand.tmp 28) (Operand.tmp 29), type := 0, pos := "ref.go:105", after := #[{ on := 3, ground := Ground.data }, { on := 4, ground := Ground.data }, { on := 0, ground := Ground.phase }, { on := 1, ground := Ground.phase }, { on := 2, ground := Ground.phase }, { on := 3, ground := Ground.phase }, { on := 4, ground := Ground.phase }, { on := 5, ground := Ground.phase }, { on := 6, ground := Ground.phase }, { on := 7, ground := Ground.phase }, { on := 8, ground := Ground.phase }, { on := 9, ground := Ground.phase }, { on := 10, ground := Ground.phase }, { on := 11, ground := Ground.phase }, { on := 12, ground := Ground.phase }, { on := 13, ground := Ground.phase }, { on := 14, ground := Ground.phase }, { on := 15, ground := Ground.phase }, { on := 16, ground := Ground.phase }, { on := 17, ground := Ground.phase }, { on := 18, ground := Ground.phase }, { on := 19, ground := Ground.phase }, { on := 20, ground := Ground.phase }, { on := 21, ground := Ground.phase }, { on := 22, ground := Ground.phase }, { on := 23, ground := Ground.phase }, { on := 24, ground := Ground.phase }, { on := 25, ground := Ground.phase }, { on := 26, ground := Ground.phase }, { on := 27, ground := Ground.phase }, { on := 28, ground := Ground.phase }], guard := none }) (v := ?_) rfl (by kernel_rfl) (by kernel_rfl) (by kernel_rfl) (fun _ _ _ h => h) (Or.inl ⟨by rfl, ?_⟩) (by assumption) ?_
            rotate_left
            · intro w9 hSw; (try dsimp only at hSw); go_simp; try (with_reducible rfl)
            try simp only [Act.put, List.setIfInBounds_toArray, List.set_cons_zero, List.set_cons_succ]
            refine wpAnyH_ready (rs := [30]) (by kernel_rfl) (by simp) ?_
            refine AllReadyH.cons (o := { dst := none, op := Op.store 4 (Operand.tmp 54) (Operand.tmp 53), type := 0, pos := "ref.go:105", after := #[{ on := 29, ground := Ground.data }, { on := 28, ground := Ground.data }, { on := 26, ground := Ground.chain }, { on := 0, ground := Ground.phase }, { on := 1, ground := Ground.phase }, { on := 2, ground := Ground.phase }, { on := 3, ground := Ground.phase }, { on := 4, ground := Ground.phase }, { on := 5, ground := Ground.phase }, { on := 6, ground := Ground.phase }, { on := 7, ground := Ground.phase }, { on := 8, ground := Ground.phase }, { on := 9, ground := Ground.phase }, { on := 10, ground := Ground.phase }, { on := 11, ground := Ground.phase }, { on := 12, ground := Ground.phase }, { on := 13, ground := Ground.phase }, { on := 14, ground := Ground.phase }, { on := 15, ground := Ground.phase }, { on := 16, ground := Ground.phase }, { on := 17, ground := Ground.phase }, { on := 18, ground := Ground.phase }, { on := 19, ground := Ground.phase }, { on := 20, ground := Ground.phase }, { on := 21, ground := Ground.phase }, { on := 22, ground := Ground.phase }, { on := 23, ground := Ground.phase }, { on := 24, ground := Ground.phase }, { on := 25, ground := Ground.phase }, { on := 26, ground := Ground.phase }, { on := 27, ground := Ground.phase }, { on := 28, ground := Ground.phase }], guard := none }) rfl (fun K hK => ?_) AllReadyH.nil
            go_simp
            refine hK.out _ _ ?_ (fun hHeld32 => ?_)
            · (try dsimp only); go_keep
            clear hK K
            try simp only [Act.put, List.setIfInBounds_toArray, List.set_cons_zero, List.set_cons_succ]
            refine wpAnyH_done (by kernel_rfl) ?_ _
            go_wp2
            go_roundw
            case rel => exact ⟨k + 1, by go_num, by omega, by rw [HJ.out, HV.out]; exact FillAt.below (fill_set HF2.out HQ1.out HQ2.out k false) (by simpa using hwr) (below_drew ((Below.refl _ _).alloc (Nat.le_refl _) _)), bx_drew (Blk.alloc (Blk.far HBX.out _ _ (by exact hn4)) _)⟩
            case measure => simp [intOf]; omega
          · have hgd : ((i : Int) != (k : Int)) = true := by simp; omega
            have hgd' : ((i : Int) == (k : Int)) = false := by simp; omega
            have hik' : (i != k) = true := by simpa using hik
            rw [hik'] at HE; clear hik hik'
            cases hT : (a.f0.f0 == b.f0.f0)
            · have HV := Lib.hid (show aheadE l i k = relB a b by rw [HE.out]; simp [poB, hT])
              refine wp_region_held_drew (S := (fun w' => w'.cell? ⟨g, i, none⟩ = some (hdr l.length bi) ∧ w'.cell? ⟨wo.heap.size, 0, none⟩ = some (.int .i64 a.f0.f0) ∧ w'.cell? ⟨wo.heap.size, 1, none⟩ = some (.int .i64 a.f0.f1.f0) ∧ w'.cell? ⟨wo.heap.size, 2, none⟩ = some (.int .i64 a.f0.f1.f1) ∧ w'.cell? ⟨wo.heap.size, 3, none⟩ = some (.int .i64 a.f0.f1.f2) ∧ w'.cell? ⟨wo.heap.size, 4, none⟩ = some (.int .i64 a.f0.f1.f3) ∧ w'.cell? ⟨wo.heap.size, 5, none⟩ = some (.bool a.f0.f1.f4) ∧ w'.cell? ⟨wo.heap.size, 6, none⟩ = some (.bool a.f0.f1.f5) ∧ w'.cell? ⟨wo.heap.size, 7, none⟩ = some (.int .i64 a.f0.f2) ∧ w'.cell? ⟨wo.heap.size, 8, none⟩ = some (.int .i64 a.f0.f3) ∧ w'.cell? ⟨wo.heap.size, 9, none⟩ = some (.int .i64 a.f1) ∧ w'.cell? ⟨wr.heap.size, 0, none⟩ = some (.int .i64 b.f0.f0) ∧ w'.cell? ⟨wr.heap.size, 1, none⟩ = some (.int .i64 b.f0.f1.f0) ∧ w'.cell? ⟨wr.heap.size, 2, none⟩ = some (.int .i64 b.f0.f1.f1) ∧ w'.cell? ⟨wr.heap.size, 3, none⟩ = some (.int .i64 b.f0.f1.f2) ∧ w'.cell? ⟨wr.heap.size, 4, none⟩ = some (.int .i64 b.f0.f1.f3) ∧ w'.cell? ⟨wr.heap.size, 5, none⟩ = some (.bool b.f0.f1.f4) ∧ w'.cell? ⟨wr.heap.size, 6, none⟩ = some (.bool b.f0.f1.f5) ∧ w'.cell? ⟨wr.heap.size, 7, none⟩ = some (.int .i64 b.f0.f2) ∧ w'.cell? ⟨wr.heap.size, 8, none⟩ = some (.int .i64 b.f0.f3) ∧ w'.cell? ⟨wr.heap.size, 9, none⟩ = some (.int .i64 b.f1))) (by kernel_rfl) ?_ (fun hHeld => ?_)
              · (try dsimp only); go_keep
              refine wpAnyH_take (i := 0) (oi := { dst := some 25, op := Op.move (Operand.tmp 3), type := 80, pos := "ref.go:105", after := #[], guard := none }) (v := ?_) rfl (by kernel_rfl) (by kernel_rfl) (by kernel_rfl) (fun _ _ _ h => h) (Or.inl ⟨by rfl, ?_⟩) (by assumption) ?_
              rotate_left
              · intro w9 hSw; (try dsimp only at hSw); go_simp; try (with_reducible rfl)
              try simp only [Act.put, List.setIfInBounds_toArray, List.set_cons_zero, List.set_cons_succ]
              refine wpAnyH_take (i := 1) (oi := { dst := some 26, op := Op.move (Operand.tmp 4), type := 3, pos := "ref.go:105", after := #[], guard := none }) (v := ?_) rfl (by kernel_rfl) (by kernel_rfl) (by kernel_rfl) (fun _ _ _ h => h) (Or.inl ⟨by rfl, ?_⟩) (by assumption) ?_
              rotate_left
              · intro w9 hSw; (try dsimp only at hSw); go_simp; try (with_reducible rfl)
              try simp only [Act.put, List.setIfInBounds_toArray, List.set_cons_zero, List.set_cons_succ]
              refine wpAnyH_take (i := 2) (oi := { dst := some 27, op := Op.indexAddr 80 (Operand.tmp 25) (Operand.tmp 26), type := 0, pos := "ref.go:105", after := #[{ on := 0, ground := Ground.data }, { on := 1, ground := Ground.data }], guard := none }) (v := ?_) rfl (by kernel_rfl) (by kernel_rfl) (by kernel_rfl) (fun _ _ _ h => h) (Or.inl ⟨by rfl, ?_⟩) (by assumption) ?_
              rotate_left
              · intro w9 hSw; (try dsimp only at hSw); go_simp; try (with_reducible rfl)
              try simp only [Act.put, List.setIfInBounds_toArray, List.set_cons_zero, List.set_cons_succ]
              refine wpAnyH_take (i := 3) (oi := { dst := some 28, op := Op.load 90 (Operand.tmp 27), type := 90, pos := "ref.go:105", after := #[{ on := 2, ground := Ground.data }], guard := none }) (v := ?_) rfl (by kernel_rfl) (by kernel_rfl) (by kernel_rfl) (fun _ _ _ h => h) (Or.inl ⟨by rfl, ?_⟩) (by assumption) ?_
              rotate_left
              · intro w9 hSw; (try dsimp only at hSw); go_simp; try (with_reducible rfl)
              try simp only [Act.put, List.setIfInBounds_toArray, List.set_cons_zero, List.set_cons_succ]
              refine wpAnyH_take (i := 4) (oi := { dst := some 29, op := Op.move (Operand.tmp 6), type := 3, pos := "ref.go:105", after := #[], guard := none }) (v := ?_) rfl (by kernel_rfl) (by kernel_rfl) (by kernel_rfl) (fun _ _ _ h => h) (Or.inl ⟨by rfl, ?_⟩) (by assumption) ?_
              rotate_left
              · intro w9 hSw; (try dsimp only at hSw); go_simp; try (with_reducible rfl)
              try simp only [Act.put, List.setIfInBounds_toArray, List.set_cons_zero, List.set_cons_succ]
              refine wpAnyH_take (i := 5) (oi := { dst := some 30, op := Op.move (Operand.tmp 4), type := 3, pos := "ref.go:105", after := #[], guard := none }) (v := ?_) rfl (by kernel_rfl) (by kernel_rfl) (by kernel_rfl) (fun _ _ _ h => h) (Or.inl ⟨by rfl, ?_⟩) (by assumption) ?_
              rotate_left
              · intro w9 hSw; (try dsimp only at hSw); go_simp; try (with_reducible rfl)
              try simp only [Act.put, List.setIfInBounds_toArray, List.set_cons_zero, List.set_cons_succ]
              refine wpAnyH_take (i := 6) (oi := { dst := some 31, op := Op.move (Operand.tmp 6), type := 3, pos := "ref.go:105", after := #[], guard := none }) (v := ?_) rfl (by kernel_rfl) (by kernel_rfl) (by kernel_rfl) (fun _ _ _ h => h) (Or.inl ⟨by rfl, ?_⟩) (by assumption) ?_
              rotate_left
              · intro w9 hSw; (try dsimp only at hSw); go_simp; try (with_reducible rfl)
              try simp only [Act.put, List.setIfInBounds_toArray, List.set_cons_zero, List.set_cons_succ]
              refine wpAnyH_take (i := 7) (oi := { dst := some 32, op := Op.binOp BinOp.neq 3 (Operand.tmp 30) (Operand.tmp 31) 3, type := 4, pos := "ref.go:105", after := #[{ on := 5, ground := Ground.data }, { on := 6, ground := Ground.data }], guard := none }) (v := ?_) rfl (by kernel_rfl) (by kernel_rfl) (by kernel_rfl) (fun _ _ _ h => h) (Or.inl ⟨by rfl, ?_⟩) (by assumption) ?_
              rotate_left
              · intro w9 hSw; (try dsimp only at hSw); go_simp; try (with_reducible rfl)
              try simp only [Act.put, List.setIfInBounds_toArray, List.set_cons_zero, List.set_cons_succ]
              refine wpAnyH_take (i := 8) (oi := { dst := some 33, op := Op.move (Operand.tmp 32), type := 4, pos := "ref.go:105", after := #[{ on := 7, ground := Ground.data }], guard := none }) (v := ?_) rfl (by kernel_rfl) (by kernel_rfl) (by kernel_rfl) (fun _ _ _ h => h) (Or.inl ⟨by rfl, ?_⟩) (by assumption) ?_
              rotate_left
              · intro w9 hSw; (try dsimp only at hSw); go_simp; try (with_reducible rfl)
              try simp only [Act.put, List.setIfInBounds_toArray, List.set_cons_zero, List.set_cons_succ]
              refine wpAnyH_take (i := 9) (oi := { dst := some 34, op := Op.fieldAddr 76 (Operand.tmp 5) 0, type := 0, pos := "ref.go:105", after := #[{ on := 8, ground := Ground.guard }], guard := some (8, true) }) (v := ?_) rfl (by kernel_rfl) (by kernel_rfl) (by kernel_rfl) (fun _ _ _ h => h) (Or.inl ⟨by rfl, ?_⟩) (by assumption) ?_
              rotate_left
              · intro w9 hSw; (try dsimp only at hSw); go_simp; try (with_reducible rfl)
              try simp only [Act.put, List.setIfInBounds_toArray, List.set_cons_zero, List.set_cons_succ]
              refine wpAnyH_take (i := 10) (oi := { dst := some 35, op := Op.fieldAddr 68 (Operand.tmp 34) 0, type := 0, pos := "ref.go:105", after := #[{ on := 9, ground := Ground.data }, { on := 8, ground := Ground.guard }], guard := some (8, true) }) (v := ?_) rfl (by kernel_rfl) (by kernel_rfl) (by kernel_rfl) (fun _ _ _ h => h) (Or.inl ⟨by rfl, ?_⟩) (by assumption) ?_
              rotate_left
              · intro w9 hSw; (try dsimp only at hSw); go_simp; try (with_reducible rfl)
              try simp only [Act.put, List.setIfInBounds_toArray, List.set_cons_zero, List.set_cons_succ]
              refine wpAnyH_take (i := 11) (oi := { dst := some 36, op := Op.load 3 (Operand.tmp 35), type := 3, pos := "ref.go:105", after := #[{ on := 10, ground := Ground.data }, { on := 8, ground := Ground.guard }], guard := some (8, true) }) (v := ?_) rfl (by kernel_rfl) (by kernel_rfl) (by kernel_rfl) (fun _ _ _ h => h) (Or.inl ⟨by rfl, ?_⟩) (by assumption) ?_
              rotate_left
              · intro w9 hSw; (try dsimp only at hSw); go_simp; try (with_reducible rfl)
              try simp only [Act.put, List.setIfInBounds_toArray, List.set_cons_zero, List.set_cons_succ]
              refine wpAnyH_take (i := 12) (oi := { dst := some 37, op := Op.fieldAddr 76 (Operand.tmp 7) 0, type := 0, pos := "ref.go:105", after := #[{ on := 8, ground := Ground.guard }], guard := some (8, true) }) (v := ?_) rfl (by kernel_rfl) (by kernel_rfl) (by kernel_rfl) (fun _ _ _ h => h) (Or.inl ⟨by rfl, ?_⟩) (by assumption) ?_
              rotate_left
              · intro w9 hSw; (try dsimp only at hSw); go_simp; try (with_reducible rfl)
              try simp only [Act.put, List.setIfInBounds_toArray, List.set_cons_zero, List.set_cons_succ]
              refine wpAnyH_take (i := 13) (oi := { dst := some 38, op := Op.fieldAddr 68 (Operand.tmp 37) 0, type := 0, pos := "ref.go:105", after := #[{ on := 12, ground := Ground.data }, { on := 8, ground := Ground.guard }], guard := some (8, true) }) (v := ?_) rfl (by kernel_rfl) (by kernel_rfl) (by kernel_rfl) (fun _ _ _ h => h) (Or.inl ⟨by rfl, ?_⟩) (by assumption) ?_
              rotate_left
              · intro w9 hSw; (try dsimp only at hSw); go_simp; try (with_reducible rfl)
              try simp only [Act.put, List.setIfInBounds_toArray, List.set_cons_zero, List.set_cons_succ]
              refine wpAnyH_take (i := 14) (oi := { dst := some 39, op := Op.load 3 (Operand.tmp 38), type := 3, pos := "ref.go:105", after := #[{ on := 13, ground := Ground.data }, { on := 8, ground := Ground.guard }], guard := some (8, true) }) (v := ?_) rfl (by kernel_rfl) (by kernel_rfl) (by kernel_rfl) (fun _ _ _ h => h) (Or.inl ⟨by rfl, ?_⟩) (by assumption) ?_
              rotate_left
              · intro w9 hSw; (try dsimp only at hSw); go_simp; try (with_reducible rfl)
              try simp only [Act.put, List.setIfInBounds_toArray, List.set_cons_zero, List.set_cons_succ]
              refine wpAnyH_take (i := 15) (oi := { dst := some 40, op := Op.binOp BinOp.eql 3 (Operand.tmp 36) (Operand.tmp 39) 3, type := 4, pos := "ref.go:105", after := #[{ on := 11, ground := Ground.data }, { on := 14, ground := Ground.data }, { on := 8, ground := Ground.guard }], guard := some (8, true) }) (v := ?_) rfl (by kernel_rfl) (by kernel_rfl) (by kernel_rfl) (fun _ _ _ h => h) (Or.inl ⟨by rfl, ?_⟩) (by assumption) ?_
              rotate_left
              · intro w9 hSw; (try dsimp only at hSw); go_simp; try (with_reducible rfl)
              try simp only [Act.put, List.setIfInBounds_toArray, List.set_cons_zero, List.set_cons_succ]
              refine wpAnyH_take (i := 16) (oi := { dst := some 41, op := Op.move (Operand.tmp 40), type := 4, pos := "ref.go:105", after := #[{ on := 15, ground := Ground.data }, { on := 8, ground := Ground.chain }, { on := 8, ground := Ground.guard }], guard := some (8, true) }) (v := ?_) rfl (by kernel_rfl) (by kernel_rfl) (by kernel_rfl) (fun _ _ _ h => h) (Or.inl ⟨by rfl, ?_⟩) (by assumption) ?_
              rotate_left
              · intro w9 hSw; (try dsimp only at hSw); go_simp; try (with_reducible rfl)
              try simp only [Act.put, List.setIfInBounds_toArray, List.set_cons_zero, List.set_cons_succ]
              refine wpAnyH_take (i := 17) (oi := { dst := some 42, op := Op.fieldAddr 76 (Operand.tmp 5) 1, type := 0, pos := "ref.go:105", after := #[{ on := 16, ground := Ground.guard }], guard := some (16, true) }) (v := undef) rfl (by kernel_rfl) (by kernel_rfl) (by kernel_rfl) (fun _ _ _ h => h) (Or.inr ⟨by rfl, rfl⟩) (by assumption) ?_
              try simp only [Act.put, List.setIfInBounds_toArray, List.set_cons_zero, List.set_cons_succ]
              refine wpAnyH_take (i := 18) (oi := { dst := some 43, op := Op.load 3 (Operand.tmp 42), type := 3, pos := "ref.go:105", after := #[{ on := 17, ground := Ground.data }, { on := 16, ground := Ground.guard }], guard := some (16, true) }) (v := undef) rfl (by kernel_rfl) (by kernel_rfl) (by kernel_rfl) (fun _ _ _ h => h) (Or.inr ⟨by rfl, rfl⟩) (by assumption) ?_
              try simp only [Act.put, List.setIfInBounds_toArray, List.set_cons_zero, List.set_cons_succ]
              refine wpAnyH_take (i := 19) (oi := { dst := some 44, op := Op.fieldAddr 76 (Operand.tmp 7) 1, type := 0, pos := "ref.go:105", after := #[{ on := 16, ground := Ground.guard }], guard := some (16, true) }) (v := undef) rfl (by kernel_rfl) (by kernel_rfl) (by kernel_rfl) (fun _ _ _ h => h) (Or.inr ⟨by rfl, rfl⟩) (by assumption) ?_
              try simp only [Act.put, List.setIfInBounds_toArray, List.set_cons_zero, List.set_cons_succ]
              refine wpAnyH_take (i := 20) (oi := { dst := some 45, op := Op.load 3 (Operand.tmp 44), type := 3, pos := "ref.go:105", after := #[{ on := 19, ground := Ground.data }, { on := 16, ground := Ground.guard }], guard := some (16, true) }) (v := undef) rfl (by kernel_rfl) (by kernel_rfl) (by kernel_rfl) (fun _ _ _ h => h) (Or.inr ⟨by rfl, rfl⟩) (by assumption) ?_
              try simp only [Act.put, List.setIfInBounds_toArray, List.set_cons_zero, List.set_cons_succ]
              refine wpAnyH_take (i := 21) (oi := { dst := some 46, op := Op.binOp BinOp.lss 3 (Operand.tmp 43) (Operand.tmp 45) 3, type := 4, pos := "ref.go:105", after := #[{ on := 18, ground := Ground.data }, { on := 20, ground := Ground.data }, { on := 16, ground := Ground.guard }], guard := some (16, true) }) (v := undef) rfl (by kernel_rfl) (by kernel_rfl) (by kernel_rfl) (fun _ _ _ h => h) (Or.inr ⟨by rfl, rfl⟩) (by assumption) ?_
              try simp only [Act.put, List.setIfInBounds_toArray, List.set_cons_zero, List.set_cons_succ]
              refine wpAnyH_take (i := 22) (oi := { dst := some 47, op := Op.pick (Operand.tmp 41) (Operand.tmp 46) (Operand.const (Value.bool false)), type := 4, pos := "ref.go:105", after := #[{ on := 16, ground := Ground.data }, { on := 21, ground := Ground.data }, { on := 8, ground := Ground.guard }], guard := some (8, true) }) (v := ?_) rfl (by kernel_rfl) (by kernel_rfl) (by kernel_rfl) (fun _ _ _ h => h) (Or.inl ⟨by rfl, ?_⟩) (by assumption) ?_
              rotate_left
              · intro w9 hSw; (try dsimp only at hSw); go_simp; try (with_reducible rfl)
              try simp only [Act.put, List.setIfInBounds_toArray, List.set_cons_zero, List.set_cons_succ]
              refine wpAnyH_take (i := 23) (oi := { dst := some 48, op := Op.move (Operand.tmp 47), type := 4, pos := "ref.go:105", after := #[{ on := 22, ground := Ground.data }, { on := 16, ground := Ground.chain }, { on := 8, ground := Ground.guard }], guard := some (8, true) }) (v := ?_) rfl (by kernel_rfl) (by kernel_rfl) (by kernel_rfl) (fun _ _ _ h => h) (Or.inl ⟨by rfl, ?_⟩) (by assumption) ?_
              rotate_left
              · intro w9 hSw; (try dsimp only at hSw); go_simp; try (with_reducible rfl)
              try simp only [Act.put, List.setIfInBounds_toArray, List.set_cons_zero, List.set_cons_succ]
              refine wpAnyH_take (i := 24) (oi := { dst := some 49, op := Op.load 76 (Operand.tmp 5), type := 76, pos := "ref.go:105", after := #[{ on := 23, ground := Ground.guard }], guard := some (23, false) }) (v := ?_) rfl (by kernel_rfl) (by kernel_rfl) (by kernel_rfl) (fun _ _ _ h => h) (Or.inl ⟨by rfl, ?_⟩) (by assumption) ?_
              rotate_left
              · intro w9 hSw; (try dsimp only at hSw); go_simp; try (with_reducible rfl)
              try simp only [Act.put, List.setIfInBounds_toArray, List.set_cons_zero, List.set_cons_succ]
              refine wpAnyH_take (i := 25) (oi := { dst := some 50, op := Op.load 76 (Operand.tmp 7), type := 76, pos := "ref.go:105", after := #[{ on := 23, ground := Ground.guard }], guard := some (23, false) }) (v := ?_) rfl (by kernel_rfl) (by kernel_rfl) (by kernel_rfl) (fun _ _ _ h => h) (Or.inl ⟨by rfl, ?_⟩) (by assumption) ?_
              rotate_left
              · intro w9 hSw; (try dsimp only at hSw); go_simp; try (with_reducible rfl)
              try simp only [Act.put, List.setIfInBounds_toArray, List.set_cons_zero, List.set_cons_succ]
              refine wpAnyH_ready (rs := [26]) (by kernel_rfl) (by simp) ?_
              refine AllReadyH.cons (o := { dst := some 51, op := Op.call { callee := Callee.value (Operand.func 97), args := #[Operand.tmp 49, Operand.tmp 50], argTypes := #[76, 76] }, type := 4, pos := "ref.go:105", after := #[{ on := 24, ground := Ground.data }, { on := 25, ground := Ground.data }, { on := 23, ground := Ground.chain }, { on := 23, ground := Ground.guard }], guard := some (23, false) }) rfl (fun K hK => ?_) AllReadyH.nil
              go_simp
              (go_at_call 97; refine (release_any a b _).mono ?_; rintro e w6 ⟨rfl, hb6⟩; have hc6 := fun (b o : Nat) (h : b < wr.heap.size + 1) => hb6.cell (p := ⟨b, o, none⟩) (by simpa using h); have hf6 := fun (b o : Nat) (h : b < wr.heap.size + 1) => hb6.frozen (p := ⟨b, o, none⟩) (by simpa using h); have HB6 := Lib.hid hb6; clear hb6)
              try go_wp2_with fail
              refine hK.out _ _ ?_ (fun hHeld28 => ?_)
              · (try dsimp only); go_keep
              clear hK K
              try simp only [Act.put, List.setIfInBounds_toArray, List.set_cons_zero, List.set_cons_succ]
              refine wpAnyH_take (i := 27) (oi := { dst := some 52, op := Op.pick (Operand.tmp 48) (Operand.const (Value.bool true)) (Operand.tmp 51), type := 4, pos := "ref.go:105", after := #[{ on := 23, ground := Ground.data }, { on := 26, ground := Ground.data }, { on := 8, ground := Ground.guard }], guard := some (8, true) }) (v := ?_) rfl (by kernel_rfl) (by kernel_rfl) (by kernel_rfl) (fun _ _ _ h => h) (Or.inl ⟨by rfl, ?_⟩) (by assumption) ?_
              rotate_left
              · intro w9 hSw; (try dsimp only at hSw); go_simp; try (with_reducible rfl)
              try simp only [Act.put, List.setIfInBounds_toArray, List.set_cons_zero, List.set_cons_succ]
              refine wpAnyH_take (i := 28) (oi := { dst := some 53, op := Op.pick (Operand.tmp 33) (Operand.tmp 52) (Operand.const (Value.bool false)), type := 4, pos := "ref.go:105", after := #[{ on := 8, ground := Ground.data }, { on := 27, ground := Ground.data }], guard := none }) (v := ?_) rfl (by kernel_rfl) (by kernel_rfl) (by kernel_rfl) (fun _ _ _ h => h) (Or.inl ⟨by rfl, ?_⟩) (by assumption) ?_
              rotate_left
              · intro w9 hSw; (try dsimp only at hSw); go_simp; try (with_reducible rfl)
              try simp only [Act.put, List.setIfInBounds_toArray, List.set_cons_zero, List.set_cons_succ]
              refine wpAnyH_take (i := 29) (oi := { dst := some 54, op := Op.indexAddr 90 (Operand.tmp 28) (Operand.tmp 29), type := 0, pos := "ref.go:105", after := #[{ on := 3, ground := Ground.data }, { on := 4, ground := Ground.data }, { on := 0, ground := Ground.phase }, { on := 1, ground := Ground.phase }, { on := 2, ground := Ground.phase }, { on := 3, ground := Ground.phase }, { on := 4, ground := Ground.phase }, { on := 5, ground := Ground.phase }, { on := 6, ground := Ground.phase }, { on := 7, ground := Ground.phase }, { on := 8, ground := Ground.phase }, { on := 9, ground := Ground.phase }, { on := 10, ground := Ground.phase }, { on := 11, ground := Ground.phase }, { on := 12, ground := Ground.phase }, { on := 13, ground := Ground.phase }, { on := 14, ground := Ground.phase }, { on := 15, ground := Ground.phase }, { on := 16, ground := Ground.phase }, { on := 17, ground := Ground.phase }, { on := 18, ground := Ground.phase }, { on := 19, ground := Ground.phase }, { on := 20, ground := Ground.phase }, { on := 21, ground := Ground.phase }, { on := 22, ground := Ground.phase }, { on := 23, ground := Ground.phase }, { on := 24, ground := Ground.phase }, { on := 25, ground := Ground.phase }, { on := 26, ground := Ground.phase }, { on := 27, ground := Ground.phase }, { on := 28, ground := Ground.phase }], guard := none }) (v := ?_) rfl (by kernel_rfl) (by kernel_rfl) (by kernel_rfl) (fun _ _ _ h => h) (Or.inl ⟨by rfl, ?_⟩) (by assumption) ?_
              rotate_left
              · intro w9 hSw; (try dsimp only at hSw); go_simp; try (with_reducible rfl)
              try simp only [Act.put, List.setIfInBounds_toArray, List.set_cons_zero, List.set_cons_succ]
              refine wpAnyH_ready (rs := [30]) (by kernel_rfl) (by simp) ?_
              refine AllReadyH.cons (o := { dst := none, op := Op.store 4 (Operand.tmp 54) (Operand.tmp 53), type := 0, pos := "ref.go:105", after := #[{ on := 29, ground := Ground.data }, { on := 28, ground := Ground.data }, { on := 26, ground := Ground.chain }, { on := 0, ground := Ground.phase }, { on := 1, ground := Ground.phase }, { on := 2, ground := Ground.phase }, { on := 3, ground := Ground.phase }, { on := 4, ground := Ground.phase }, { on := 5, ground := Ground.phase }, { on := 6, ground := Ground.phase }, { on := 7, ground := Ground.phase }, { on := 8, ground := Ground.phase }, { on := 9, ground := Ground.phase }, { on := 10, ground := Ground.phase }, { on := 11, ground := Ground.phase }, { on := 12, ground := Ground.phase }, { on := 13, ground := Ground.phase }, { on := 14, ground := Ground.phase }, { on := 15, ground := Ground.phase }, { on := 16, ground := Ground.phase }, { on := 17, ground := Ground.phase }, { on := 18, ground := Ground.phase }, { on := 19, ground := Ground.phase }, { on := 20, ground := Ground.phase }, { on := 21, ground := Ground.phase }, { on := 22, ground := Ground.phase }, { on := 23, ground := Ground.phase }, { on := 24, ground := Ground.phase }, { on := 25, ground := Ground.phase }, { on := 26, ground := Ground.phase }, { on := 27, ground := Ground.phase }, { on := 28, ground := Ground.phase }], guard := none }) rfl (fun K hK => ?_) AllReadyH.nil
              go_simp
              refine hK.out _ _ ?_ (fun hHeld32 => ?_)
              · (try dsimp only); go_keep
              clear hK K
              try simp only [Act.put, List.setIfInBounds_toArray, List.set_cons_zero, List.set_cons_succ]
              refine wpAnyH_done (by kernel_rfl) ?_ _
              go_wp2
              go_roundw
              case rel => exact ⟨k + 1, by go_num, by omega, by rw [HJ.out, HV.out]; exact fill_set (FillAt.below (HF2.out.alloc hwr _) (by simp; omega) ((below_drew (Below.refl _ _)).trans HB6.out)) HQ1.out HQ2.out k _, Blk.far (Blk.below (Blk.alloc HBX.out _) ((below_drew (Below.refl _ _)).trans HB6.out) (by simp; omega)) _ _ (by simpa using hn4)⟩
              case measure => simp [intOf]; omega
            · cases hL : decide (a.f1 < b.f1)
              · have HV := Lib.hid (show aheadE l i k = relB a b by rw [HE.out]; simp [poB, hT, hL])
                refine wp_region_held_drew (S := (fun w' => w'.cell? ⟨g, i, none⟩ = some (hdr l.length bi) ∧ w'.cell? ⟨wo.heap.size, 0, none⟩ = some (.int .i64 a.f0.f0) ∧ w'.cell? ⟨wo.heap.size, 1, none⟩ = some (.int .i64 a.f0.f1.f0) ∧ w'.cell? ⟨wo.heap.size, 2, none⟩ = some (.int .i64 a.f0.f1.f1) ∧ w'.cell? ⟨wo.heap.size, 3, none⟩ = some (.int .i64 a.f0.f1.f2) ∧ w'.cell? ⟨wo.heap.size, 4, none⟩ = some (.int .i64 a.f0.f1.f3) ∧ w'.cell? ⟨wo.heap.size, 5, none⟩ = some (.bool a.f0.f1.f4) ∧ w'.cell? ⟨wo.heap.size, 6, none⟩ = some (.bool a.f0.f1.f5) ∧ w'.cell? ⟨wo.heap.size, 7, none⟩ = some (.int .i64 a.f0.f2) ∧ w'.cell? ⟨wo.heap.size, 8, none⟩ = some (.int .i64 a.f0.f3) ∧ w'.cell? ⟨wo.heap.size, 9, none⟩ = some (.int .i64 a.f1) ∧ w'.cell? ⟨wr.heap.size, 0, none⟩ = some (.int .i64 b.f0.f0) ∧ w'.cell? ⟨wr.heap.size, 1, none⟩ = some (.int .i64 b.f0.f1.f0) ∧ w'.cell? ⟨wr.heap.size, 2, none⟩ = some (.int .i64 b.f0.f1.f1) ∧ w'.cell? ⟨wr.heap.size, 3, none⟩ = some (.int .i64 b.f0.f1.f2) ∧ w'.cell? ⟨wr.heap.size, 4, none⟩ = some (.int .i64 b.f0.f1.f3) ∧ w'.cell? ⟨wr.heap.size, 5, none⟩ = some (.bool b.f0.f1.f4) ∧ w'.cell? ⟨wr.heap.size, 6, none⟩ = some (.bool b.f0.f1.f5) ∧ w'.cell? ⟨wr.heap.size, 7, none⟩ = some (.int .i64 b.f0.f2) ∧ w'.cell? ⟨wr.heap.size, 8, none⟩ = some (.int .i64 b.f0.f3) ∧ w'.cell? ⟨wr.heap.size, 9, none⟩ = some (.int .i64 b.f1))) (by kernel_rfl) ?_ (fun hHeld => ?_)
                · (try dsimp only); go_keep
                refine wpAnyH_take (i := 0) (oi := { dst := some 25, op := Op.move (Operand.tmp 3), type := 80, pos := "ref.go:105", after := #[], guard := none }) (v := ?_) rfl (by kernel_rfl) (by kernel_rfl) (by kernel_rfl) (fun _ _ _ h => h) (Or.inl ⟨by rfl, ?_⟩) (by assumption) ?_
                rotate_left
                · intro w9 hSw; (try dsimp only at hSw); go_simp; try (with_reducible rfl)
                try simp only [Act.put, List.setIfInBounds_toArray, List.set_cons_zero, List.set_cons_succ]
                refine wpAnyH_take (i := 1) (oi := { dst := some 26, op := Op.move (Operand.tmp 4), type := 3, pos := "ref.go:105", after := #[], guard := none }) (v := ?_) rfl (by kernel_rfl) (by kernel_rfl) (by kernel_rfl) (fun _ _ _ h => h) (Or.inl ⟨by rfl, ?_⟩) (by assumption) ?_
                rotate_left
                · intro w9 hSw; (try dsimp only at hSw); go_simp; try (with_reducible rfl)
                try simp only [Act.put, List.setIfInBounds_toArray, List.set_cons_zero, List.set_cons_succ]
                refine wpAnyH_take (i := 2) (oi := { dst := some 27, op := Op.indexAddr 80 (Operand.tmp 25) (Operand.tmp 26), type := 0, pos := "ref.go:105", after := #[{ on := 0, ground := Ground.data }, { on := 1, ground := Ground.data }], guard := none }) (v := ?_) rfl (by kernel_rfl) (by kernel_rfl) (by kernel_rfl) (fun _ _ _ h => h) (Or.inl ⟨by rfl, ?_⟩) (by assumption) ?_
                rotate_left
                · intro w9 hSw; (try dsimp only at hSw); go_simp; try (with_reducible rfl)
                try simp only [Act.put, List.setIfInBounds_toArray, List.set_cons_zero, List.set_cons_succ]
                refine wpAnyH_take (i := 3) (oi := { dst := some 28, op := Op.load 90 (Operand.tmp 27), type := 90, pos := "ref.go:105", after := #[{ on := 2, ground := Ground.data }], guard := none }) (v := ?_) rfl (by kernel_rfl) (by kernel_rfl) (by kernel_rfl) (fun _ _ _ h => h) (Or.inl ⟨by rfl, ?_⟩) (by assumption) ?_
                rotate_left
                · intro w9 hSw; (try dsimp only at hSw); go_simp; try (with_reducible rfl)
                try simp only [Act.put, List.setIfInBounds_toArray, List.set_cons_zero, List.set_cons_succ]
                refine wpAnyH_take (i := 4) (oi := { dst := some 29, op := Op.move (Operand.tmp 6), type := 3, pos := "ref.go:105", after := #[], guard := none }) (v := ?_) rfl (by kernel_rfl) (by kernel_rfl) (by kernel_rfl) (fun _ _ _ h => h) (Or.inl ⟨by rfl, ?_⟩) (by assumption) ?_
                rotate_left
                · intro w9 hSw; (try dsimp only at hSw); go_simp; try (with_reducible rfl)
                try simp only [Act.put, List.setIfInBounds_toArray, List.set_cons_zero, List.set_cons_succ]
                refine wpAnyH_take (i := 5) (oi := { dst := some 30, op := Op.move (Operand.tmp 4), type := 3, pos := "ref.go:105", after := #[], guard := none }) (v := ?_) rfl (by kernel_rfl) (by kernel_rfl) (by kernel_rfl) (fun _ _ _ h => h) (Or.inl ⟨by rfl, ?_⟩) (by assumption) ?_
                rotate_left
                · intro w9 hSw; (try dsimp only at hSw); go_simp; try (with_reducible rfl)
                try simp only [Act.put, List.setIfInBounds_toArray, List.set_cons_zero, List.set_cons_succ]
                refine wpAnyH_take (i := 6) (oi := { dst := some 31, op := Op.move (Operand.tmp 6), type := 3, pos := "ref.go:105", after := #[], guard := none }) (v := ?_) rfl (by kernel_rfl) (by kernel_rfl) (by kernel_rfl) (fun _ _ _ h => h) (Or.inl ⟨by rfl, ?_⟩) (by assumption) ?_
                rotate_left
                · intro w9 hSw; (try dsimp only at hSw); go_simp; try (with_reducible rfl)
                try simp only [Act.put, List.setIfInBounds_toArray, List.set_cons_zero, List.set_cons_succ]
                refine wpAnyH_take (i := 7) (oi := { dst := some 32, op := Op.binOp BinOp.neq 3 (Operand.tmp 30) (Operand.tmp 31) 3, type := 4, pos := "ref.go:105", after := #[{ on := 5, ground := Ground.data }, { on := 6, ground := Ground.data }], guard := none }) (v := ?_) rfl (by kernel_rfl) (by kernel_rfl) (by kernel_rfl) (fun _ _ _ h => h) (Or.inl ⟨by rfl, ?_⟩) (by assumption) ?_
                rotate_left
                · intro w9 hSw; (try dsimp only at hSw); go_simp; try (with_reducible rfl)
                try simp only [Act.put, List.setIfInBounds_toArray, List.set_cons_zero, List.set_cons_succ]
                refine wpAnyH_take (i := 8) (oi := { dst := some 33, op := Op.move (Operand.tmp 32), type := 4, pos := "ref.go:105", after := #[{ on := 7, ground := Ground.data }], guard := none }) (v := ?_) rfl (by kernel_rfl) (by kernel_rfl) (by kernel_rfl) (fun _ _ _ h => h) (Or.inl ⟨by rfl, ?_⟩) (by assumption) ?_
                rotate_left
                · intro w9 hSw; (try dsimp only at hSw); go_simp; try (with_reducible rfl)
                try simp only [Act.put, List.setIfInBounds_toArray, List.set_cons_zero, List.set_cons_succ]
                refine wpAnyH_take (i := 9) (oi := { dst := some 34, op := Op.fieldAddr 76 (Operand.tmp 5) 0, type := 0, pos := "ref.go:105", after := #[{ on := 8, ground := Ground.guard }], guard := some (8, true) }) (v := ?_) rfl (by kernel_rfl) (by kernel_rfl) (by kernel_rfl) (fun _ _ _ h => h) (Or.inl ⟨by rfl, ?_⟩) (by assumption) ?_
                rotate_left
                · intro w9 hSw; (try dsimp only at hSw); go_simp; try (with_reducible rfl)
                try simp only [Act.put, List.setIfInBounds_toArray, List.set_cons_zero, List.set_cons_succ]
                refine wpAnyH_take (i := 10) (oi := { dst := some 35, op := Op.fieldAddr 68 (Operand.tmp 34) 0, type := 0, pos := "ref.go:105", after := #[{ on := 9, ground := Ground.data }, { on := 8, ground := Ground.guard }], guard := some (8, true) }) (v := ?_) rfl (by kernel_rfl) (by kernel_rfl) (by kernel_rfl) (fun _ _ _ h => h) (Or.inl ⟨by rfl, ?_⟩) (by assumption) ?_
                rotate_left
                · intro w9 hSw; (try dsimp only at hSw); go_simp; try (with_reducible rfl)
                try simp only [Act.put, List.setIfInBounds_toArray, List.set_cons_zero, List.set_cons_succ]
                refine wpAnyH_take (i := 11) (oi := { dst := some 36, op := Op.load 3 (Operand.tmp 35), type := 3, pos := "ref.go:105", after := #[{ on := 10, ground := Ground.data }, { on := 8, ground := Ground.guard }], guard := some (8, true) }) (v := ?_) rfl (by kernel_rfl) (by kernel_rfl) (by kernel_rfl) (fun _ _ _ h => h) (Or.inl ⟨by rfl, ?_⟩) (by assumption) ?_
                rotate_left
                · intro w9 hSw; (try dsimp only at hSw); go_simp; try (with_reducible rfl)
                try simp only [Act.put, List.setIfInBounds_toArray, List.set_cons_zero, List.set_cons_succ]
                refine wpAnyH_take (i := 12) (oi := { dst := some 37, op := Op.fieldAddr 76 (Operand.tmp 7) 0, type := 0, pos := "ref.go:105", after := #[{ on := 8, ground := Ground.guard }], guard := some (8, true) }) (v := ?_) rfl (by kernel_rfl) (by kernel_rfl) (by kernel_rfl) (fun _ _ _ h => h) (Or.inl ⟨by rfl, ?_⟩) (by assumption) ?_
                rotate_left
                · intro w9 hSw; (try dsimp only at hSw); go_simp; try (with_reducible rfl)
                try simp only [Act.put, List.setIfInBounds_toArray, List.set_cons_zero, List.set_cons_succ]
                refine wpAnyH_take (i := 13) (oi := { dst := some 38, op := Op.fieldAddr 68 (Operand.tmp 37) 0, type := 0, pos := "ref.go:105", after := #[{ on := 12, ground := Ground.data }, { on := 8, ground := Ground.guard }], guard := some (8, true) }) (v := ?_) rfl (by kernel_rfl) (by kernel_rfl) (by kernel_rfl) (fun _ _ _ h => h) (Or.inl ⟨by rfl, ?_⟩) (by assumption) ?_
                rotate_left
                · intro w9 hSw; (try dsimp only at hSw); go_simp; try (with_reducible rfl)
                try simp only [Act.put, List.setIfInBounds_toArray, List.set_cons_zero, List.set_cons_succ]
                refine wpAnyH_take (i := 14) (oi := { dst := some 39, op := Op.load 3 (Operand.tmp 38), type := 3, pos := "ref.go:105", after := #[{ on := 13, ground := Ground.data }, { on := 8, ground := Ground.guard }], guard := some (8, true) }) (v := ?_) rfl (by kernel_rfl) (by kernel_rfl) (by kernel_rfl) (fun _ _ _ h => h) (Or.inl ⟨by rfl, ?_⟩) (by assumption) ?_
                rotate_left
                · intro w9 hSw; (try dsimp only at hSw); go_simp; try (with_reducible rfl)
                try simp only [Act.put, List.setIfInBounds_toArray, List.set_cons_zero, List.set_cons_succ]
                refine wpAnyH_take (i := 15) (oi := { dst := some 40, op := Op.binOp BinOp.eql 3 (Operand.tmp 36) (Operand.tmp 39) 3, type := 4, pos := "ref.go:105", after := #[{ on := 11, ground := Ground.data }, { on := 14, ground := Ground.data }, { on := 8, ground := Ground.guard }], guard := some (8, true) }) (v := ?_) rfl (by kernel_rfl) (by kernel_rfl) (by kernel_rfl) (fun _ _ _ h => h) (Or.inl ⟨by rfl, ?_⟩) (by assumption) ?_
                rotate_left
                · intro w9 hSw; (try dsimp only at hSw); go_simp; try (with_reducible rfl)
                try simp only [Act.put, List.setIfInBounds_toArray, List.set_cons_zero, List.set_cons_succ]
                refine wpAnyH_take (i := 16) (oi := { dst := some 41, op := Op.move (Operand.tmp 40), type := 4, pos := "ref.go:105", after := #[{ on := 15, ground := Ground.data }, { on := 8, ground := Ground.chain }, { on := 8, ground := Ground.guard }], guard := some (8, true) }) (v := ?_) rfl (by kernel_rfl) (by kernel_rfl) (by kernel_rfl) (fun _ _ _ h => h) (Or.inl ⟨by rfl, ?_⟩) (by assumption) ?_
                rotate_left
                · intro w9 hSw; (try dsimp only at hSw); go_simp; try (with_reducible rfl)
                try simp only [Act.put, List.setIfInBounds_toArray, List.set_cons_zero, List.set_cons_succ]
                refine wpAnyH_take (i := 17) (oi := { dst := some 42, op := Op.fieldAddr 76 (Operand.tmp 5) 1, type := 0, pos := "ref.go:105", after := #[{ on := 16, ground := Ground.guard }], guard := some (16, true) }) (v := ?_) rfl (by kernel_rfl) (by kernel_rfl) (by kernel_rfl) (fun _ _ _ h => h) (Or.inl ⟨by rfl, ?_⟩) (by assumption) ?_
                rotate_left
                · intro w9 hSw; (try dsimp only at hSw); go_simp; try (with_reducible rfl)
                try simp only [Act.put, List.setIfInBounds_toArray, List.set_cons_zero, List.set_cons_succ]
                refine wpAnyH_take (i := 18) (oi := { dst := some 43, op := Op.load 3 (Operand.tmp 42), type := 3, pos := "ref.go:105", after := #[{ on := 17, ground := Ground.data }, { on := 16, ground := Ground.guard }], guard := some (16, true) }) (v := ?_) rfl (by kernel_rfl) (by kernel_rfl) (by kernel_rfl) (fun _ _ _ h => h) (Or.inl ⟨by rfl, ?_⟩) (by assumption) ?_
                rotate_left
                · intro w9 hSw; (try dsimp only at hSw); go_simp; try (with_reducible rfl)
                try simp only [Act.put, List.setIfInBounds_toArray, List.set_cons_zero, List.set_cons_succ]
                refine wpAnyH_take (i := 19) (oi := { dst := some 44, op := Op.fieldAddr 76 (Operand.tmp 7) 1, type := 0, pos := "ref.go:105", after := #[{ on := 16, ground := Ground.guard }], guard := some (16, true) }) (v := ?_) rfl (by kernel_rfl) (by kernel_rfl) (by kernel_rfl) (fun _ _ _ h => h) (Or.inl ⟨by rfl, ?_⟩) (by assumption) ?_
                rotate_left
                · intro w9 hSw; (try dsimp only at hSw); go_simp; try (with_reducible rfl)
                try simp only [Act.put, List.setIfInBounds_toArray, List.set_cons_zero, List.set_cons_succ]
                refine wpAnyH_take (i := 20) (oi := { dst := some 45, op := Op.load 3 (Operand.tmp 44), type := 3, pos := "ref.go:105", after := #[{ on := 19, ground := Ground.data }, { on := 16, ground := Ground.guard }], guard := some (16, true) }) (v := ?_) rfl (by kernel_rfl) (by kernel_rfl) (by kernel_rfl) (fun _ _ _ h => h) (Or.inl ⟨by rfl, ?_⟩) (by assumption) ?_
                rotate_left
                · intro w9 hSw; (try dsimp only at hSw); go_simp; try (with_reducible rfl)
                try simp only [Act.put, List.setIfInBounds_toArray, List.set_cons_zero, List.set_cons_succ]
                refine wpAnyH_take (i := 21) (oi := { dst := some 46, op := Op.binOp BinOp.lss 3 (Operand.tmp 43) (Operand.tmp 45) 3, type := 4, pos := "ref.go:105", after := #[{ on := 18, ground := Ground.data }, { on := 20, ground := Ground.data }, { on := 16, ground := Ground.guard }], guard := some (16, true) }) (v := ?_) rfl (by kernel_rfl) (by kernel_rfl) (by kernel_rfl) (fun _ _ _ h => h) (Or.inl ⟨by rfl, ?_⟩) (by assumption) ?_
                rotate_left
                · intro w9 hSw; (try dsimp only at hSw); go_simp; try (with_reducible rfl)
                try simp only [Act.put, List.setIfInBounds_toArray, List.set_cons_zero, List.set_cons_succ]
                refine wpAnyH_take (i := 22) (oi := { dst := some 47, op := Op.pick (Operand.tmp 41) (Operand.tmp 46) (Operand.const (Value.bool false)), type := 4, pos := "ref.go:105", after := #[{ on := 16, ground := Ground.data }, { on := 21, ground := Ground.data }, { on := 8, ground := Ground.guard }], guard := some (8, true) }) (v := ?_) rfl (by kernel_rfl) (by kernel_rfl) (by kernel_rfl) (fun _ _ _ h => h) (Or.inl ⟨by rfl, ?_⟩) (by assumption) ?_
                rotate_left
                · intro w9 hSw; (try dsimp only at hSw); go_simp; try (with_reducible rfl)
                try simp only [Act.put, List.setIfInBounds_toArray, List.set_cons_zero, List.set_cons_succ]
                refine wpAnyH_take (i := 23) (oi := { dst := some 48, op := Op.move (Operand.tmp 47), type := 4, pos := "ref.go:105", after := #[{ on := 22, ground := Ground.data }, { on := 16, ground := Ground.chain }, { on := 8, ground := Ground.guard }], guard := some (8, true) }) (v := ?_) rfl (by kernel_rfl) (by kernel_rfl) (by kernel_rfl) (fun _ _ _ h => h) (Or.inl ⟨by rfl, ?_⟩) (by assumption) ?_
                rotate_left
                · intro w9 hSw; (try dsimp only at hSw); go_simp; try (with_reducible rfl)
                try simp only [Act.put, List.setIfInBounds_toArray, List.set_cons_zero, List.set_cons_succ]
                refine wpAnyH_take (i := 24) (oi := { dst := some 49, op := Op.load 76 (Operand.tmp 5), type := 76, pos := "ref.go:105", after := #[{ on := 23, ground := Ground.guard }], guard := some (23, false) }) (v := ?_) rfl (by kernel_rfl) (by kernel_rfl) (by kernel_rfl) (fun _ _ _ h => h) (Or.inl ⟨by rfl, ?_⟩) (by assumption) ?_
                rotate_left
                · intro w9 hSw; (try dsimp only at hSw); go_simp; try (with_reducible rfl)
                try simp only [Act.put, List.setIfInBounds_toArray, List.set_cons_zero, List.set_cons_succ]
                refine wpAnyH_take (i := 25) (oi := { dst := some 50, op := Op.load 76 (Operand.tmp 7), type := 76, pos := "ref.go:105", after := #[{ on := 23, ground := Ground.guard }], guard := some (23, false) }) (v := ?_) rfl (by kernel_rfl) (by kernel_rfl) (by kernel_rfl) (fun _ _ _ h => h) (Or.inl ⟨by rfl, ?_⟩) (by assumption) ?_
                rotate_left
                · intro w9 hSw; (try dsimp only at hSw); go_simp; try (with_reducible rfl)
                try simp only [Act.put, List.setIfInBounds_toArray, List.set_cons_zero, List.set_cons_succ]
                refine wpAnyH_ready (rs := [26]) (by kernel_rfl) (by simp) ?_
                refine AllReadyH.cons (o := { dst := some 51, op := Op.call { callee := Callee.value (Operand.func 97), args := #[Operand.tmp 49, Operand.tmp 50], argTypes := #[76, 76] }, type := 4, pos := "ref.go:105", after := #[{ on := 24, ground := Ground.data }, { on := 25, ground := Ground.data }, { on := 23, ground := Ground.chain }, { on := 23, ground := Ground.guard }], guard := some (23, false) }) rfl (fun K hK => ?_) AllReadyH.nil
                go_simp
                (go_at_call 97; refine (release_any a b _).mono ?_; rintro e w6 ⟨rfl, hb6⟩; have hc6 := fun (b o : Nat) (h : b < wr.heap.size + 1) => hb6.cell (p := ⟨b, o, none⟩) (by simpa using h); have hf6 := fun (b o : Nat) (h : b < wr.heap.size + 1) => hb6.frozen (p := ⟨b, o, none⟩) (by simpa using h); have HB6 := Lib.hid hb6; clear hb6)
                try go_wp2_with fail
                refine hK.out _ _ ?_ (fun hHeld28 => ?_)
                · (try dsimp only); go_keep
                clear hK K
                try simp only [Act.put, List.setIfInBounds_toArray, List.set_cons_zero, List.set_cons_succ]
                refine wpAnyH_take (i := 27) (oi := { dst := some 52, op := Op.pick (Operand.tmp 48) (Operand.const (Value.bool true)) (Operand.tmp 51), type := 4, pos := "ref.go:105", after := #[{ on := 23, ground := Ground.data }, { on := 26, ground := Ground.data }, { on := 8, ground := Ground.guard }], guard := some (8, true) }) (v := ?_) rfl (by kernel_rfl) (by kernel_rfl) (by kernel_rfl) (fun _ _ _ h => h) (Or.inl ⟨by rfl, ?_⟩) (by assumption) ?_
                rotate_left
                · intro w9 hSw; (try dsimp only at hSw); go_simp; try (with_reducible rfl)
                try simp only [Act.put, List.setIfInBounds_toArray, List.set_cons_zero, List.set_cons_succ]
                refine wpAnyH_take (i := 28) (oi := { dst := some 53, op := Op.pick (Operand.tmp 33) (Operand.tmp 52) (Operand.const (Value.bool false)), type := 4, pos := "ref.go:105", after := #[{ on := 8, ground := Ground.data }, { on := 27, ground := Ground.data }], guard := none }) (v := ?_) rfl (by kernel_rfl) (by kernel_rfl) (by kernel_rfl) (fun _ _ _ h => h) (Or.inl ⟨by rfl, ?_⟩) (by assumption) ?_
                rotate_left
                · intro w9 hSw; (try dsimp only at hSw); go_simp; try (with_reducible rfl)
                try simp only [Act.put, List.setIfInBounds_toArray, List.set_cons_zero, List.set_cons_succ]
                refine wpAnyH_take (i := 29) (oi := { dst := some 54, op := Op.indexAddr 90 (Operand.tmp 28) (Operand.tmp 29), type := 0, pos := "ref.go:105", after := #[{ on := 3, ground := Ground.data }, { on := 4, ground := Ground.data }, { on := 0, ground := Ground.phase }, { on := 1, ground := Ground.phase }, { on := 2, ground := Ground.phase }, { on := 3, ground := Ground.phase }, { on := 4, ground := Ground.phase }, { on := 5, ground := Ground.phase }, { on := 6, ground := Ground.phase }, { on := 7, ground := Ground.phase }, { on := 8, ground := Ground.phase }, { on := 9, ground := Ground.phase }, { on := 10, ground := Ground.phase }, { on := 11, ground := Ground.phase }, { on := 12, ground := Ground.phase }, { on := 13, ground := Ground.phase }, { on := 14, ground := Ground.phase }, { on := 15, ground := Ground.phase }, { on := 16, ground := Ground.phase }, { on := 17, ground := Ground.phase }, { on := 18, ground := Ground.phase }, { on := 19, ground := Ground.phase }, { on := 20, ground := Ground.phase }, { on := 21, ground := Ground.phase }, { on := 22, ground := Ground.phase }, { on := 23, ground := Ground.phase }, { on := 24, ground := Ground.phase }, { on := 25, ground := Ground.phase }, { on := 26, ground := Ground.phase }, { on := 27, ground := Ground.phase }, { on := 28, ground := Ground.phase }], guard := none }) (v := ?_) rfl (by kernel_rfl) (by kernel_rfl) (by kernel_rfl) (fun _ _ _ h => h) (Or.inl ⟨by rfl, ?_⟩) (by assumption) ?_
                rotate_left
                · intro w9 hSw; (try dsimp only at hSw); go_simp; try (with_reducible rfl)
                try simp only [Act.put, List.setIfInBounds_toArray, List.set_cons_zero, List.set_cons_succ]
                refine wpAnyH_ready (rs := [30]) (by kernel_rfl) (by simp) ?_
                refine AllReadyH.cons (o := { dst := none, op := Op.store 4 (Operand.tmp 54) (Operand.tmp 53), type := 0, pos := "ref.go:105", after := #[{ on := 29, ground := Ground.data }, { on := 28, ground := Ground.data }, { on := 26, ground := Ground.chain }, { on := 0, ground := Ground.phase }, { on := 1, ground := Ground.phase }, { on := 2, ground := Ground.phase }, { on := 3, ground := Ground.phase }, { on := 4, ground := Ground.phase }, { on := 5, ground := Ground.phase }, { on := 6, ground := Ground.phase }, { on := 7, ground := Ground.phase }, { on := 8, ground := Ground.phase }, { on := 9, ground := Ground.phase }, { on := 10, ground := Ground.phase }, { on := 11, ground := Ground.phase }, { on := 12, ground := Ground.phase }, { on := 13, ground := Ground.phase }, { on := 14, ground := Ground.phase }, { on := 15, ground := Ground.phase }, { on := 16, ground := Ground.phase }, { on := 17, ground := Ground.phase }, { on := 18, ground := Ground.phase }, { on := 19, ground := Ground.phase }, { on := 20, ground := Ground.phase }, { on := 21, ground := Ground.phase }, { on := 22, ground := Ground.phase }, { on := 23, ground := Ground.phase }, { on := 24, ground := Ground.phase }, { on := 25, ground := Ground.phase }, { on := 26, ground := Ground.phase }, { on := 27, ground := Ground.phase }, { on := 28, ground := Ground.phase }], guard := none }) rfl (fun K hK => ?_) AllReadyH.nil
                go_simp
                refine hK.out _ _ ?_ (fun hHeld32 => ?_)
                · (try dsimp only); go_keep
                clear hK K
                try simp only [Act.put, List.setIfInBounds_toArray, List.set_cons_zero, List.set_cons_succ]
                refine wpAnyH_done (by kernel_rfl) ?_ _
                go_wp2
                go_roundw
                case rel => exact ⟨k + 1, by go_num, by omega, by rw [HJ.out, HV.out]; exact fill_set (FillAt.below (HF2.out.alloc hwr _) (by simp; omega) ((below_drew (Below.refl _ _)).trans HB6.out)) HQ1.out HQ2.out k _, Blk.far (Blk.below (Blk.alloc HBX.out _) ((below_drew (Below.refl _ _)).trans HB6.out) (by simp; omega)) _ _ (by simpa using hn4)⟩
                case measure => simp [intOf]; omega
              · have HV := Lib.hid (show aheadE l i k = true by rw [HE.out]; simp [poB, hT, hL])
                obtain ⟨n0, n1, n2, n3, n4, n5, n6, n7, n8, n9⟩ := bx_cells (bx_new wr ⟨bi, k, none⟩ (.bool true) b)
                simp only [c76] at n0 n1 n2 n3 n4 n5 n6 n7 n8 n9
                refine wp_region_held_drew (S := (fun w' => w'.cell? ⟨g, i, none⟩ = some (hdr l.length bi) ∧ w'.cell? ⟨wo.heap.size, 0, none⟩ = some (.int .i64 a.f0.f0) ∧ w'.cell? ⟨wo.heap.size, 1, none⟩ = some (.int .i64 a.f0.f1.f0) ∧ w'.cell? ⟨wo.heap.size, 2, none⟩ = some (.int .i64 a.f0.f1.f1) ∧ w'.cell? ⟨wo.heap.size, 3, none⟩ = some (.int .i64 a.f0.f1.f2) ∧ w'.cell? ⟨wo.heap.size, 4, none⟩ = some (.int .i64 a.f0.f1.f3) ∧ w'.cell? ⟨wo.heap.size, 5, none⟩ = some (.bool a.f0.f1.f4) ∧ w'.cell? ⟨wo.heap.size, 6, none⟩ = some (.bool a.f0.f1.f5) ∧ w'.cell? ⟨wo.heap.size, 7, none⟩ = some (.int .i64 a.f0.f2) ∧ w'.cell? ⟨wo.heap.size, 8, none⟩ = some (.int .i64 a.f0.f3) ∧ w'.cell? ⟨wo.heap.size, 9, none⟩ = some (.int .i64 a.f1) ∧ w'.cell? ⟨wr.heap.size, 0, none⟩ = some (.int .i64 b.f0.f0) ∧ w'.cell? ⟨wr.heap.size, 1, none⟩ = some (.int .i64 b.f0.f1.f0) ∧ w'.cell? ⟨wr.heap.size, 2, none⟩ = some (.int .i64 b.f0.f1.f1) ∧ w'.cell? ⟨wr.heap.size, 3, none⟩ = some (.int .i64 b.f0.f1.f2) ∧ w'.cell? ⟨wr.heap.size, 4, none⟩ = some (.int .i64 b.f0.f1.f3) ∧ w'.cell? ⟨wr.heap.size, 5, none⟩ = some (.bool b.f0.f1.f4) ∧ w'.cell? ⟨wr.heap.size, 6, none⟩ = some (.bool b.f0.f1.f5) ∧ w'.cell? ⟨wr.heap.size, 7, none⟩ = some (.int .i64 b.f0.f2) ∧ w'.cell? ⟨wr.heap.size, 8, none⟩ = some (.int .i64 b.f0.f3) ∧ w'.cell? ⟨wr.heap.size, 9, none⟩ = some (.int .i64 b.f1))) (by kernel_rfl) ?_ (fun hHeld => ?_)
                · (try dsimp only); go_keep
                refine wpAnyH_take (i := 0) (oi := { dst := some 25, op := Op.move (Operand.tmp 3), type := 80, pos := "ref.go:105", after := #[], guard := none }) (v := ?_) rfl (by kernel_rfl) (by kernel_rfl) (by kernel_rfl) (fun _ _ _ h => h) (Or.inl ⟨by rfl, ?_⟩) (by assumption) ?_
                rotate_left
                · intro w9 hSw; (try dsimp only at hSw); go_simp; try (with_reducible rfl)
                try simp only [Act.put, List.setIfInBounds_toArray, List.set_cons_zero, List.set_cons_succ]
                refine wpAnyH_take (i := 1) (oi := { dst := some 26, op := Op.move (Operand.tmp 4), type := 3, pos := "ref.go:105", after := #[], guard := none }) (v := ?_) rfl (by kernel_rfl) (by kernel_rfl) (by kernel_rfl) (fun _ _ _ h => h) (Or.inl ⟨by rfl, ?_⟩) (by assumption) ?_
                rotate_left
                · intro w9 hSw; (try dsimp only at hSw); go_simp; try (with_reducible rfl)
                try simp only [Act.put, List.setIfInBounds_toArray, List.set_cons_zero, List.set_cons_succ]
                refine wpAnyH_take (i := 2) (oi := { dst := some 27, op := Op.indexAddr 80 (Operand.tmp 25) (Operand.tmp 26), type := 0, pos := "ref.go:105", after := #[{ on := 0, ground := Ground.data }, { on := 1, ground := Ground.data }], guard := none }) (v := ?_) rfl (by kernel_rfl) (by kernel_rfl) (by kernel_rfl) (fun _ _ _ h => h) (Or.inl ⟨by rfl, ?_⟩) (by assumption) ?_
                rotate_left
                · intro w9 hSw; (try dsimp only at hSw); go_simp; try (with_reducible rfl)
                try simp only [Act.put, List.setIfInBounds_toArray, List.set_cons_zero, List.set_cons_succ]
                refine wpAnyH_take (i := 3) (oi := { dst := some 28, op := Op.load 90 (Operand.tmp 27), type := 90, pos := "ref.go:105", after := #[{ on := 2, ground := Ground.data }], guard := none }) (v := ?_) rfl (by kernel_rfl) (by kernel_rfl) (by kernel_rfl) (fun _ _ _ h => h) (Or.inl ⟨by rfl, ?_⟩) (by assumption) ?_
                rotate_left
                · intro w9 hSw; (try dsimp only at hSw); go_simp; try (with_reducible rfl)
                try simp only [Act.put, List.setIfInBounds_toArray, List.set_cons_zero, List.set_cons_succ]
                refine wpAnyH_take (i := 4) (oi := { dst := some 29, op := Op.move (Operand.tmp 6), type := 3, pos := "ref.go:105", after := #[], guard := none }) (v := ?_) rfl (by kernel_rfl) (by kernel_rfl) (by kernel_rfl) (fun _ _ _ h => h) (Or.inl ⟨by rfl, ?_⟩) (by assumption) ?_
                rotate_left
                · intro w9 hSw; (try dsimp only at hSw); go_simp; try (with_reducible rfl)
                try simp only [Act.put, List.setIfInBounds_toArray, List.set_cons_zero, List.set_cons_succ]
                refine wpAnyH_take (i := 5) (oi := { dst := some 30, op := Op.move (Operand.tmp 4), type := 3, pos := "ref.go:105", after := #[], guard := none }) (v := ?_) rfl (by kernel_rfl) (by kernel_rfl) (by kernel_rfl) (fun _ _ _ h => h) (Or.inl ⟨by rfl, ?_⟩) (by assumption) ?_
                rotate_left
                · intro w9 hSw; (try dsimp only at hSw); go_simp; try (with_reducible rfl)
                try simp only [Act.put, List.setIfInBounds_toArray, List.set_cons_zero, List.set_cons_succ]
                refine wpAnyH_take (i := 6) (oi := { dst := some 31, op := Op.move (Operand.tmp 6), type := 3, pos := "ref.go:105", after := #[], guard := none }) (v := ?_) rfl (by kernel_rfl) (by kernel_rfl) (by kernel_rfl) (fun _ _ _ h => h) (Or.inl ⟨by rfl, ?_⟩) (by assumption) ?_
                rotate_left
                · intro w9 hSw; (try dsimp only at hSw); go_simp; try (with_reducible rfl)
                try simp only [Act.put, List.setIfInBounds_toArray, List.set_cons_zero, List.set_cons_succ]
                refine wpAnyH_take (i := 7) (oi := { dst := some 32, op := Op.binOp BinOp.neq 3 (Operand.tmp 30) (Operand.tmp 31) 3, type := 4, pos := "ref.go:105", after := #[{ on := 5, ground := Ground.data }, { on := 6, ground := Ground.data }], guard := none }) (v := ?_) rfl (by kernel_rfl) (by kernel_rfl) (by kernel_rfl) (fun _ _ _ h => h) (Or.inl ⟨by rfl, ?_⟩) (by assumption) ?_
                rotate_left
                · intro w9 hSw; (try dsimp only at hSw); go_simp; try (with_reducible rfl)
                try simp only [Act.put, List.setIfInBounds_toArray, List.set_cons_zero, List.set_cons_succ]
                refine wpAnyH_take (i := 8) (oi := { dst := some 33, op := Op.move (Operand.tmp 32), type := 4, pos := "ref.go:105", after := #[{ on := 7, ground := Ground.data }], guard := none }) (v := ?_) rfl (by kernel_rfl) (by kernel_rfl) (by kernel_rfl) (fun _ _ _ h => h) (Or.inl ⟨by rfl, ?_⟩) (by assumption) ?_
                rotate_left
                · intro w9 hSw; (try dsimp only at hSw); go_simp; try (with_reducible rfl)
                try simp only [Act.put, List.setIfInBounds_toArray, List.set_cons_zero, List.set_cons_succ]
                refine wpAnyH_take (i := 9) (oi := { dst := some 34, op := Op.fieldAddr 76 (Operand.tmp 5) 0, type := 0, pos := "ref.go:105", after := #[{ on := 8, ground := Ground.guard }], guard := some (8, true) }) (v := ?_) rfl (by kernel_rfl) (by kernel_rfl) (by kernel_rfl) (fun _ _ _ h => h) (Or.inl ⟨by rfl, ?_⟩) (by assumption) ?_
                rotate_left
                · intro w9 hSw; (try dsimp only at hSw); go_simp; try (with_reducible rfl)
                try simp only [Act.put, List.setIfInBounds_toArray, List.set_cons_zero, List.set_cons_succ]
                refine wpAnyH_take (i := 10) (oi := { dst := some 35, op := Op.fieldAddr 68 (Operand.tmp 34) 0, type := 0, pos := "ref.go:105", after := #[{ on := 9, ground := Ground.data }, { on := 8, ground := Ground.guard }], guard := some (8, true) }) (v := ?_) rfl (by kernel_rfl) (by kernel_rfl) (by kernel_rfl) (fun _ _ _ h => h) (Or.inl ⟨by rfl, ?_⟩) (by assumption) ?_
                rotate_left
                · intro w9 hSw; (try dsimp only at hSw); go_simp; try (with_reducible rfl)
                try simp only [Act.put, List.setIfInBounds_toArray, List.set_cons_zero, List.set_cons_succ]
                refine wpAnyH_take (i := 11) (oi := { dst := some 36, op := Op.load 3 (Operand.tmp 35), type := 3, pos := "ref.go:105", after := #[{ on := 10, ground := Ground.data }, { on := 8, ground := Ground.guard }], guard := some (8, true) }) (v := ?_) rfl (by kernel_rfl) (by kernel_rfl) (by kernel_rfl) (fun _ _ _ h => h) (Or.inl ⟨by rfl, ?_⟩) (by assumption) ?_
                rotate_left
                · intro w9 hSw; (try dsimp only at hSw); go_simp; try (with_reducible rfl)
                try simp only [Act.put, List.setIfInBounds_toArray, List.set_cons_zero, List.set_cons_succ]
                refine wpAnyH_take (i := 12) (oi := { dst := some 37, op := Op.fieldAddr 76 (Operand.tmp 7) 0, type := 0, pos := "ref.go:105", after := #[{ on := 8, ground := Ground.guard }], guard := some (8, true) }) (v := ?_) rfl (by kernel_rfl) (by kernel_rfl) (by kernel_rfl) (fun _ _ _ h => h) (Or.inl ⟨by rfl, ?_⟩) (by assumption) ?_
                rotate_left
                · intro w9 hSw; (try dsimp only at hSw); go_simp; try (with_reducible rfl)
                try simp only [Act.put, List.setIfInBounds_toArray, List.set_cons_zero, List.set_cons_succ]
                refine wpAnyH_take (i := 13) (oi := { dst := some 38, op := Op.fieldAddr 68 (Operand.tmp 37) 0, type := 0, pos := "ref.go:105", after := #[{ on := 12, ground := Ground.data }, { on := 8, ground := Ground.guard }], guard := some (8, true) }) (v := ?_) rfl (by kernel_rfl) (by kernel_rfl) (by kernel_rfl) (fun _ _ _ h => h) (Or.inl ⟨by rfl, ?_⟩) (by assumption) ?_
                rotate_left
                · intro w9 hSw; (try dsimp only at hSw); go_simp; try (with_reducible rfl)
                try simp only [Act.put, List.setIfInBounds_toArray, List.set_cons_zero, List.set_cons_succ]
                refine wpAnyH_take (i := 14) (oi := { dst := some 39, op := Op.load 3 (Operand.tmp 38), type := 3, pos := "ref.go:105", after := #[{ on := 13, ground := Ground.data }, { on := 8, ground := Ground.guard }], guard := some (8, true) }) (v := ?_) rfl (by kernel_rfl) (by kernel_rfl) (by kernel_rfl) (fun _ _ _ h => h) (Or.inl ⟨by rfl, ?_⟩) (by assumption) ?_
                rotate_left
                · intro w9 hSw; (try dsimp only at hSw); go_simp; try (with_reducible rfl)
                try simp only [Act.put, List.setIfInBounds_toArray, List.set_cons_zero, List.set_cons_succ]
                refine wpAnyH_take (i := 15) (oi := { dst := some 40, op := Op.binOp BinOp.eql 3 (Operand.tmp 36) (Operand.tmp 39) 3, type := 4, pos := "ref.go:105", after := #[{ on := 11, ground := Ground.data }, { on := 14, ground := Ground.data }, { on := 8, ground := Ground.guard }], guard := some (8, true) }) (v := ?_) rfl (by kernel_rfl) (by kernel_rfl) (by kernel_rfl) (fun _ _ _ h => h) (Or.inl ⟨by rfl, ?_⟩) (by assumption) ?_
                rotate_left
                · intro w9 hSw; (try dsimp only at hSw); go_simp; try (with_reducible rfl)
                try simp only [Act.put, List.setIfInBounds_toArray, List.set_cons_zero, List.set_cons_succ]
                refine wpAnyH_take (i := 16) (oi := { dst := some 41, op := Op.move (Operand.tmp 40), type := 4, pos := "ref.go:105", after := #[{ on := 15, ground := Ground.data }, { on := 8, ground := Ground.chain }, { on := 8, ground := Ground.guard }], guard := some (8, true) }) (v := ?_) rfl (by kernel_rfl) (by kernel_rfl) (by kernel_rfl) (fun _ _ _ h => h) (Or.inl ⟨by rfl, ?_⟩) (by assumption) ?_
                rotate_left
                · intro w9 hSw; (try dsimp only at hSw); go_simp; try (with_reducible rfl)
                try simp only [Act.put, List.setIfInBounds_toArray, List.set_cons_zero, List.set_cons_succ]
                refine wpAnyH_take (i := 17) (oi := { dst := some 42, op := Op.fieldAddr 76 (Operand.tmp 5) 1, type := 0, pos := "ref.go:105", after := #[{ on := 16, ground := Ground.guard }], guard := some (16, true) }) (v := ?_) rfl (by kernel_rfl) (by kernel_rfl) (by kernel_rfl) (fun _ _ _ h => h) (Or.inl ⟨by rfl, ?_⟩) (by assumption) ?_
                rotate_left
                · intro w9 hSw; (try dsimp only at hSw); go_simp; try (with_reducible rfl)
                try simp only [Act.put, List.setIfInBounds_toArray, List.set_cons_zero, List.set_cons_succ]
                refine wpAnyH_take (i := 18) (oi := { dst := some 43, op := Op.load 3 (Operand.tmp 42), type := 3, pos := "ref.go:105", after := #[{ on := 17, ground := Ground.data }, { on := 16, ground := Ground.guard }], guard := some (16, true) }) (v := ?_) rfl (by kernel_rfl) (by kernel_rfl) (by kernel_rfl) (fun _ _ _ h => h) (Or.inl ⟨by rfl, ?_⟩) (by assumption) ?_
                rotate_left
                · intro w9 hSw; (try dsimp only at hSw); go_simp; try (with_reducible rfl)
                try simp only [Act.put, List.setIfInBounds_toArray, List.set_cons_zero, List.set_cons_succ]
                refine wpAnyH_take (i := 19) (oi := { dst := some 44, op := Op.fieldAddr 76 (Operand.tmp 7) 1, type := 0, pos := "ref.go:105", after := #[{ on := 16, ground := Ground.guard }], guard := some (16, true) }) (v := ?_) rfl (by kernel_rfl) (by kernel_rfl) (by kernel_rfl) (fun _ _ _ h => h) (Or.inl ⟨by rfl, ?_⟩) (by assumption) ?_
                rotate_left
                · intro w9 hSw; (try dsimp only at hSw); go_simp; try (with_reducible rfl)
                try simp only [Act.put, List.setIfInBounds_toArray, List.set_cons_zero, List.set_cons_succ]
                refine wpAnyH_take (i := 20) (oi := { dst := some 45, op := Op.load 3 (Operand.tmp 44), type := 3, pos := "ref.go:105", after := #[{ on := 19, ground := Ground.data }, { on := 16, ground := Ground.guard }], guard := some (16, true) }) (v := ?_) rfl (by kernel_rfl) (by kernel_rfl) (by kernel_rfl) (fun _ _ _ h => h) (Or.inl ⟨by rfl, ?_⟩) (by assumption) ?_
                rotate_left
                · intro w9 hSw; (try dsimp only at hSw); go_simp; try (with_reducible rfl)
                try simp only [Act.put, List.setIfInBounds_toArray, List.set_cons_zero, List.set_cons_succ]
                refine wpAnyH_take (i := 21) (oi := { dst := some 46, op := Op.binOp BinOp.lss 3 (Operand.tmp 43) (Operand.tmp 45) 3, type := 4, pos := "ref.go:105", after := #[{ on := 18, ground := Ground.data }, { on := 20, ground := Ground.data }, { on := 16, ground := Ground.guard }], guard := some (16, true) }) (v := ?_) rfl (by kernel_rfl) (by kernel_rfl) (by kernel_rfl) (fun _ _ _ h => h) (Or.inl ⟨by rfl, ?_⟩) (by assumption) ?_
                rotate_left
                · intro w9 hSw; (try dsimp only at hSw); go_simp; try (with_reducible rfl)
                try simp only [Act.put, List.setIfInBounds_toArray, List.set_cons_zero, List.set_cons_succ]
                refine wpAnyH_take (i := 22) (oi := { dst := some 47, op := Op.pick (Operand.tmp 41) (Operand.tmp 46) (Operand.const (Value.bool false)), type := 4, pos := "ref.go:105", after := #[{ on := 16, ground := Ground.data }, { on := 21, ground := Ground.data }, { on := 8, ground := Ground.guard }], guard := some (8, true) }) (v := ?_) rfl (by kernel_rfl) (by kernel_rfl) (by kernel_rfl) (fun _ _ _ h => h) (Or.inl ⟨by rfl, ?_⟩) (by assumption) ?_
                rotate_left
                · intro w9 hSw; (try dsimp only at hSw); go_simp; try (with_reducible rfl)
                try simp only [Act.put, List.setIfInBounds_toArray, List.set_cons_zero, List.set_cons_succ]
                refine wpAnyH_take (i := 23) (oi := { dst := some 48, op := Op.move (Operand.tmp 47), type := 4, pos := "ref.go:105", after := #[{ on := 22, ground := Ground.data }, { on := 16, ground := Ground.chain }, { on := 8, ground := Ground.guard }], guard := some (8, true) }) (v := ?_) rfl (by kernel_rfl) (by kernel_rfl) (by kernel_rfl) (fun _ _ _ h => h) (Or.inl ⟨by rfl, ?_⟩) (by assumption) ?_
                rotate_left
                · intro w9 hSw; (try dsimp only at hSw); go_simp; try (with_reducible rfl)
                try simp only [Act.put, List.setIfInBounds_toArray, List.set_cons_zero, List.set_cons_succ]
                refine wpAnyH_take (i := 24) (oi := { dst := some 49, op := Op.load 76 (Operand.tmp 5), type := 76, pos := "ref.go:105", after := #[{ on := 23, ground := Ground.guard }], guard := some (23, false) }) (v := undef) rfl (by kernel_rfl) (by kernel_rfl) (by kernel_rfl) (fun _ _ _ h => h) (Or.inr ⟨by rfl, rfl⟩) (by assumption) ?_
                try simp only [Act.put, List.setIfInBounds_toArray, List.set_cons_zero, List.set_cons_succ]
                refine wpAnyH_take (i := 25) (oi := { dst := some 50, op := Op.load 76 (Operand.tmp 7), type := 76, pos := "ref.go:105", after := #[{ on := 23, ground := Ground.guard }], guard := some (23, false) }) (v := undef) rfl (by kernel_rfl) (by kernel_rfl) (by kernel_rfl) (fun _ _ _ h => h) (Or.inr ⟨by rfl, rfl⟩) (by assumption) ?_
                try simp only [Act.put, List.setIfInBounds_toArray, List.set_cons_zero, List.set_cons_succ]
                refine wpAnyH_take (i := 26) (oi := { dst := some 51, op := Op.call { callee := Callee.value (Operand.func 97), args := #[Operand.tmp 49, Operand.tmp 50], argTypes := #[76, 76] }, type := 4, pos := "ref.go:105", after := #[{ on := 24, ground := Ground.data }, { on := 25, ground := Ground.data }, { on := 23, ground := Ground.chain }, { on := 23, ground := Ground.guard }], guard := some (23, false) }) (v := undef) rfl (by kernel_rfl) (by kernel_rfl) (by kernel_rfl) (fun _ _ _ h => h) (Or.inr ⟨by rfl, rfl⟩) (by assumption) ?_
                try simp only [Act.put, List.setIfInBounds_toArray, List.set_cons_zero, List.set_cons_succ]
                refine wpAnyH_take (i := 27) (oi := { dst := some 52, op := Op.pick (Operand.tmp 48) (Operand.const (Value.bool true)) (Operand.tmp 51), type := 4, pos := "ref.go:105", after := #[{ on := 23, ground := Ground.data }, { on := 26, ground := Ground.data }, { on := 8, ground := Ground.guard }], guard := some (8, true) }) (v := ?_) rfl (by kernel_rfl) (by kernel_rfl) (by kernel_rfl) (fun _ _ _ h => h) (Or.inl ⟨by rfl, ?_⟩) (by assumption) ?_
                rotate_left
                · intro w9 hSw; (try dsimp only at hSw); go_simp; try (with_reducible rfl)
                try simp only [Act.put, List.setIfInBounds_toArray, List.set_cons_zero, List.set_cons_succ]
                refine wpAnyH_take (i := 28) (oi := { dst := some 53, op := Op.pick (Operand.tmp 33) (Operand.tmp 52) (Operand.const (Value.bool false)), type := 4, pos := "ref.go:105", after := #[{ on := 8, ground := Ground.data }, { on := 27, ground := Ground.data }], guard := none }) (v := ?_) rfl (by kernel_rfl) (by kernel_rfl) (by kernel_rfl) (fun _ _ _ h => h) (Or.inl ⟨by rfl, ?_⟩) (by assumption) ?_
                rotate_left
                · intro w9 hSw; (try dsimp only at hSw); go_simp; try (with_reducible rfl)
                try simp only [Act.put, List.setIfInBounds_toArray, List.set_cons_zero, List.set_cons_succ]
                refine wpAnyH_take (i := 29) (oi := { dst := some 54, op := Op.indexAddr 90 (Operand.tmp 28) (Operand.tmp 29), type := 0, pos := "ref.go:105", after := #[{ on := 3, ground := Ground.data }, { on := 4, ground := Ground.data }, { on := 0, ground := Ground.phase }, { on := 1, ground := Ground.phase }, { on := 2, ground := Ground.phase }, { on := 3, ground := Ground.phase }, { on := 4, ground := Ground.phase }, { on := 5, ground := Ground.phase }, { on := 6, ground := Ground.phase }, { on := 7, ground := Ground.phase }, { on := 8, ground := Ground.phase }, { on := 9, ground := Ground.phase }, { on := 10, ground := Ground.phase }, { on := 11, ground := Ground.phase }, { on := 12, ground := Ground.phase }, { on := 13, ground := Ground.phase }, { on := 14, ground := Ground.phase }, { on := 15, ground := Ground.phase }, { on := 16, ground := Ground.phase }, { on := 17, ground := Ground.phase }, { on := 18, ground := Ground.phase }, { on := 19, ground := Ground.phase }, { on := 20, ground := Ground.phase }, { on := 21, ground := Ground.phase }, { on := 22, ground := Ground.phase }, { on := 23, ground := Ground.phase }, { on := 24, ground := Ground.phase }, { on := 25, ground := Ground.phase }, { on := 26, ground := Ground.phase }, { on := 27, ground := Ground.phase }, { on := 28, ground := Ground.phase }], guard := none }) (v := ?_) rfl (by kernel_rfl) (by kernel_rfl) (by kernel_rfl) (fun _ _ _ h => h) (Or.inl ⟨by rfl, ?_⟩) (by assumption) ?_
                rotate_left
                · intro w9 hSw; (try dsimp only at hSw); go_simp; try (with_reducible rfl)
                try simp only [Act.put, List.setIfInBounds_toArray, List.set_cons_zero, List.set_cons_succ]
                refine wpAnyH_ready (rs := [30]) (by kernel_rfl) (by simp) ?_
                refine AllReadyH.cons (o := { dst := none, op := Op.store 4 (Operand.tmp 54) (Operand.tmp 53), type := 0, pos := "ref.go:105", after := #[{ on := 29, ground := Ground.data }, { on := 28, ground := Ground.data }, { on := 26, ground := Ground.chain }, { on := 0, ground := Ground.phase }, { on := 1, ground := Ground.phase }, { on := 2, ground := Ground.phase }, { on := 3, ground := Ground.phase }, { on := 4, ground := Ground.phase }, { on := 5, ground := Ground.phase }, { on := 6, ground := Ground.phase }, { on := 7, ground := Ground.phase }, { on := 8, ground := Ground.phase }, { on := 9, ground := Ground.phase }, { on := 10, ground := Ground.phase }, { on := 11, ground := Ground.phase }, { on := 12, ground := Ground.phase }, { on := 13, ground := Ground.phase }, { on := 14, ground := Ground.phase }, { on := 15, ground := Ground.phase }, { on := 16, ground := Ground.phase }, { on := 17, ground := Ground.phase }, { on := 18, ground := Ground.phase }, { on := 19, ground := Ground.phase }, { on := 20, ground := Ground.phase }, { on := 21, ground := Ground.phase }, { on := 22, ground := Ground.phase }, { on := 23, ground := Ground.phase }, { on := 24, ground := Ground.phase }, { on := 25, ground := Ground.phase }, { on := 26, ground := Ground.phase }, { on := 27, ground := Ground.phase }, { on := 28, ground := Ground.phase }], guard := none }) rfl (fun K hK => ?_) AllReadyH.nil
                go_simp
                refine hK.out _ _ ?_ (fun hHeld32 => ?_)
                · (try dsimp only); go_keep
                clear hK K
                try simp only [Act.put, List.setIfInBounds_toArray, List.set_cons_zero, List.set_cons_succ]
                refine wpAnyH_done (by kernel_rfl) ?_ _
                go_wp2
                go_roundw
                case rel => exact ⟨k + 1, by go_num, by omega, by rw [HJ.out, HV.out]; exact FillAt.below (fill_set HF2.out HQ1.out HQ2.out k true) (by simpa using hwr) (below_drew ((Below.refl _ _).alloc (Nat.le_refl _) _)), bx_drew (Blk.alloc (Blk.far HBX.out _ _ (by exact hn4)) _)⟩
                case measure => simp [intOf]; omega
        · obtain rfl : k = l.length := by omega
          have HF2 := Lib.hid hF; clear hF hsq
          go_wp2
          go_roundw
          case rel => exact ⟨i + 1, by go_num, by omega, HF2.out⟩
          case measure => simp [intOf]; omega
    · obtain rfl : i = l.length := by omega
      go_wp2_with fail
      refine (closure_any w.heap.size w g l.length bs _ _ HF.out.1 ((sq2_zero l.length).fI l.length (Nat.le_refl _)) hlen HF.out.2).mono ?_
      rintro e w3 ⟨rfl, hM, hB⟩
      have HM := Lib.hid hM; have HB := Lib.hid hB; clear hM hB
      go_wp2
      go_ret
      exact ⟨g, bs, rfl, HB.out, HM.out⟩
end Go.Proofs.Ytfeempgoejnfdaa.Ord
