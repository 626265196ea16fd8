/- The reference's Apart: it answers apartR of the lock events' nodes. At most a million events. -/
import Derived.Test.YtfeempgoejnfdaaA5
import Derived.Test.YtfeempgoejnfdaaR1
namespace Go.Proofs.Ytfeempgoejnfdaa.Ord
open Go.RowKit Go.Proofs.YtfeempgoejnfdaaW.PrintWords Go.Proofs.YtfeempgoejnfdaaW.PrintLast Go.Proofs.YtfeempgoejnfdaaW.PrintMore
set_option linter.unusedVariables false
set_option linter.unusedSimpArgs false
theorem size_alloc1 (w : World) (o : Obj) : (w.alloc o).heap.size = w.heap.size + 1 := by simp
def lockN (x : S76) : Bool := lockB x.f0.f1
theorem rowN_lock (l : List S68) : (rowN syncsB l).filter lockN = rowN lockB l := by
  unfold rowN
  rw [List.filter_map, List.filter_filter]
  congr 1
  apply List.filter_congr
  intro q _
  simp only [Function.comp, lockN, keepN, lockB, syncsB, writesB, readsB]
  cases h5 : (q.1.f1.f0 == 5) <;> cases h6 : (q.1.f1.f0 == 6) <;> simp
theorem nodes_lock (run : List (List S68)) : (nodesN syncsB run).filter lockN = nodesN lockB run := by
  unfold nodesN
  rw [List.filter_flatMap]
  congr 1
  funext l
  exact rowN_lock l
theorem take_filter (l : List S76) (i : Nat) (hi : i < l.length) : (l.take (i + 1)).filter lockN = (l.take i).filter lockN ++ (if lockN (rd_T76 l i) then [rd_T76 l i] else []) := by
  rw [List.take_succ_eq_append_getElem hi, List.filter_append, rd_get hi]
  congr 1
  by_cases h : lockN l[i] = true <;> simp [h]
def Bx2 (w : World) (b : Nat) (x : S76) : Prop := Blk w b (c76 x) 76
theorem bx2_cells {w : World} {b : Nat} {x : S76} (h : Bx2 w b x) : w.cell? ⟨b, 0, none⟩ = some (.int .i64 x.f0.f0) ∧ w.cell? ⟨b, 1, none⟩ = some (.int .i64 x.f0.f1.f0) ∧ w.cell? ⟨b, 2, none⟩ = some (.int .i64 x.f0.f1.f1) ∧ w.cell? ⟨b, 3, none⟩ = some (.int .i64 x.f0.f1.f2) ∧ w.cell? ⟨b, 4, none⟩ = some (.int .i64 x.f0.f1.f3) ∧ w.cell? ⟨b, 5, none⟩ = some (.bool x.f0.f1.f4) ∧ w.cell? ⟨b, 6, none⟩ = some (.bool x.f0.f1.f5) ∧ w.cell? ⟨b, 7, none⟩ = some (.int .i64 x.f0.f2) ∧ w.cell? ⟨b, 8, none⟩ = some (.int .i64 x.f0.f3) ∧ w.cell? ⟨b, 9, none⟩ = some (.int .i64 x.f1) :=
  ⟨h.cell rfl, h.cell rfl, h.cell rfl, h.cell rfl, h.cell rfl, h.cell rfl, h.cell rfl, h.cell rfl, h.cell rfl, h.cell rfl⟩
theorem Bx2.below {w w1 : World} {b : Nat} {x : S76} (h : Bx2 w b x) (hb : Below w.heap.size w w1) : Bx2 w1 b x := Blk.below h hb h.lt
def prevV : Option Nat → Value
  | none => .int .i64 (-1)
  | some p => .int .i64 (p : Int)
def apartAll (l : List S76) (i : Nat) : Bool := badA ((prevP l (rd_T76 l i) l.length).map fun k => rd_T76 l k) (rd_T76 l i)
theorem apartR_eq (l : List S76) : apartR l = (List.range l.length).all fun i => !apartAll l i := rfl
theorem apartR_false {l : List S76} {i : Nat} (hi : i < l.length) (h : apartAll l i = true) : apartR l = false := by
  rw [apartR_eq, List.all_eq_false]
  exact ⟨i, List.mem_range.2 hi, by rw [h]; simp⟩
set_option maxRecDepth 100000 in
set_option maxHeartbeats 8000000 in
theorem refApart_any (run : List (List S68)) (A : Option Addr) (c : Nat) (w : World) (hrun : krun.C w A run.length run) (hT : (run.map List.length).sum ≤ 1000000) (hrl : run.length ≤ 1000000) :
    Calls Try.prog 39 #[.slice A run.length c] w (Gives (apartR (nodesN lockB run)) w) := by
  have hn : Calls Try.prog 56 #[.slice A run.length c, .bool true] w (RefNodesGives (nodesN syncsB run) w) := refNodes_any run true A c w hrun hT hrl
  have hlen : (nodesN syncsB run).length ≤ 1000000 := Nat.le_trans (nodesN_len _ _) hT
  have HF := Lib.hid (nodes_lock run)
  have HN := Lib.hid hn; clear hn hrun
  generalize nodesN syncsB run = l0 at *
  generalize nodesN lockB run = l at *
  have hll : l.length ≤ 1000000 := by rw [← HF.out]; exact Nat.le_trans (List.length_filter_le _ _) hlen
  go_enter Try.func39, Try.ntmps39
  go_wp2_with fail
  refine HN.out.mono ?_
  rintro e w1 ⟨v, rfl, hR, hB⟩
  obtain ⟨A1, c1, rfl, hlc, hC⟩ := Kd.R_reads hR
  have HC := Lib.hid hC; have HB1 := Lib.hid hB; clear hC hB hR HN
  go_wp2
  go_loopw [3, 14] (fun v x wr => ∃ i : Nat, x = .int .i64 i ∧ i ≤ l0.length ∧ Kd.R k76 76 wr w1.heap.size (fun _ => True) v ((l0.take i).filter lockN) ∧ Below w1.heap.size w1 wr) (fun _ x _ => l0.length - (intOf x).toNat)
  case atStart => exact ⟨0, rfl, by omega, by simpa using Kd.R_nil _ _ _ _ _, Below.refl _ _⟩
  case round =>
    obtain ⟨i, rfl, hi, hR, hB⟩ := hrel
    have HR := Lib.hid hR; have HBW := Lib.hid hB; clear hR hB
    by_cases hlt : i < l0.length
    · obtain ⟨ad, rfl, g0, g1, g2, g3, g4, g5, g6, g7, g8, g9⟩ := at_T76 (Kd.C_below HC.out HBW.out) (i : Int) (by omega) (by omega)
      rw [Int.toNat_natCast] at *
      have HTF := Lib.hid (take_filter l0 i hlt)
      have HLK := Lib.hid (show lockN (rd_T76 l0 i) = ((rd_T76 l0 i).f0.f1.f0 == 5 || (rd_T76 l0 i).f0.f1.f0 == 6) from rfl)
      have HNX := Lib.hid (fun (v : Value) (W : World) (hh : Kd.R k76 76 W w1.heap.size (fun _ => True) v ((l0.take i).filter lockN ++ (if lockN (rd_T76 l0 i) then [rd_T76 l0 i] else []))) => (show Kd.R k76 76 W w1.heap.size (fun _ => True) v ((l0.take (i + 1)).filter lockN) by rw [HTF.out]; exact hh))
      generalize rd_T76 l0 (i : Int) = x at *
      have HBX := Lib.hid ((Below.refl wr.heap.size wr).alloc (Nat.le_refl _) (.cells #[.int .i64 x.f0.f0, .int .i64 x.f0.f1.f0, .int .i64 x.f0.f1.f1, .int .i64 x.f0.f1.f2, .int .i64 x.f0.f1.f3, .bool x.f0.f1.f4, .bool x.f0.f1.f5, .int .i64 x.f0.f2, .int .i64 x.f0.f3, .int .i64 x.f1] 76))
      cases h5 : (x.f0.f1.f0 == 5) <;> cases h6 : (x.f0.f1.f0 == 6)
      case false.false =>
        go_wp2
        go_roundw
        case rel => exact ⟨i + 1, by go_num, by omega, HNX.out _ _ (by rw [HLK.out, h5, h6]; simpa using Kd.R_below HR.out HBX.out), HBW.out.trans (HBX.out.mono HBW.out.size)⟩
        case measure => simp [intOf]; omega
      all_goals
        go_wp2_with (at_builtin; go_must (refine Kd.R_append k76 (w0 := w1) w1.heap.size rfl _ _ 86 76 (.agg #[.int .i64 0, .int .i64 0, .int .i64 0, .int .i64 0, .int .i64 0, .bool false, .bool false, .int .i64 0, .int .i64 0, .int .i64 0]) 72 rfl Try.underlying86 info76 rfl (by decide) (by decide) _ ((l0.take i).filter lockN) x (c76 x) (fun _ => True) (fun _ => False) rfl (by rw [size_alloc1]; rfl) (k76_mkM _ _ _ _) (fun _ h => h.elim) (fun _ _ => trivial) (Kd.R_below HR.out HBX.out) (HBW.out.trans (HBX.out.mono HBW.out.size)) (Nat.le_trans HBW.out.size HBX.out.size) (by have := List.length_filter_le lockN (l0.take i); rw [List.length_take] at this; omega) ?_); intro v1 w9 hR9 hB9 hg9 _; have HR9 := Lib.hid hR9; have HB9 := Lib.hid hB9; clear hR9 hB9 hg9)
        go_roundw
        case rel => exact ⟨i + 1, by go_num, by omega, HNX.out _ _ (by rw [HLK.out, h5, h6]; exact HR9.out), HB9.out⟩
        case measure => simp [intOf]; omega
    · obtain rfl : i = l0.length := by omega
      have hR := HR.out
      rw [List.take_length, HF.out] at hR
      obtain ⟨A2, c2, rfl, hlc2, hC2⟩ := Kd.R_reads hR
      have HC2 := Lib.hid hC2; clear hR hC2
      obtain ⟨w2, rfl⟩ : ∃ w2 : World, w2 = wr := ⟨_, rfl⟩
      go_wp2
      go_loopw [37] (fun v wr => ∃ i : Nat, v = .int .i64 i ∧ i ≤ l.length ∧ ((List.range i).all fun i => !apartAll l i) = true ∧ Below w2.heap.size w2 wr) (fun v _ => l.length - (intOf v).toNat)
      case atStart => exact ⟨0, rfl, by omega, rfl, Below.refl _ _⟩
      case round =>
        obtain ⟨i, rfl, hi, hno, hbw⟩ := hrel
        have HNO := Lib.hid hno; have HB2 := Lib.hid hbw; clear hno hbw
        have HW2 := Lib.hid (HB1.out.trans (HBW.out.mono HB1.out.size) : Below w.heap.size w w2)
        have HWR := Lib.hid (HW2.out.trans (HB2.out.mono HW2.out.size) : Below w.heap.size w wr)
        by_cases hlt : i < l.length
        · obtain ⟨ad, rfl, g0, g1, g2, g3, g4, g5, g6, g7, g8, g9⟩ := at_T76 (Kd.C_below HC2.out HB2.out) (i : Int) (by omega) (by omega)
          rw [Int.toNat_natCast] at *
          have HALL := Lib.hid (show apartAll l i = badA ((prevP l (rd_T76 l i) l.length).map fun k => rd_T76 l k) (rd_T76 l i) from rfl)
          have HPI := Lib.hid (fun k (hk : k ≤ l.length) => (prevP_is l (rd_T76 l i) k hk).1)
          have HNXT := Lib.hid (fun (h : (!apartAll l i) = true) => (show ((List.range (i + 1)).all fun i => !apartAll l i) = true by rw [range_all, HNO.out, h]; rfl))
          generalize rd_T76 l (i : Int) = x at *
          go_upto_region 10 with fail
          go_cut [6, 7] (fun s6 s7 wc => s6 = .int .i64 (i : Int) ∧ s7 = .pointer (some ⟨wr.heap.size, 0, none⟩) ∧ Below wr.heap.size wr wc ∧ Bx2 wc wr.heap.size x)
          case first =>
            go_wp2
            go_meet
            case rel => exact ⟨rfl, rfl, (Below.refl _ _).alloc (Nat.le_refl _) _, Blk.new wr (c76 x) 76⟩
          case rest =>
            obtain ⟨rfl, rfl, hb3, hx3⟩ := hcut
            obtain ⟨w3, rfl⟩ : ∃ w3 : World, w3 = wc := ⟨_, rfl⟩
            have HB3 := Lib.hid (HB2.out.trans (hb3.mono HB2.out.size) : Below w2.heap.size w2 w3)
            have HX3 := Lib.hid hx3
            generalize wr.heap.size = bn at *
            clear g0 g1 g2 g3 g4 g5 g6 g7 g8 g9 hb3 hx3
            go_wp2
            go_loopw [8, 44] (fun v8 v wr => ∃ k : Nat, v = .int .i64 k ∧ v8 = prevV (prevP l x k) ∧ k ≤ l.length ∧ Below w3.heap.size w3 wr) (fun _ v _ => l.length - (intOf v).toNat)
            case atStart => exact ⟨0, rfl, rfl, by omega, Below.refl _ _⟩
            case round =>
              obtain ⟨k, rfl, rfl, hk, hbw⟩ := hrel
              have HB4 := Lib.hid hbw; clear hbw
              have HB42 := Lib.hid (HB3.out.trans (HB4.out.mono HB3.out.size) : Below w2.heap.size w2 wr)
              by_cases hlt2 : k < l.length
              · obtain ⟨ad', ead, g0, g1, g2, g3, g4, g5, g6, g7, g8, g9⟩ := at_T76 (Kd.C_below HC2.out HB42.out) (k : Int) (by omega) (by omega)
                obtain rfl : ad = ad' := by simpa using ead
                clear ead
                rw [Int.toNat_natCast] at *
                have HST := Lib.hid (show prevP l x (k + 1) = (bif ((atN (rd_T76 l k) == atN x) && decide (idN (rd_T76 l k) < idN x) && newerP l (prevP l x k) k) then some k else prevP l x k) from rfl)
                have HNW := Lib.hid (fun p : Nat => show newerP l (some p) k = decide (idN (rd_T76 l p) < idN (rd_T76 l k)) from rfl)
                have hpk := HPI.out k (by omega)
                generalize rd_T76 l (k : Int) = y at *
                generalize hpe : prevP l x k = prev at *
                have HST1 := Lib.hid (show prevP l x (k + 1) = (bif ((y.f0.f1.f1 == x.f0.f1.f1) && decide (y.f0.f3 < x.f0.f3) && newerP l prev k) then some k else prev) from HST.out)
                clear HST hpe
                go_upto_region 14 with fail
                go_cut [9, 10] (fun s9 s10 wc => s9 = .int .i64 (k : Int) ∧ s10 = .pointer (some ⟨wr.heap.size, 0, none⟩) ∧ Below wr.heap.size wr wc ∧ Bx2 wc wr.heap.size y)
                case first =>
                  go_wp2
                  go_meet
                  case rel => exact ⟨rfl, rfl, (Below.refl _ _).alloc (Nat.le_refl _) _, Blk.new wr (c76 y) 76⟩
                case rest =>
                  obtain ⟨rfl, rfl, hb5, hy5⟩ := hcut
                  obtain ⟨w5, rfl⟩ : ∃ w5 : World, w5 = wc := ⟨_, rfl⟩
                  have HB5 := Lib.hid (HB4.out.trans (hb5.mono HB4.out.size) : Below w3.heap.size w3 w5)
                  have HB52 := Lib.hid (HB3.out.trans (HB5.out.mono HB3.out.size) : Below w2.heap.size w2 w5)
                  clear g0 g1 g2 g3 g4 g5 g6 g7 g8 g9 hb5
                  generalize wr.heap.size = bo at *
                  obtain ⟨a0, a1, a2, a3, a4, a5, a6, a7, a8, a9⟩ := bx2_cells hy5
                  obtain ⟨b0, b1, b2, b3, b4, b5, b6, b7, b8, b9⟩ := bx2_cells (HX3.out.below HB5.out)
                  clear hy5
                  go_upto_region 15 with fail
                  cases hA : (y.f0.f1.f1 == x.f0.f1.f1)
                  · have HN := Lib.hid (show prevP l x (k + 1) = prev by rw [HST1.out, hA]; rfl)
                    (cases prev <;> simp only [prevV])
                    all_goals
                      refine wp_region_held_drew (S := (fun w' => w'.cell? ⟨bo, 0, none⟩ = some (.int .i64 y.f0.f0) ∧ w'.cell? ⟨bo, 1, none⟩ = some (.int .i64 y.f0.f1.f0) ∧ w'.cell? ⟨bo, 2, none⟩ = some (.int .i64 y.f0.f1.f1) ∧ w'.cell? ⟨bo, 3, none⟩ = some (.int .i64 y.f0.f1.f2) ∧ w'.cell? ⟨bo, 4, none⟩ = some (.int .i64 y.f0.f1.f3) ∧ w'.cell? ⟨bo, 5, none⟩ = some (.bool y.f0.f1.f4) ∧ w'.cell? ⟨bo, 6, none⟩ = some (.bool y.f0.f1.f5) ∧ w'.cell? ⟨bo, 7, none⟩ = some (.int .i64 y.f0.f2) ∧ w'.cell? ⟨bo, 8, none⟩ = some (.int .i64 y.f0.f3) ∧ w'.cell? ⟨bo, 9, none⟩ = some (.int .i64 y.f1) ∧ w'.cell? ⟨bn, 0, none⟩ = some (.int .i64 x.f0.f0) ∧ w'.cell? ⟨bn, 1, none⟩ = some (.int .i64 x.f0.f1.f0) ∧ w'.cell? ⟨bn, 2, none⟩ = some (.int .i64 x.f0.f1.f1) ∧ w'.cell? ⟨bn, 3, none⟩ = some (.int .i64 x.f0.f1.f2) ∧ w'.cell? ⟨bn, 4, none⟩ = some (.int .i64 x.f0.f1.f3) ∧ w'.cell? ⟨bn, 5, none⟩ = some (.bool x.f0.f1.f4) ∧ w'.cell? ⟨bn, 6, none⟩ = some (.bool x.f0.f1.f5) ∧ w'.cell? ⟨bn, 7, none⟩ = some (.int .i64 x.f0.f2) ∧ w'.cell? ⟨bn, 8, none⟩ = some (.int .i64 x.f0.f3) ∧ w'.cell? ⟨bn, 9, none⟩ = some (.int .i64 x.f1))) (by kernel_rfl) ?_ (fun hHeld => ?_)
                      · (try dsimp only); go_keep
                      refine wpAnyH_take (i := 0) (oi := { dst := some 49, op := Op.fieldAddr 76 (Operand.tmp 10) 0, type := 0, pos := "ref.go:166", after := #[], guard := none }) (v := ?_) rfl (by kernel_rfl) (by kernel_rfl) (by kernel_rfl) (fun _ _ _ h => h) (Or.inl ⟨by rfl, ?_⟩) (by assumption) ?_
                      rotate_left
                      · intro w9 hSw; (try dsimp only at hSw); go_simp; try (with_reducible rfl)
                      try simp only [Act.put, List.setIfInBounds_toArray, List.set_cons_zero, List.set_cons_succ]
                      refine wpAnyH_take (i := 1) (oi := { dst := some 50, op := Op.fieldAddr 68 (Operand.tmp 49) 1, type := 0, pos := "ref.go:166", after := #[{ on := 0, ground := Ground.data }], guard := none }) (v := ?_) rfl (by kernel_rfl) (by kernel_rfl) (by kernel_rfl) (fun _ _ _ h => h) (Or.inl ⟨by rfl, ?_⟩) (by assumption) ?_
                      rotate_left
                      · intro w9 hSw; (try dsimp only at hSw); go_simp; try (with_reducible rfl)
                      try simp only [Act.put, List.setIfInBounds_toArray, List.set_cons_zero, List.set_cons_succ]
                      refine wpAnyH_take (i := 2) (oi := { dst := some 51, op := Op.fieldAddr 54 (Operand.tmp 50) 1, type := 0, pos := "ref.go:166", after := #[{ on := 1, ground := Ground.data }], guard := none }) (v := ?_) rfl (by kernel_rfl) (by kernel_rfl) (by kernel_rfl) (fun _ _ _ h => h) (Or.inl ⟨by rfl, ?_⟩) (by assumption) ?_
                      rotate_left
                      · intro w9 hSw; (try dsimp only at hSw); go_simp; try (with_reducible rfl)
                      try simp only [Act.put, List.setIfInBounds_toArray, List.set_cons_zero, List.set_cons_succ]
                      refine wpAnyH_take (i := 3) (oi := { dst := some 52, op := Op.load 3 (Operand.tmp 51), type := 3, pos := "ref.go:166", after := #[{ on := 2, ground := Ground.data }], guard := none }) (v := ?_) rfl (by kernel_rfl) (by kernel_rfl) (by kernel_rfl) (fun _ _ _ h => h) (Or.inl ⟨by rfl, ?_⟩) (by assumption) ?_
                      rotate_left
                      · intro w9 hSw; (try dsimp only at hSw); go_simp; try (with_reducible rfl)
                      try simp only [Act.put, List.setIfInBounds_toArray, List.set_cons_zero, List.set_cons_succ]
                      refine wpAnyH_take (i := 4) (oi := { dst := some 53, op := Op.fieldAddr 76 (Operand.tmp 7) 0, type := 0, pos := "ref.go:166", after := #[], guard := none }) (v := ?_) rfl (by kernel_rfl) (by kernel_rfl) (by kernel_rfl) (fun _ _ _ h => h) (Or.inl ⟨by rfl, ?_⟩) (by assumption) ?_
                      rotate_left
                      · intro w9 hSw; (try dsimp only at hSw); go_simp; try (with_reducible rfl)
                      try simp only [Act.put, List.setIfInBounds_toArray, List.set_cons_zero, List.set_cons_succ]
                      refine wpAnyH_take (i := 5) (oi := { dst := some 54, op := Op.fieldAddr 68 (Operand.tmp 53) 1, type := 0, pos := "ref.go:166", after := #[{ on := 4, ground := Ground.data }], guard := none }) (v := ?_) rfl (by kernel_rfl) (by kernel_rfl) (by kernel_rfl) (fun _ _ _ h => h) (Or.inl ⟨by rfl, ?_⟩) (by assumption) ?_
                      rotate_left
                      · intro w9 hSw; (try dsimp only at hSw); go_simp; try (with_reducible rfl)
                      try simp only [Act.put, List.setIfInBounds_toArray, List.set_cons_zero, List.set_cons_succ]
                      refine wpAnyH_take (i := 6) (oi := { dst := some 55, op := Op.fieldAddr 54 (Operand.tmp 54) 1, type := 0, pos := "ref.go:166", after := #[{ on := 5, ground := Ground.data }], guard := none }) (v := ?_) rfl (by kernel_rfl) (by kernel_rfl) (by kernel_rfl) (fun _ _ _ h => h) (Or.inl ⟨by rfl, ?_⟩) (by assumption) ?_
                      rotate_left
                      · intro w9 hSw; (try dsimp only at hSw); go_simp; try (with_reducible rfl)
                      try simp only [Act.put, List.setIfInBounds_toArray, List.set_cons_zero, List.set_cons_succ]
                      refine wpAnyH_take (i := 7) (oi := { dst := some 56, op := Op.load 3 (Operand.tmp 55), type := 3, pos := "ref.go:166", after := #[{ on := 6, ground := Ground.data }], guard := none }) (v := ?_) rfl (by kernel_rfl) (by kernel_rfl) (by kernel_rfl) (fun _ _ _ h => h) (Or.inl ⟨by rfl, ?_⟩) (by assumption) ?_
                      rotate_left
                      · intro w9 hSw; (try dsimp only at hSw); go_simp; try (with_reducible rfl)
                      try simp only [Act.put, List.setIfInBounds_toArray, List.set_cons_zero, List.set_cons_succ]
                      refine wpAnyH_take (i := 8) (oi := { dst := some 57, op := Op.binOp BinOp.eql 3 (Operand.tmp 52) (Operand.tmp 56) 3, type := 4, pos := "ref.go:166", after := #[{ on := 3, ground := Ground.data }, { on := 7, ground := Ground.data }], guard := none }) (v := ?_) rfl (by kernel_rfl) (by kernel_rfl) (by kernel_rfl) (fun _ _ _ h => h) (Or.inl ⟨by rfl, ?_⟩) (by assumption) ?_
                      rotate_left
                      · intro w9 hSw; (try dsimp only at hSw); go_simp; try (with_reducible rfl)
                      try simp only [Act.put, List.setIfInBounds_toArray, List.set_cons_zero, List.set_cons_succ]
                      refine wpAnyH_take (i := 9) (oi := { dst := some 58, op := Op.move (Operand.tmp 57), type := 4, pos := "ref.go:166", after := #[{ on := 8, ground := Ground.data }], guard := none }) (v := ?_) rfl (by kernel_rfl) (by kernel_rfl) (by kernel_rfl) (fun _ _ _ h => h) (Or.inl ⟨by rfl, ?_⟩) (by assumption) ?_
                      rotate_left
                      · intro w9 hSw; (try dsimp only at hSw); go_simp; try (with_reducible rfl)
                      try simp only [Act.put, List.setIfInBounds_toArray, List.set_cons_zero, List.set_cons_succ]
                      refine wpAnyH_take (i := 10) (oi := { dst := some 59, op := Op.fieldAddr 76 (Operand.tmp 10) 0, type := 0, pos := "ref.go:166", after := #[{ on := 9, ground := Ground.guard }], guard := some (9, true) }) (v := undef) rfl (by kernel_rfl) (by kernel_rfl) (by kernel_rfl) (fun _ _ _ h => h) (Or.inr ⟨by rfl, rfl⟩) (by assumption) ?_
                      try simp only [Act.put, List.setIfInBounds_toArray, List.set_cons_zero, List.set_cons_succ]
                      refine wpAnyH_take (i := 11) (oi := { dst := some 60, op := Op.fieldAddr 68 (Operand.tmp 59) 3, type := 0, pos := "ref.go:166", after := #[{ on := 10, ground := Ground.data }, { on := 9, ground := Ground.guard }], guard := some (9, true) }) (v := undef) rfl (by kernel_rfl) (by kernel_rfl) (by kernel_rfl) (fun _ _ _ h => h) (Or.inr ⟨by rfl, rfl⟩) (by assumption) ?_
                      try simp only [Act.put, List.setIfInBounds_toArray, List.set_cons_zero, List.set_cons_succ]
                      refine wpAnyH_take (i := 12) (oi := { dst := some 61, op := Op.load 3 (Operand.tmp 60), type := 3, pos := "ref.go:166", after := #[{ on := 11, ground := Ground.data }, { on := 9, ground := Ground.guard }], guard := some (9, true) }) (v := undef) rfl (by kernel_rfl) (by kernel_rfl) (by kernel_rfl) (fun _ _ _ h => h) (Or.inr ⟨by rfl, rfl⟩) (by assumption) ?_
                      try simp only [Act.put, List.setIfInBounds_toArray, List.set_cons_zero, List.set_cons_succ]
                      refine wpAnyH_take (i := 13) (oi := { dst := some 62, op := Op.fieldAddr 76 (Operand.tmp 7) 0, type := 0, pos := "ref.go:166", after := #[{ on := 9, ground := Ground.guard }], guard := some (9, true) }) (v := undef) rfl (by kernel_rfl) (by kernel_rfl) (by kernel_rfl) (fun _ _ _ h => h) (Or.inr ⟨by rfl, rfl⟩) (by assumption) ?_
                      try simp only [Act.put, List.setIfInBounds_toArray, List.set_cons_zero, List.set_cons_succ]
                      refine wpAnyH_take (i := 14) (oi := { dst := some 63, op := Op.fieldAddr 68 (Operand.tmp 62) 3, type := 0, pos := "ref.go:166", after := #[{ on := 13, ground := Ground.data }, { on := 9, ground := Ground.guard }], guard := some (9, true) }) (v := undef) rfl (by kernel_rfl) (by kernel_rfl) (by kernel_rfl) (fun _ _ _ h => h) (Or.inr ⟨by rfl, rfl⟩) (by assumption) ?_
                      try simp only [Act.put, List.setIfInBounds_toArray, List.set_cons_zero, List.set_cons_succ]
                      refine wpAnyH_take (i := 15) (oi := { dst := some 64, op := Op.load 3 (Operand.tmp 63), type := 3, pos := "ref.go:166", after := #[{ on := 14, ground := Ground.data }, { on := 9, ground := Ground.guard }], guard := some (9, true) }) (v := undef) rfl (by kernel_rfl) (by kernel_rfl) (by kernel_rfl) (fun _ _ _ h => h) (Or.inr ⟨by rfl, rfl⟩) (by assumption) ?_
                      try simp only [Act.put, List.setIfInBounds_toArray, List.set_cons_zero, List.set_cons_succ]
                      refine wpAnyH_take (i := 16) (oi := { dst := some 65, op := Op.binOp BinOp.lss 3 (Operand.tmp 61) (Operand.tmp 64) 3, type := 4, pos := "ref.go:166", after := #[{ on := 12, ground := Ground.data }, { on := 15, ground := Ground.data }, { on := 9, ground := Ground.guard }], guard := some (9, true) }) (v := undef) rfl (by kernel_rfl) (by kernel_rfl) (by kernel_rfl) (fun _ _ _ h => h) (Or.inr ⟨by rfl, rfl⟩) (by assumption) ?_
                      try simp only [Act.put, List.setIfInBounds_toArray, List.set_cons_zero, List.set_cons_succ]
                      refine wpAnyH_take (i := 17) (oi := { dst := some 66, op := Op.pick (Operand.tmp 58) (Operand.tmp 65) (Operand.const (Value.bool false)), type := 4, pos := "ref.go:166", after := #[{ on := 9, ground := Ground.data }, { on := 16, ground := Ground.data }], guard := none }) (v := ?_) rfl (by kernel_rfl) (by kernel_rfl) (by kernel_rfl) (fun _ _ _ h => h) (Or.inl ⟨by rfl, ?_⟩) (by assumption) ?_
                      rotate_left
                      · intro w9 hSw; (try dsimp only at hSw); go_simp; try (with_reducible rfl)
                      try simp only [Act.put, List.setIfInBounds_toArray, List.set_cons_zero, List.set_cons_succ]
                      refine wpAnyH_take (i := 18) (oi := { dst := some 67, op := Op.move (Operand.tmp 66), type := 4, pos := "ref.go:166", after := #[{ on := 17, ground := Ground.data }, { on := 9, ground := Ground.chain }], guard := none }) (v := ?_) rfl (by kernel_rfl) (by kernel_rfl) (by kernel_rfl) (fun _ _ _ h => h) (Or.inl ⟨by rfl, ?_⟩) (by assumption) ?_
                      rotate_left
                      · intro w9 hSw; (try dsimp only at hSw); go_simp; try (with_reducible rfl)
                      try simp only [Act.put, List.setIfInBounds_toArray, List.set_cons_zero, List.set_cons_succ]
                      refine wpAnyH_take (i := 19) (oi := { dst := some 68, op := Op.move (Operand.tmp 8), type := 3, pos := "ref.go:166", after := #[{ on := 18, ground := Ground.guard }], guard := some (18, true) }) (v := undef) rfl (by kernel_rfl) (by kernel_rfl) (by kernel_rfl) (fun _ _ _ h => h) (Or.inr ⟨by rfl, rfl⟩) (by assumption) ?_
                      try simp only [Act.put, List.setIfInBounds_toArray, List.set_cons_zero, List.set_cons_succ]
                      refine wpAnyH_take (i := 20) (oi := { dst := some 69, op := Op.binOp BinOp.lss 3 (Operand.tmp 68) (Operand.const (Value.int IntKind.i64 0)) 3, type := 4, pos := "ref.go:166", after := #[{ on := 19, ground := Ground.data }, { on := 18, ground := Ground.guard }], guard := some (18, true) }) (v := undef) rfl (by kernel_rfl) (by kernel_rfl) (by kernel_rfl) (fun _ _ _ h => h) (Or.inr ⟨by rfl, rfl⟩) (by assumption) ?_
                      try simp only [Act.put, List.setIfInBounds_toArray, List.set_cons_zero, List.set_cons_succ]
                      refine wpAnyH_take (i := 21) (oi := { dst := some 70, op := Op.move (Operand.tmp 69), type := 4, pos := "ref.go:166", after := #[{ on := 20, ground := Ground.data }, { on := 18, ground := Ground.chain }, { on := 18, ground := Ground.guard }], guard := some (18, true) }) (v := undef) rfl (by kernel_rfl) (by kernel_rfl) (by kernel_rfl) (fun _ _ _ h => h) (Or.inr ⟨by rfl, rfl⟩) (by assumption) ?_
                      try simp only [Act.put, List.setIfInBounds_toArray, List.set_cons_zero, List.set_cons_succ]
                      refine wpAnyH_take (i := 22) (oi := { dst := some 71, op := Op.fieldAddr 76 (Operand.tmp 10) 0, type := 0, pos := "ref.go:166", after := #[{ on := 21, ground := Ground.guard }], guard := some (21, false) }) (v := undef) rfl (by kernel_rfl) (by kernel_rfl) (by kernel_rfl) (fun _ _ _ h => h) (Or.inr ⟨by rfl, rfl⟩) (by assumption) ?_
                      try simp only [Act.put, List.setIfInBounds_toArray, List.set_cons_zero, List.set_cons_succ]
                      refine wpAnyH_take (i := 23) (oi := { dst := some 72, op := Op.fieldAddr 68 (Operand.tmp 71) 3, type := 0, pos := "ref.go:166", after := #[{ on := 22, ground := Ground.data }, { on := 21, ground := Ground.guard }], guard := some (21, false) }) (v := undef) rfl (by kernel_rfl) (by kernel_rfl) (by kernel_rfl) (fun _ _ _ h => h) (Or.inr ⟨by rfl, rfl⟩) (by assumption) ?_
                      try simp only [Act.put, List.setIfInBounds_toArray, List.set_cons_zero, List.set_cons_succ]
                      refine wpAnyH_take (i := 24) (oi := { dst := some 73, op := Op.load 3 (Operand.tmp 72), type := 3, pos := "ref.go:166", after := #[{ on := 23, ground := Ground.data }, { on := 21, ground := Ground.guard }], guard := some (21, false) }) (v := undef) rfl (by kernel_rfl) (by kernel_rfl) (by kernel_rfl) (fun _ _ _ h => h) (Or.inr ⟨by rfl, rfl⟩) (by assumption) ?_
                      try simp only [Act.put, List.setIfInBounds_toArray, List.set_cons_zero, List.set_cons_succ]
                      refine wpAnyH_take (i := 25) (oi := { dst := some 74, op := Op.move (Operand.tmp 3), type := 86, pos := "ref.go:166", after := #[{ on := 21, ground := Ground.guard }], guard := some (21, false) }) (v := undef) rfl (by kernel_rfl) (by kernel_rfl) (by kernel_rfl) (fun _ _ _ h => h) (Or.inr ⟨by rfl, rfl⟩) (by assumption) ?_
                      try simp only [Act.put, List.setIfInBounds_toArray, List.set_cons_zero, List.set_cons_succ]
                      refine wpAnyH_take (i := 26) (oi := { dst := some 75, op := Op.move (Operand.tmp 8), type := 3, pos := "ref.go:166", after := #[{ on := 21, ground := Ground.guard }], guard := some (21, false) }) (v := undef) rfl (by kernel_rfl) (by kernel_rfl) (by kernel_rfl) (fun _ _ _ h => h) (Or.inr ⟨by rfl, rfl⟩) (by assumption) ?_
                      try simp only [Act.put, List.setIfInBounds_toArray, List.set_cons_zero, List.set_cons_succ]
                      refine wpAnyH_take (i := 27) (oi := { dst := some 76, op := Op.indexAddr 86 (Operand.tmp 74) (Operand.tmp 75), type := 0, pos := "ref.go:166", after := #[{ on := 25, ground := Ground.data }, { on := 26, ground := Ground.data }, { on := 21, ground := Ground.guard }], guard := some (21, false) }) (v := undef) rfl (by kernel_rfl) (by kernel_rfl) (by kernel_rfl) (fun _ _ _ h => h) (Or.inr ⟨by rfl, rfl⟩) (by assumption) ?_
                      try simp only [Act.put, List.setIfInBounds_toArray, List.set_cons_zero, List.set_cons_succ]
                      refine wpAnyH_take (i := 28) (oi := { dst := some 77, op := Op.fieldAddr 76 (Operand.tmp 76) 0, type := 0, pos := "ref.go:166", after := #[{ on := 27, ground := Ground.data }, { on := 21, ground := Ground.guard }], guard := some (21, false) }) (v := undef) rfl (by kernel_rfl) (by kernel_rfl) (by kernel_rfl) (fun _ _ _ h => h) (Or.inr ⟨by rfl, rfl⟩) (by assumption) ?_
                      try simp only [Act.put, List.setIfInBounds_toArray, List.set_cons_zero, List.set_cons_succ]
                      refine wpAnyH_take (i := 29) (oi := { dst := some 78, op := Op.fieldAddr 68 (Operand.tmp 77) 3, type := 0, pos := "ref.go:166", after := #[{ on := 28, ground := Ground.data }, { on := 21, ground := Ground.guard }], guard := some (21, false) }) (v := undef) rfl (by kernel_rfl) (by kernel_rfl) (by kernel_rfl) (fun _ _ _ h => h) (Or.inr ⟨by rfl, rfl⟩) (by assumption) ?_
                      try simp only [Act.put, List.setIfInBounds_toArray, List.set_cons_zero, List.set_cons_succ]
                      refine wpAnyH_take (i := 30) (oi := { dst := some 79, op := Op.load 3 (Operand.tmp 78), type := 3, pos := "ref.go:166", after := #[{ on := 29, ground := Ground.data }, { on := 21, ground := Ground.guard }], guard := some (21, false) }) (v := undef) rfl (by kernel_rfl) (by kernel_rfl) (by kernel_rfl) (fun _ _ _ h => h) (Or.inr ⟨by rfl, rfl⟩) (by assumption) ?_
                      try simp only [Act.put, List.setIfInBounds_toArray, List.set_cons_zero, List.set_cons_succ]
                      refine wpAnyH_take (i := 31) (oi := { dst := some 80, op := Op.binOp BinOp.gtr 3 (Operand.tmp 73) (Operand.tmp 79) 3, type := 4, pos := "ref.go:166", after := #[{ on := 24, ground := Ground.data }, { on := 30, ground := Ground.data }, { on := 21, ground := Ground.guard }], guard := some (21, false) }) (v := undef) rfl (by kernel_rfl) (by kernel_rfl) (by kernel_rfl) (fun _ _ _ h => h) (Or.inr ⟨by rfl, rfl⟩) (by assumption) ?_
                      try simp only [Act.put, List.setIfInBounds_toArray, List.set_cons_zero, List.set_cons_succ]
                      refine wpAnyH_take (i := 32) (oi := { dst := some 81, op := Op.pick (Operand.tmp 70) (Operand.const (Value.bool true)) (Operand.tmp 80), type := 4, pos := "ref.go:166", after := #[{ on := 21, ground := Ground.data }, { on := 31, ground := Ground.data }, { on := 18, ground := Ground.guard }], guard := some (18, true) }) (v := undef) rfl (by kernel_rfl) (by kernel_rfl) (by kernel_rfl) (fun _ _ _ h => h) (Or.inr ⟨by rfl, rfl⟩) (by assumption) ?_
                      try simp only [Act.put, List.setIfInBounds_toArray, List.set_cons_zero, List.set_cons_succ]
                      refine wpAnyH_ready (rs := [33]) (by kernel_rfl) (by simp) ?_
                      refine AllReadyH.cons (o := { dst := some 82, op := Op.pick (Operand.tmp 67) (Operand.tmp 81) (Operand.const (Value.bool false)), type := 4, pos := "ref.go:166", after := #[{ on := 18, ground := Ground.data }, { on := 32, ground := Ground.data }], guard := none }) rfl (fun K hK => ?_) AllReadyH.nil
                      go_simp
                      refine hK.out _ _ ?_ (fun hHeld2 => ?_)
                      · (try dsimp only); go_keep
                      clear hK K
                      try simp only [Act.put, List.setIfInBounds_toArray, List.set_cons_zero, List.set_cons_succ]
                      refine wpAnyH_done (by kernel_rfl) ?_ _
                      go_wp2
                      go_roundw
                      case rel => exact ⟨k + 1, by go_num, by rw [HN.out]; rfl, by omega, below_drew HB5.out⟩
                      case measure => simp [intOf]; omega
                  · cases hI : decide (y.f0.f3 < x.f0.f3)
                    · have HN := Lib.hid (show prevP l x (k + 1) = prev by rw [HST1.out, hA, hI]; rfl)
                      (cases prev <;> simp only [prevV])
                      all_goals
                        refine wp_region_held_drew (S := (fun w' => w'.cell? ⟨bo, 0, none⟩ = some (.int .i64 y.f0.f0) ∧ w'.cell? ⟨bo, 1, none⟩ = some (.int .i64 y.f0.f1.f0) ∧ w'.cell? ⟨bo, 2, none⟩ = some (.int .i64 y.f0.f1.f1) ∧ w'.cell? ⟨bo, 3, none⟩ = some (.int .i64 y.f0.f1.f2) ∧ w'.cell? ⟨bo, 4, none⟩ = some (.int .i64 y.f0.f1.f3) ∧ w'.cell? ⟨bo, 5, none⟩ = some (.bool y.f0.f1.f4) ∧ w'.cell? ⟨bo, 6, none⟩ = some (.bool y.f0.f1.f5) ∧ w'.cell? ⟨bo, 7, none⟩ = some (.int .i64 y.f0.f2) ∧ w'.cell? ⟨bo, 8, none⟩ = some (.int .i64 y.f0.f3) ∧ w'.cell? ⟨bo, 9, none⟩ = some (.int .i64 y.f1) ∧ w'.cell? ⟨bn, 0, none⟩ = some (.int .i64 x.f0.f0) ∧ w'.cell? ⟨bn, 1, none⟩ = some (.int .i64 x.f0.f1.f0) ∧ w'.cell? ⟨bn, 2, none⟩ = some (.int .i64 x.f0.f1.f1) ∧ w'.cell? ⟨bn, 3, none⟩ = some (.int .i64 x.f0.f1.f2) ∧ w'.cell? ⟨bn, 4, none⟩ = some (.int .i64 x.f0.f1.f3) ∧ w'.cell? ⟨bn, 5, none⟩ = some (.bool x.f0.f1.f4) ∧ w'.cell? ⟨bn, 6, none⟩ = some (.bool x.f0.f1.f5) ∧ w'.cell? ⟨bn, 7, none⟩ = some (.int .i64 x.f0.f2) ∧ w'.cell? ⟨bn, 8, none⟩ = some (.int .i64 x.f0.f3) ∧ w'.cell? ⟨bn, 9, none⟩ = some (.int .i64 x.f1))) (by kernel_rfl) ?_ (fun hHeld => ?_)
                        · (try dsimp only); go_keep
                        refine wpAnyH_take (i := 0) (oi := { dst := some 49, op := Op.fieldAddr 76 (Operand.tmp 10) 0, type := 0, pos := "ref.go:166", after := #[], guard := none }) (v := ?_) rfl (by kernel_rfl) (by kernel_rfl) (by kernel_rfl) (fun _ _ _ h => h) (Or.inl ⟨by rfl, ?_⟩) (by assumption) ?_
                        rotate_left
                        · intro w9 hSw; (try dsimp only at hSw); go_simp; try (with_reducible rfl)
                        try simp only [Act.put, List.setIfInBounds_toArray, List.set_cons_zero, List.set_cons_succ]
                        refine wpAnyH_take (i := 1) (oi := { dst := some 50, op := Op.fieldAddr 68 (Operand.tmp 49) 1, type := 0, pos := "ref.go:166", after := #[{ on := 0, ground := Ground.data }], guard := none }) (v := ?_) rfl (by kernel_rfl) (by kernel_rfl) (by kernel_rfl) (fun _ _ _ h => h) (Or.inl ⟨by rfl, ?_⟩) (by assumption) ?_
                        rotate_left
                        · intro w9 hSw; (try dsimp only at hSw); go_simp; try (with_reducible rfl)
                        try simp only [Act.put, List.setIfInBounds_toArray, List.set_cons_zero, List.set_cons_succ]
                        refine wpAnyH_take (i := 2) (oi := { dst := some 51, op := Op.fieldAddr 54 (Operand.tmp 50) 1, type := 0, pos := "ref.go:166", after := #[{ on := 1, ground := Ground.data }], guard := none }) (v := ?_) rfl (by kernel_rfl) (by kernel_rfl) (by kernel_rfl) (fun _ _ _ h => h) (Or.inl ⟨by rfl, ?_⟩) (by assumption) ?_
                        rotate_left
                        · intro w9 hSw; (try dsimp only at hSw); go_simp; try (with_reducible rfl)
                        try simp only [Act.put, List.setIfInBounds_toArray, List.set_cons_zero, List.set_cons_succ]
                        refine wpAnyH_take (i := 3) (oi := { dst := some 52, op := Op.load 3 (Operand.tmp 51), type := 3, pos := "ref.go:166", after := #[{ on := 2, ground := Ground.data }], guard := none }) (v := ?_) rfl (by kernel_rfl) (by kernel_rfl) (by kernel_rfl) (fun _ _ _ h => h) (Or.inl ⟨by rfl, ?_⟩) (by assumption) ?_
                        rotate_left
                        · intro w9 hSw; (try dsimp only at hSw); go_simp; try (with_reducible rfl)
                        try simp only [Act.put, List.setIfInBounds_toArray, List.set_cons_zero, List.set_cons_succ]
                        refine wpAnyH_take (i := 4) (oi := { dst := some 53, op := Op.fieldAddr 76 (Operand.tmp 7) 0, type := 0, pos := "ref.go:166", after := #[], guard := none }) (v := ?_) rfl (by kernel_rfl) (by kernel_rfl) (by kernel_rfl) (fun _ _ _ h => h) (Or.inl ⟨by rfl, ?_⟩) (by assumption) ?_
                        rotate_left
                        · intro w9 hSw; (try dsimp only at hSw); go_simp; try (with_reducible rfl)
                        try simp only [Act.put, List.setIfInBounds_toArray, List.set_cons_zero, List.set_cons_succ]
                        refine wpAnyH_take (i := 5) (oi := { dst := some 54, op := Op.fieldAddr 68 (Operand.tmp 53) 1, type := 0, pos := "ref.go:166", after := #[{ on := 4, ground := Ground.data }], guard := none }) (v := ?_) rfl (by kernel_rfl) (by kernel_rfl) (by kernel_rfl) (fun _ _ _ h => h) (Or.inl ⟨by rfl, ?_⟩) (by assumption) ?_
                        rotate_left
                        · intro w9 hSw; (try dsimp only at hSw); go_simp; try (with_reducible rfl)
                        try simp only [Act.put, List.setIfInBounds_toArray, List.set_cons_zero, List.set_cons_succ]
                        refine wpAnyH_take (i := 6) (oi := { dst := some 55, op := Op.fieldAddr 54 (Operand.tmp 54) 1, type := 0, pos := "ref.go:166", after := #[{ on := 5, ground := Ground.data }], guard := none }) (v := ?_) rfl (by kernel_rfl) (by kernel_rfl) (by kernel_rfl) (fun _ _ _ h => h) (Or.inl ⟨by rfl, ?_⟩) (by assumption) ?_
                        rotate_left
                        · intro w9 hSw; (try dsimp only at hSw); go_simp; try (with_reducible rfl)
                        try simp only [Act.put, List.setIfInBounds_toArray, List.set_cons_zero, List.set_cons_succ]
                        refine wpAnyH_take (i := 7) (oi := { dst := some 56, op := Op.load 3 (Operand.tmp 55), type := 3, pos := "ref.go:166", after := #[{ on := 6, ground := Ground.data }], guard := none }) (v := ?_) rfl (by kernel_rfl) (by kernel_rfl) (by kernel_rfl) (fun _ _ _ h => h) (Or.inl ⟨by rfl, ?_⟩) (by assumption) ?_
                        rotate_left
                        · intro w9 hSw; (try dsimp only at hSw); go_simp; try (with_reducible rfl)
                        try simp only [Act.put, List.setIfInBounds_toArray, List.set_cons_zero, List.set_cons_succ]
                        refine wpAnyH_take (i := 8) (oi := { dst := some 57, op := Op.binOp BinOp.eql 3 (Operand.tmp 52) (Operand.tmp 56) 3, type := 4, pos := "ref.go:166", after := #[{ on := 3, ground := Ground.data }, { on := 7, ground := Ground.data }], guard := none }) (v := ?_) rfl (by kernel_rfl) (by kernel_rfl) (by kernel_rfl) (fun _ _ _ h => h) (Or.inl ⟨by rfl, ?_⟩) (by assumption) ?_
                        rotate_left
                        · intro w9 hSw; (try dsimp only at hSw); go_simp; try (with_reducible rfl)
                        try simp only [Act.put, List.setIfInBounds_toArray, List.set_cons_zero, List.set_cons_succ]
                        refine wpAnyH_take (i := 9) (oi := { dst := some 58, op := Op.move (Operand.tmp 57), type := 4, pos := "ref.go:166", after := #[{ on := 8, ground := Ground.data }], guard := none }) (v := ?_) rfl (by kernel_rfl) (by kernel_rfl) (by kernel_rfl) (fun _ _ _ h => h) (Or.inl ⟨by rfl, ?_⟩) (by assumption) ?_
                        rotate_left
                        · intro w9 hSw; (try dsimp only at hSw); go_simp; try (with_reducible rfl)
                        try simp only [Act.put, List.setIfInBounds_toArray, List.set_cons_zero, List.set_cons_succ]
                        refine wpAnyH_take (i := 10) (oi := { dst := some 59, op := Op.fieldAddr 76 (Operand.tmp 10) 0, type := 0, pos := "ref.go:166", after := #[{ on := 9, ground := Ground.guard }], guard := some (9, true) }) (v := ?_) rfl (by kernel_rfl) (by kernel_rfl) (by kernel_rfl) (fun _ _ _ h => h) (Or.inl ⟨by rfl, ?_⟩) (by assumption) ?_
                        rotate_left
                        · intro w9 hSw; (try dsimp only at hSw); go_simp; try (with_reducible rfl)
                        try simp only [Act.put, List.setIfInBounds_toArray, List.set_cons_zero, List.set_cons_succ]
                        refine wpAnyH_take (i := 11) (oi := { dst := some 60, op := Op.fieldAddr 68 (Operand.tmp 59) 3, type := 0, pos := "ref.go:166", after := #[{ on := 10, ground := Ground.data }, { on := 9, ground := Ground.guard }], guard := some (9, true) }) (v := ?_) rfl (by kernel_rfl) (by kernel_rfl) (by kernel_rfl) (fun _ _ _ h => h) (Or.inl ⟨by rfl, ?_⟩) (by assumption) ?_
                        rotate_left
                        · intro w9 hSw; (try dsimp only at hSw); go_simp; try (with_reducible rfl)
                        try simp only [Act.put, List.setIfInBounds_toArray, List.set_cons_zero, List.set_cons_succ]
                        refine wpAnyH_take (i := 12) (oi := { dst := some 61, op := Op.load 3 (Operand.tmp 60), type := 3, pos := "ref.go:166", after := #[{ on := 11, ground := Ground.data }, { on := 9, ground := Ground.guard }], guard := some (9, true) }) (v := ?_) rfl (by kernel_rfl) (by kernel_rfl) (by kernel_rfl) (fun _ _ _ h => h) (Or.inl ⟨by rfl, ?_⟩) (by assumption) ?_
                        rotate_left
                        · intro w9 hSw; (try dsimp only at hSw); go_simp; try (with_reducible rfl)
                        try simp only [Act.put, List.setIfInBounds_toArray, List.set_cons_zero, List.set_cons_succ]
                        refine wpAnyH_take (i := 13) (oi := { dst := some 62, op := Op.fieldAddr 76 (Operand.tmp 7) 0, type := 0, pos := "ref.go:166", after := #[{ on := 9, ground := Ground.guard }], guard := some (9, true) }) (v := ?_) rfl (by kernel_rfl) (by kernel_rfl) (by kernel_rfl) (fun _ _ _ h => h) (Or.inl ⟨by rfl, ?_⟩) (by assumption) ?_
                        rotate_left
                        · intro w9 hSw; (try dsimp only at hSw); go_simp; try (with_reducible rfl)
                        try simp only [Act.put, List.setIfInBounds_toArray, List.set_cons_zero, List.set_cons_succ]
                        refine wpAnyH_take (i := 14) (oi := { dst := some 63, op := Op.fieldAddr 68 (Operand.tmp 62) 3, type := 0, pos := "ref.go:166", after := #[{ on := 13, ground := Ground.data }, { on := 9, ground := Ground.guard }], guard := some (9, true) }) (v := ?_) rfl (by kernel_rfl) (by kernel_rfl) (by kernel_rfl) (fun _ _ _ h => h) (Or.inl ⟨by rfl, ?_⟩) (by assumption) ?_
                        rotate_left
                        · intro w9 hSw; (try dsimp only at hSw); go_simp; try (with_reducible rfl)
                        try simp only [Act.put, List.setIfInBounds_toArray, List.set_cons_zero, List.set_cons_succ]
                        refine wpAnyH_take (i := 15) (oi := { dst := some 64, op := Op.load 3 (Operand.tmp 63), type := 3, pos := "ref.go:166", after := #[{ on := 14, ground := Ground.data }, { on := 9, ground := Ground.guard }], guard := some (9, true) }) (v := ?_) rfl (by kernel_rfl) (by kernel_rfl) (by kernel_rfl) (fun _ _ _ h => h) (Or.inl ⟨by rfl, ?_⟩) (by assumption) ?_
                        rotate_left
                        · intro w9 hSw; (try dsimp only at hSw); go_simp; try (with_reducible rfl)
                        try simp only [Act.put, List.setIfInBounds_toArray, List.set_cons_zero, List.set_cons_succ]
                        refine wpAnyH_take (i := 16) (oi := { dst := some 65, op := Op.binOp BinOp.lss 3 (Operand.tmp 61) (Operand.tmp 64) 3, type := 4, pos := "ref.go:166", after := #[{ on := 12, ground := Ground.data }, { on := 15, ground := Ground.data }, { on := 9, ground := Ground.guard }], guard := some (9, true) }) (v := ?_) rfl (by kernel_rfl) (by kernel_rfl) (by kernel_rfl) (fun _ _ _ h => h) (Or.inl ⟨by rfl, ?_⟩) (by assumption) ?_
                        rotate_left
                        · intro w9 hSw; (try dsimp only at hSw); go_simp; try (with_reducible rfl)
                        try simp only [Act.put, List.setIfInBounds_toArray, List.set_cons_zero, List.set_cons_succ]
                        refine wpAnyH_take (i := 17) (oi := { dst := some 66, op := Op.pick (Operand.tmp 58) (Operand.tmp 65) (Operand.const (Value.bool false)), type := 4, pos := "ref.go:166", after := #[{ on := 9, ground := Ground.data }, { on := 16, ground := Ground.data }], guard := none }) (v := ?_) rfl (by kernel_rfl) (by kernel_rfl) (by kernel_rfl) (fun _ _ _ h => h) (Or.inl ⟨by rfl, ?_⟩) (by assumption) ?_
                        rotate_left
                        · intro w9 hSw; (try dsimp only at hSw); go_simp; try (with_reducible rfl)
                        try simp only [Act.put, List.setIfInBounds_toArray, List.set_cons_zero, List.set_cons_succ]
                        refine wpAnyH_take (i := 18) (oi := { dst := some 67, op := Op.move (Operand.tmp 66), type := 4, pos := "ref.go:166", after := #[{ on := 17, ground := Ground.data }, { on := 9, ground := Ground.chain }], guard := none }) (v := ?_) rfl (by kernel_rfl) (by kernel_rfl) (by kernel_rfl) (fun _ _ _ h => h) (Or.inl ⟨by rfl, ?_⟩) (by assumption) ?_
                        rotate_left
                        · intro w9 hSw; (try dsimp only at hSw); go_simp; try (with_reducible rfl)
                        try simp only [Act.put, List.setIfInBounds_toArray, List.set_cons_zero, List.set_cons_succ]
                        refine wpAnyH_take (i := 19) (oi := { dst := some 68, op := Op.move (Operand.tmp 8), type := 3, pos := "ref.go:166", after := #[{ on := 18, ground := Ground.guard }], guard := some (18, true) }) (v := undef) rfl (by kernel_rfl) (by kernel_rfl) (by kernel_rfl) (fun _ _ _ h => h) (Or.inr ⟨by rfl, rfl⟩) (by assumption) ?_
                        try simp only [Act.put, List.setIfInBounds_toArray, List.set_cons_zero, List.set_cons_succ]
                        refine wpAnyH_take (i := 20) (oi := { dst := some 69, op := Op.binOp BinOp.lss 3 (Operand.tmp 68) (Operand.const (Value.int IntKind.i64 0)) 3, type := 4, pos := "ref.go:166", after := #[{ on := 19, ground := Ground.data }, { on := 18, ground := Ground.guard }], guard := some (18, true) }) (v := undef) rfl (by kernel_rfl) (by kernel_rfl) (by kernel_rfl) (fun _ _ _ h => h) (Or.inr ⟨by rfl, rfl⟩) (by assumption) ?_
                        try simp only [Act.put, List.setIfInBounds_toArray, List.set_cons_zero, List.set_cons_succ]
                        refine wpAnyH_take (i := 21) (oi := { dst := some 70, op := Op.move (Operand.tmp 69), type := 4, pos := "ref.go:166", after := #[{ on := 20, ground := Ground.data }, { on := 18, ground := Ground.chain }, { on := 18, ground := Ground.guard }], guard := some (18, true) }) (v := undef) rfl (by kernel_rfl) (by kernel_rfl) (by kernel_rfl) (fun _ _ _ h => h) (Or.inr ⟨by rfl, rfl⟩) (by assumption) ?_
                        try simp only [Act.put, List.setIfInBounds_toArray, List.set_cons_zero, List.set_cons_succ]
                        refine wpAnyH_take (i := 22) (oi := { dst := some 71, op := Op.fieldAddr 76 (Operand.tmp 10) 0, type := 0, pos := "ref.go:166", after := #[{ on := 21, ground := Ground.guard }], guard := some (21, false) }) (v := undef) rfl (by kernel_rfl) (by kernel_rfl) (by kernel_rfl) (fun _ _ _ h => h) (Or.inr ⟨by rfl, rfl⟩) (by assumption) ?_
                        try simp only [Act.put, List.setIfInBounds_toArray, List.set_cons_zero, List.set_cons_succ]
                        refine wpAnyH_take (i := 23) (oi := { dst := some 72, op := Op.fieldAddr 68 (Operand.tmp 71) 3, type := 0, pos := "ref.go:166", after := #[{ on := 22, ground := Ground.data }, { on := 21, ground := Ground.guard }], guard := some (21, false) }) (v := undef) rfl (by kernel_rfl) (by kernel_rfl) (by kernel_rfl) (fun _ _ _ h => h) (Or.inr ⟨by rfl, rfl⟩) (by assumption) ?_
                        try simp only [Act.put, List.setIfInBounds_toArray, List.set_cons_zero, List.set_cons_succ]
                        refine wpAnyH_take (i := 24) (oi := { dst := some 73, op := Op.load 3 (Operand.tmp 72), type := 3, pos := "ref.go:166", after := #[{ on := 23, ground := Ground.data }, { on := 21, ground := Ground.guard }], guard := some (21, false) }) (v := undef) rfl (by kernel_rfl) (by kernel_rfl) (by kernel_rfl) (fun _ _ _ h => h) (Or.inr ⟨by rfl, rfl⟩) (by assumption) ?_
                        try simp only [Act.put, List.setIfInBounds_toArray, List.set_cons_zero, List.set_cons_succ]
                        refine wpAnyH_take (i := 25) (oi := { dst := some 74, op := Op.move (Operand.tmp 3), type := 86, pos := "ref.go:166", after := #[{ on := 21, ground := Ground.guard }], guard := some (21, false) }) (v := undef) rfl (by kernel_rfl) (by kernel_rfl) (by kernel_rfl) (fun _ _ _ h => h) (Or.inr ⟨by rfl, rfl⟩) (by assumption) ?_
                        try simp only [Act.put, List.setIfInBounds_toArray, List.set_cons_zero, List.set_cons_succ]
                        refine wpAnyH_take (i := 26) (oi := { dst := some 75, op := Op.move (Operand.tmp 8), type := 3, pos := "ref.go:166", after := #[{ on := 21, ground := Ground.guard }], guard := some (21, false) }) (v := undef) rfl (by kernel_rfl) (by kernel_rfl) (by kernel_rfl) (fun _ _ _ h => h) (Or.inr ⟨by rfl, rfl⟩) (by assumption) ?_
                        try simp only [Act.put, List.setIfInBounds_toArray, List.set_cons_zero, List.set_cons_succ]
                        refine wpAnyH_take (i := 27) (oi := { dst := some 76, op := Op.indexAddr 86 (Operand.tmp 74) (Operand.tmp 75), type := 0, pos := "ref.go:166", after := #[{ on := 25, ground := Ground.data }, { on := 26, ground := Ground.data }, { on := 21, ground := Ground.guard }], guard := some (21, false) }) (v := undef) rfl (by kernel_rfl) (by kernel_rfl) (by kernel_rfl) (fun _ _ _ h => h) (Or.inr ⟨by rfl, rfl⟩) (by assumption) ?_
                        try simp only [Act.put, List.setIfInBounds_toArray, List.set_cons_zero, List.set_cons_succ]
                        refine wpAnyH_take (i := 28) (oi := { dst := some 77, op := Op.fieldAddr 76 (Operand.tmp 76) 0, type := 0, pos := "ref.go:166", after := #[{ on := 27, ground := Ground.data }, { on := 21, ground := Ground.guard }], guard := some (21, false) }) (v := undef) rfl (by kernel_rfl) (by kernel_rfl) (by kernel_rfl) (fun _ _ _ h => h) (Or.inr ⟨by rfl, rfl⟩) (by assumption) ?_
                        try simp only [Act.put, List.setIfInBounds_toArray, List.set_cons_zero, List.set_cons_succ]
                        refine wpAnyH_take (i := 29) (oi := { dst := some 78, op := Op.fieldAddr 68 (Operand.tmp 77) 3, type := 0, pos := "ref.go:166", after := #[{ on := 28, ground := Ground.data }, { on := 21, ground := Ground.guard }], guard := some (21, false) }) (v := undef) rfl (by kernel_rfl) (by kernel_rfl) (by kernel_rfl) (fun _ _ _ h => h) (Or.inr ⟨by rfl, rfl⟩) (by assumption) ?_
                        try simp only [Act.put, List.setIfInBounds_toArray, List.set_cons_zero, List.set_cons_succ]
                        refine wpAnyH_take (i := 30) (oi := { dst := some 79, op := Op.load 3 (Operand.tmp 78), type := 3, pos := "ref.go:166", after := #[{ on := 29, ground := Ground.data }, { on := 21, ground := Ground.guard }], guard := some (21, false) }) (v := undef) rfl (by kernel_rfl) (by kernel_rfl) (by kernel_rfl) (fun _ _ _ h => h) (Or.inr ⟨by rfl, rfl⟩) (by assumption) ?_
                        try simp only [Act.put, List.setIfInBounds_toArray, List.set_cons_zero, List.set_cons_succ]
                        refine wpAnyH_take (i := 31) (oi := { dst := some 80, op := Op.binOp BinOp.gtr 3 (Operand.tmp 73) (Operand.tmp 79) 3, type := 4, pos := "ref.go:166", after := #[{ on := 24, ground := Ground.data }, { on := 30, ground := Ground.data }, { on := 21, ground := Ground.guard }], guard := some (21, false) }) (v := undef) rfl (by kernel_rfl) (by kernel_rfl) (by kernel_rfl) (fun _ _ _ h => h) (Or.inr ⟨by rfl, rfl⟩) (by assumption) ?_
                        try simp only [Act.put, List.setIfInBounds_toArray, List.set_cons_zero, List.set_cons_succ]
                        refine wpAnyH_take (i := 32) (oi := { dst := some 81, op := Op.pick (Operand.tmp 70) (Operand.const (Value.bool true)) (Operand.tmp 80), type := 4, pos := "ref.go:166", after := #[{ on := 21, ground := Ground.data }, { on := 31, ground := Ground.data }, { on := 18, ground := Ground.guard }], guard := some (18, true) }) (v := undef) rfl (by kernel_rfl) (by kernel_rfl) (by kernel_rfl) (fun _ _ _ h => h) (Or.inr ⟨by rfl, rfl⟩) (by assumption) ?_
                        try simp only [Act.put, List.setIfInBounds_toArray, List.set_cons_zero, List.set_cons_succ]
                        refine wpAnyH_ready (rs := [33]) (by kernel_rfl) (by simp) ?_
                        refine AllReadyH.cons (o := { dst := some 82, op := Op.pick (Operand.tmp 67) (Operand.tmp 81) (Operand.const (Value.bool false)), type := 4, pos := "ref.go:166", after := #[{ on := 18, ground := Ground.data }, { on := 32, ground := Ground.data }], guard := none }) rfl (fun K hK => ?_) AllReadyH.nil
                        go_simp
                        refine hK.out _ _ ?_ (fun hHeld2 => ?_)
                        · (try dsimp only); go_keep
                        clear hK K
                        try simp only [Act.put, List.setIfInBounds_toArray, List.set_cons_zero, List.set_cons_succ]
                        refine wpAnyH_done (by kernel_rfl) ?_ _
                        go_wp2
                        go_roundw
                        case rel => exact ⟨k + 1, by go_num, by rw [HN.out]; rfl, by omega, below_drew HB5.out⟩
                        case measure => simp [intOf]; omega
                    · cases prev with
                      | none =>
                        have HN := Lib.hid (show prevP l x (k + 1) = some k by rw [HST1.out, hA, hI]; rfl)
                        simp only [prevV]
                        refine wp_region_held_drew (S := (fun w' => w'.cell? ⟨bo, 0, none⟩ = some (.int .i64 y.f0.f0) ∧ w'.cell? ⟨bo, 1, none⟩ = some (.int .i64 y.f0.f1.f0) ∧ w'.cell? ⟨bo, 2, none⟩ = some (.int .i64 y.f0.f1.f1) ∧ w'.cell? ⟨bo, 3, none⟩ = some (.int .i64 y.f0.f1.f2) ∧ w'.cell? ⟨bo, 4, none⟩ = some (.int .i64 y.f0.f1.f3) ∧ w'.cell? ⟨bo, 5, none⟩ = some (.bool y.f0.f1.f4) ∧ w'.cell? ⟨bo, 6, none⟩ = some (.bool y.f0.f1.f5) ∧ w'.cell? ⟨bo, 7, none⟩ = some (.int .i64 y.f0.f2) ∧ w'.cell? ⟨bo, 8, none⟩ = some (.int .i64 y.f0.f3) ∧ w'.cell? ⟨bo, 9, none⟩ = some (.int .i64 y.f1) ∧ w'.cell? ⟨bn, 0, none⟩ = some (.int .i64 x.f0.f0) ∧ w'.cell? ⟨bn, 1, none⟩ = some (.int .i64 x.f0.f1.f0) ∧ w'.cell? ⟨bn, 2, none⟩ = some (.int .i64 x.f0.f1.f1) ∧ w'.cell? ⟨bn, 3, none⟩ = some (.int .i64 x.f0.f1.f2) ∧ w'.cell? ⟨bn, 4, none⟩ = some (.int .i64 x.f0.f1.f3) ∧ w'.cell? ⟨bn, 5, none⟩ = some (.bool x.f0.f1.f4) ∧ w'.cell? ⟨bn, 6, none⟩ = some (.bool x.f0.f1.f5) ∧ w'.cell? ⟨bn, 7, none⟩ = some (.int .i64 x.f0.f2) ∧ w'.cell? ⟨bn, 8, none⟩ = some (.int .i64 x.f0.f3) ∧ w'.cell? ⟨bn, 9, none⟩ = some (.int .i64 x.f1))) (by kernel_rfl) ?_ (fun hHeld => ?_)
                        · (try dsimp only); go_keep
                        refine wpAnyH_take (i := 0) (oi := { dst := some 49, op := Op.fieldAddr 76 (Operand.tmp 10) 0, type := 0, pos := "ref.go:166", after := #[], guard := none }) (v := ?_) rfl (by kernel_rfl) (by kernel_rfl) (by kernel_rfl) (fun _ _ _ h => h) (Or.inl ⟨by rfl, ?_⟩) (by assumption) ?_
                        rotate_left
                        · intro w9 hSw; (try dsimp only at hSw); go_simp; try (with_reducible rfl)
                        try simp only [Act.put, List.setIfInBounds_toArray, List.set_cons_zero, List.set_cons_succ]
                        refine wpAnyH_take (i := 1) (oi := { dst := some 50, op := Op.fieldAddr 68 (Operand.tmp 49) 1, type := 0, pos := "ref.go:166", after := #[{ on := 0, ground := Ground.data }], guard := none }) (v := ?_) rfl (by kernel_rfl) (by kernel_rfl) (by kernel_rfl) (fun _ _ _ h => h) (Or.inl ⟨by rfl, ?_⟩) (by assumption) ?_
                        rotate_left
                        · intro w9 hSw; (try dsimp only at hSw); go_simp; try (with_reducible rfl)
                        try simp only [Act.put, List.setIfInBounds_toArray, List.set_cons_zero, List.set_cons_succ]
                        refine wpAnyH_take (i := 2) (oi := { dst := some 51, op := Op.fieldAddr 54 (Operand.tmp 50) 1, type := 0, pos := "ref.go:166", after := #[{ on := 1, ground := Ground.data }], guard := none }) (v := ?_) rfl (by kernel_rfl) (by kernel_rfl) (by kernel_rfl) (fun _ _ _ h => h) (Or.inl ⟨by rfl, ?_⟩) (by assumption) ?_
                        rotate_left
                        · intro w9 hSw; (try dsimp only at hSw); go_simp; try (with_reducible rfl)
                        try simp only [Act.put, List.setIfInBounds_toArray, List.set_cons_zero, List.set_cons_succ]
                        refine wpAnyH_take (i := 3) (oi := { dst := some 52, op := Op.load 3 (Operand.tmp 51), type := 3, pos := "ref.go:166", after := #[{ on := 2, ground := Ground.data }], guard := none }) (v := ?_) rfl (by kernel_rfl) (by kernel_rfl) (by kernel_rfl) (fun _ _ _ h => h) (Or.inl ⟨by rfl, ?_⟩) (by assumption) ?_
                        rotate_left
                        · intro w9 hSw; (try dsimp only at hSw); go_simp; try (with_reducible rfl)
                        try simp only [Act.put, List.setIfInBounds_toArray, List.set_cons_zero, List.set_cons_succ]
                        refine wpAnyH_take (i := 4) (oi := { dst := some 53, op := Op.fieldAddr 76 (Operand.tmp 7) 0, type := 0, pos := "ref.go:166", after := #[], guard := none }) (v := ?_) rfl (by kernel_rfl) (by kernel_rfl) (by kernel_rfl) (fun _ _ _ h => h) (Or.inl ⟨by rfl, ?_⟩) (by assumption) ?_
                        rotate_left
                        · intro w9 hSw; (try dsimp only at hSw); go_simp; try (with_reducible rfl)
                        try simp only [Act.put, List.setIfInBounds_toArray, List.set_cons_zero, List.set_cons_succ]
                        refine wpAnyH_take (i := 5) (oi := { dst := some 54, op := Op.fieldAddr 68 (Operand.tmp 53) 1, type := 0, pos := "ref.go:166", after := #[{ on := 4, ground := Ground.data }], guard := none }) (v := ?_) rfl (by kernel_rfl) (by kernel_rfl) (by kernel_rfl) (fun _ _ _ h => h) (Or.inl ⟨by rfl, ?_⟩) (by assumption) ?_
                        rotate_left
                        · intro w9 hSw; (try dsimp only at hSw); go_simp; try (with_reducible rfl)
                        try simp only [Act.put, List.setIfInBounds_toArray, List.set_cons_zero, List.set_cons_succ]
                        refine wpAnyH_take (i := 6) (oi := { dst := some 55, op := Op.fieldAddr 54 (Operand.tmp 54) 1, type := 0, pos := "ref.go:166", after := #[{ on := 5, ground := Ground.data }], guard := none }) (v := ?_) rfl (by kernel_rfl) (by kernel_rfl) (by kernel_rfl) (fun _ _ _ h => h) (Or.inl ⟨by rfl, ?_⟩) (by assumption) ?_
                        rotate_left
                        · intro w9 hSw; (try dsimp only at hSw); go_simp; try (with_reducible rfl)
                        try simp only [Act.put, List.setIfInBounds_toArray, List.set_cons_zero, List.set_cons_succ]
                        refine wpAnyH_take (i := 7) (oi := { dst := some 56, op := Op.load 3 (Operand.tmp 55), type := 3, pos := "ref.go:166", after := #[{ on := 6, ground := Ground.data }], guard := none }) (v := ?_) rfl (by kernel_rfl) (by kernel_rfl) (by kernel_rfl) (fun _ _ _ h => h) (Or.inl ⟨by rfl, ?_⟩) (by assumption) ?_
                        rotate_left
                        · intro w9 hSw; (try dsimp only at hSw); go_simp; try (with_reducible rfl)
                        try simp only [Act.put, List.setIfInBounds_toArray, List.set_cons_zero, List.set_cons_succ]
                        refine wpAnyH_take (i := 8) (oi := { dst := some 57, op := Op.binOp BinOp.eql 3 (Operand.tmp 52) (Operand.tmp 56) 3, type := 4, pos := "ref.go:166", after := #[{ on := 3, ground := Ground.data }, { on := 7, ground := Ground.data }], guard := none }) (v := ?_) rfl (by kernel_rfl) (by kernel_rfl) (by kernel_rfl) (fun _ _ _ h => h) (Or.inl ⟨by rfl, ?_⟩) (by assumption) ?_
                        rotate_left
                        · intro w9 hSw; (try dsimp only at hSw); go_simp; try (with_reducible rfl)
                        try simp only [Act.put, List.setIfInBounds_toArray, List.set_cons_zero, List.set_cons_succ]
                        refine wpAnyH_take (i := 9) (oi := { dst := some 58, op := Op.move (Operand.tmp 57), type := 4, pos := "ref.go:166", after := #[{ on := 8, ground := Ground.data }], guard := none }) (v := ?_) rfl (by kernel_rfl) (by kernel_rfl) (by kernel_rfl) (fun _ _ _ h => h) (Or.inl ⟨by rfl, ?_⟩) (by assumption) ?_
                        rotate_left
                        · intro w9 hSw; (try dsimp only at hSw); go_simp; try (with_reducible rfl)
                        try simp only [Act.put, List.setIfInBounds_toArray, List.set_cons_zero, List.set_cons_succ]
                        refine wpAnyH_take (i := 10) (oi := { dst := some 59, op := Op.fieldAddr 76 (Operand.tmp 10) 0, type := 0, pos := "ref.go:166", after := #[{ on := 9, ground := Ground.guard }], guard := some (9, true) }) (v := ?_) rfl (by kernel_rfl) (by kernel_rfl) (by kernel_rfl) (fun _ _ _ h => h) (Or.inl ⟨by rfl, ?_⟩) (by assumption) ?_
                        rotate_left
                        · intro w9 hSw; (try dsimp only at hSw); go_simp; try (with_reducible rfl)
                        try simp only [Act.put, List.setIfInBounds_toArray, List.set_cons_zero, List.set_cons_succ]
                        refine wpAnyH_take (i := 11) (oi := { dst := some 60, op := Op.fieldAddr 68 (Operand.tmp 59) 3, type := 0, pos := "ref.go:166", after := #[{ on := 10, ground := Ground.data }, { on := 9, ground := Ground.guard }], guard := some (9, true) }) (v := ?_) rfl (by kernel_rfl) (by kernel_rfl) (by kernel_rfl) (fun _ _ _ h => h) (Or.inl ⟨by rfl, ?_⟩) (by assumption) ?_
                        rotate_left
                        · intro w9 hSw; (try dsimp only at hSw); go_simp; try (with_reducible rfl)
                        try simp only [Act.put, List.setIfInBounds_toArray, List.set_cons_zero, List.set_cons_succ]
                        refine wpAnyH_take (i := 12) (oi := { dst := some 61, op := Op.load 3 (Operand.tmp 60), type := 3, pos := "ref.go:166", after := #[{ on := 11, ground := Ground.data }, { on := 9, ground := Ground.guard }], guard := some (9, true) }) (v := ?_) rfl (by kernel_rfl) (by kernel_rfl) (by kernel_rfl) (fun _ _ _ h => h) (Or.inl ⟨by rfl, ?_⟩) (by assumption) ?_
                        rotate_left
                        · intro w9 hSw; (try dsimp only at hSw); go_simp; try (with_reducible rfl)
                        try simp only [Act.put, List.setIfInBounds_toArray, List.set_cons_zero, List.set_cons_succ]
                        refine wpAnyH_take (i := 13) (oi := { dst := some 62, op := Op.fieldAddr 76 (Operand.tmp 7) 0, type := 0, pos := "ref.go:166", after := #[{ on := 9, ground := Ground.guard }], guard := some (9, true) }) (v := ?_) rfl (by kernel_rfl) (by kernel_rfl) (by kernel_rfl) (fun _ _ _ h => h) (Or.inl ⟨by rfl, ?_⟩) (by assumption) ?_
                        rotate_left
                        · intro w9 hSw; (try dsimp only at hSw); go_simp; try (with_reducible rfl)
                        try simp only [Act.put, List.setIfInBounds_toArray, List.set_cons_zero, List.set_cons_succ]
                        refine wpAnyH_take (i := 14) (oi := { dst := some 63, op := Op.fieldAddr 68 (Operand.tmp 62) 3, type := 0, pos := "ref.go:166", after := #[{ on := 13, ground := Ground.data }, { on := 9, ground := Ground.guard }], guard := some (9, true) }) (v := ?_) rfl (by kernel_rfl) (by kernel_rfl) (by kernel_rfl) (fun _ _ _ h => h) (Or.inl ⟨by rfl, ?_⟩) (by assumption) ?_
                        rotate_left
                        · intro w9 hSw; (try dsimp only at hSw); go_simp; try (with_reducible rfl)
                        try simp only [Act.put, List.setIfInBounds_toArray, List.set_cons_zero, List.set_cons_succ]
                        refine wpAnyH_take (i := 15) (oi := { dst := some 64, op := Op.load 3 (Operand.tmp 63), type := 3, pos := "ref.go:166", after := #[{ on := 14, ground := Ground.data }, { on := 9, ground := Ground.guard }], guard := some (9, true) }) (v := ?_) rfl (by kernel_rfl) (by kernel_rfl) (by kernel_rfl) (fun _ _ _ h => h) (Or.inl ⟨by rfl, ?_⟩) (by assumption) ?_
                        rotate_left
                        · intro w9 hSw; (try dsimp only at hSw); go_simp; try (with_reducible rfl)
                        try simp only [Act.put, List.setIfInBounds_toArray, List.set_cons_zero, List.set_cons_succ]
                        refine wpAnyH_take (i := 16) (oi := { dst := some 65, op := Op.binOp BinOp.lss 3 (Operand.tmp 61) (Operand.tmp 64) 3, type := 4, pos := "ref.go:166", after := #[{ on := 12, ground := Ground.data }, { on := 15, ground := Ground.data }, { on := 9, ground := Ground.guard }], guard := some (9, true) }) (v := ?_) rfl (by kernel_rfl) (by kernel_rfl) (by kernel_rfl) (fun _ _ _ h => h) (Or.inl ⟨by rfl, ?_⟩) (by assumption) ?_
                        rotate_left
                        · intro w9 hSw; (try dsimp only at hSw); go_simp; try (with_reducible rfl)
                        try simp only [Act.put, List.setIfInBounds_toArray, List.set_cons_zero, List.set_cons_succ]
                        refine wpAnyH_take (i := 17) (oi := { dst := some 66, op := Op.pick (Operand.tmp 58) (Operand.tmp 65) (Operand.const (Value.bool false)), type := 4, pos := "ref.go:166", after := #[{ on := 9, ground := Ground.data }, { on := 16, ground := Ground.data }], guard := none }) (v := ?_) rfl (by kernel_rfl) (by kernel_rfl) (by kernel_rfl) (fun _ _ _ h => h) (Or.inl ⟨by rfl, ?_⟩) (by assumption) ?_
                        rotate_left
                        · intro w9 hSw; (try dsimp only at hSw); go_simp; try (with_reducible rfl)
                        try simp only [Act.put, List.setIfInBounds_toArray, List.set_cons_zero, List.set_cons_succ]
                        refine wpAnyH_take (i := 18) (oi := { dst := some 67, op := Op.move (Operand.tmp 66), type := 4, pos := "ref.go:166", after := #[{ on := 17, ground := Ground.data }, { on := 9, ground := Ground.chain }], guard := none }) (v := ?_) rfl (by kernel_rfl) (by kernel_rfl) (by kernel_rfl) (fun _ _ _ h => h) (Or.inl ⟨by rfl, ?_⟩) (by assumption) ?_
                        rotate_left
                        · intro w9 hSw; (try dsimp only at hSw); go_simp; try (with_reducible rfl)
                        try simp only [Act.put, List.setIfInBounds_toArray, List.set_cons_zero, List.set_cons_succ]
                        refine wpAnyH_take (i := 19) (oi := { dst := some 68, op := Op.move (Operand.tmp 8), type := 3, pos := "ref.go:166", after := #[{ on := 18, ground := Ground.guard }], guard := some (18, true) }) (v := ?_) rfl (by kernel_rfl) (by kernel_rfl) (by kernel_rfl) (fun _ _ _ h => h) (Or.inl ⟨by rfl, ?_⟩) (by assumption) ?_
                        rotate_left
                        · intro w9 hSw; (try dsimp only at hSw); go_simp; try (with_reducible rfl)
                        try simp only [Act.put, List.setIfInBounds_toArray, List.set_cons_zero, List.set_cons_succ]
                        refine wpAnyH_take (i := 20) (oi := { dst := some 69, op := Op.binOp BinOp.lss 3 (Operand.tmp 68) (Operand.const (Value.int IntKind.i64 0)) 3, type := 4, pos := "ref.go:166", after := #[{ on := 19, ground := Ground.data }, { on := 18, ground := Ground.guard }], guard := some (18, true) }) (v := ?_) rfl (by kernel_rfl) (by kernel_rfl) (by kernel_rfl) (fun _ _ _ h => h) (Or.inl ⟨by rfl, ?_⟩) (by assumption) ?_
                        rotate_left
                        · intro w9 hSw; (try dsimp only at hSw); go_simp; try (with_reducible rfl)
                        try simp only [Act.put, List.setIfInBounds_toArray, List.set_cons_zero, List.set_cons_succ]
                        refine wpAnyH_take (i := 21) (oi := { dst := some 70, op := Op.move (Operand.tmp 69), type := 4, pos := "ref.go:166", after := #[{ on := 20, ground := Ground.data }, { on := 18, ground := Ground.chain }, { on := 18, ground := Ground.guard }], guard := some (18, true) }) (v := ?_) rfl (by kernel_rfl) (by kernel_rfl) (by kernel_rfl) (fun _ _ _ h => h) (Or.inl ⟨by rfl, ?_⟩) (by assumption) ?_
                        rotate_left
                        · intro w9 hSw; (try dsimp only at hSw); go_simp; try (with_reducible rfl)
                        try simp only [Act.put, List.setIfInBounds_toArray, List.set_cons_zero, List.set_cons_succ]
                        refine wpAnyH_take (i := 22) (oi := { dst := some 71, op := Op.fieldAddr 76 (Operand.tmp 10) 0, type := 0, pos := "ref.go:166", after := #[{ on := 21, ground := Ground.guard }], guard := some (21, false) }) (v := undef) rfl (by kernel_rfl) (by kernel_rfl) (by kernel_rfl) (fun _ _ _ h => h) (Or.inr ⟨by rfl, rfl⟩) (by assumption) ?_
                        try simp only [Act.put, List.setIfInBounds_toArray, List.set_cons_zero, List.set_cons_succ]
                        refine wpAnyH_take (i := 23) (oi := { dst := some 72, op := Op.fieldAddr 68 (Operand.tmp 71) 3, type := 0, pos := "ref.go:166", after := #[{ on := 22, ground := Ground.data }, { on := 21, ground := Ground.guard }], guard := some (21, false) }) (v := undef) rfl (by kernel_rfl) (by kernel_rfl) (by kernel_rfl) (fun _ _ _ h => h) (Or.inr ⟨by rfl, rfl⟩) (by assumption) ?_
                        try simp only [Act.put, List.setIfInBounds_toArray, List.set_cons_zero, List.set_cons_succ]
                        refine wpAnyH_take (i := 24) (oi := { dst := some 73, op := Op.load 3 (Operand.tmp 72), type := 3, pos := "ref.go:166", after := #[{ on := 23, ground := Ground.data }, { on := 21, ground := Ground.guard }], guard := some (21, false) }) (v := undef) rfl (by kernel_rfl) (by kernel_rfl) (by kernel_rfl) (fun _ _ _ h => h) (Or.inr ⟨by rfl, rfl⟩) (by assumption) ?_
                        try simp only [Act.put, List.setIfInBounds_toArray, List.set_cons_zero, List.set_cons_succ]
                        refine wpAnyH_take (i := 25) (oi := { dst := some 74, op := Op.move (Operand.tmp 3), type := 86, pos := "ref.go:166", after := #[{ on := 21, ground := Ground.guard }], guard := some (21, false) }) (v := undef) rfl (by kernel_rfl) (by kernel_rfl) (by kernel_rfl) (fun _ _ _ h => h) (Or.inr ⟨by rfl, rfl⟩) (by assumption) ?_
                        try simp only [Act.put, List.setIfInBounds_toArray, List.set_cons_zero, List.set_cons_succ]
                        refine wpAnyH_take (i := 26) (oi := { dst := some 75, op := Op.move (Operand.tmp 8), type := 3, pos := "ref.go:166", after := #[{ on := 21, ground := Ground.guard }], guard := some (21, false) }) (v := undef) rfl (by kernel_rfl) (by kernel_rfl) (by kernel_rfl) (fun _ _ _ h => h) (Or.inr ⟨by rfl, rfl⟩) (by assumption) ?_
                        try simp only [Act.put, List.setIfInBounds_toArray, List.set_cons_zero, List.set_cons_succ]
                        refine wpAnyH_take (i := 27) (oi := { dst := some 76, op := Op.indexAddr 86 (Operand.tmp 74) (Operand.tmp 75), type := 0, pos := "ref.go:166", after := #[{ on := 25, ground := Ground.data }, { on := 26, ground := Ground.data }, { on := 21, ground := Ground.guard }], guard := some (21, false) }) (v := undef) rfl (by kernel_rfl) (by kernel_rfl) (by kernel_rfl) (fun _ _ _ h => h) (Or.inr ⟨by rfl, rfl⟩) (by assumption) ?_
                        try simp only [Act.put, List.setIfInBounds_toArray, List.set_cons_zero, List.set_cons_succ]
                        refine wpAnyH_take (i := 28) (oi := { dst := some 77, op := Op.fieldAddr 76 (Operand.tmp 76) 0, type := 0, pos := "ref.go:166", after := #[{ on := 27, ground := Ground.data }, { on := 21, ground := Ground.guard }], guard := some (21, false) }) (v := undef) rfl (by kernel_rfl) (by kernel_rfl) (by kernel_rfl) (fun _ _ _ h => h) (Or.inr ⟨by rfl, rfl⟩) (by assumption) ?_
                        try simp only [Act.put, List.setIfInBounds_toArray, List.set_cons_zero, List.set_cons_succ]
                        refine wpAnyH_take (i := 29) (oi := { dst := some 78, op := Op.fieldAddr 68 (Operand.tmp 77) 3, type := 0, pos := "ref.go:166", after := #[{ on := 28, ground := Ground.data }, { on := 21, ground := Ground.guard }], guard := some (21, false) }) (v := undef) rfl (by kernel_rfl) (by kernel_rfl) (by kernel_rfl) (fun _ _ _ h => h) (Or.inr ⟨by rfl, rfl⟩) (by assumption) ?_
                        try simp only [Act.put, List.setIfInBounds_toArray, List.set_cons_zero, List.set_cons_succ]
                        refine wpAnyH_take (i := 30) (oi := { dst := some 79, op := Op.load 3 (Operand.tmp 78), type := 3, pos := "ref.go:166", after := #[{ on := 29, ground := Ground.data }, { on := 21, ground := Ground.guard }], guard := some (21, false) }) (v := undef) rfl (by kernel_rfl) (by kernel_rfl) (by kernel_rfl) (fun _ _ _ h => h) (Or.inr ⟨by rfl, rfl⟩) (by assumption) ?_
                        try simp only [Act.put, List.setIfInBounds_toArray, List.set_cons_zero, List.set_cons_succ]
                        refine wpAnyH_take (i := 31) (oi := { dst := some 80, op := Op.binOp BinOp.gtr 3 (Operand.tmp 73) (Operand.tmp 79) 3, type := 4, pos := "ref.go:166", after := #[{ on := 24, ground := Ground.data }, { on := 30, ground := Ground.data }, { on := 21, ground := Ground.guard }], guard := some (21, false) }) (v := undef) rfl (by kernel_rfl) (by kernel_rfl) (by kernel_rfl) (fun _ _ _ h => h) (Or.inr ⟨by rfl, rfl⟩) (by assumption) ?_
                        try simp only [Act.put, List.setIfInBounds_toArray, List.set_cons_zero, List.set_cons_succ]
                        refine wpAnyH_take (i := 32) (oi := { dst := some 81, op := Op.pick (Operand.tmp 70) (Operand.const (Value.bool true)) (Operand.tmp 80), type := 4, pos := "ref.go:166", after := #[{ on := 21, ground := Ground.data }, { on := 31, ground := Ground.data }, { on := 18, ground := Ground.guard }], guard := some (18, true) }) (v := ?_) rfl (by kernel_rfl) (by kernel_rfl) (by kernel_rfl) (fun _ _ _ h => h) (Or.inl ⟨by rfl, ?_⟩) (by assumption) ?_
                        rotate_left
                        · intro w9 hSw; (try dsimp only at hSw); go_simp; try (with_reducible rfl)
                        try simp only [Act.put, List.setIfInBounds_toArray, List.set_cons_zero, List.set_cons_succ]
                        refine wpAnyH_ready (rs := [33]) (by kernel_rfl) (by simp) ?_
                        refine AllReadyH.cons (o := { dst := some 82, op := Op.pick (Operand.tmp 67) (Operand.tmp 81) (Operand.const (Value.bool false)), type := 4, pos := "ref.go:166", after := #[{ on := 18, ground := Ground.data }, { on := 32, ground := Ground.data }], guard := none }) rfl (fun K hK => ?_) AllReadyH.nil
                        go_simp
                        refine hK.out _ _ ?_ (fun hHeld2 => ?_)
                        · (try dsimp only); go_keep
                        clear hK K
                        try simp only [Act.put, List.setIfInBounds_toArray, List.set_cons_zero, List.set_cons_succ]
                        refine wpAnyH_done (by kernel_rfl) ?_ _
                        go_wp2
                        go_roundw
                        case rel => exact ⟨k + 1, by go_num, by rw [HN.out]; rfl, by omega, below_drew HB5.out⟩
                        case measure => simp [intOf]; omega
                      | some p =>
                        have hp := hpk p rfl
                        have hpl : p < l.length := by omega
                        obtain ⟨ad', ead, k0, k1, k2, k3, k4, k5, k6, k7, k8, k9⟩ := at_T76 (Kd.C_below HC2.out HB52.out) (p : Int) (by omega) (by omega)
                        obtain rfl : ad = ad' := by simpa using ead
                        clear ead
                        rw [Int.toNat_natCast] at *
                        have HNWp := Lib.hid (HNW.out p)
                        generalize rd_T76 l (p : Int) = z at *
                        have HNWp := Lib.hid (show newerP l (some p) k = decide (z.f0.f3 < y.f0.f3) from HNWp.out)
                        simp only [prevV]
                        cases hG : decide (z.f0.f3 < y.f0.f3)
                        · have HN := Lib.hid (show prevP l x (k + 1) = some p by rw [HST1.out, hA, hI, HNWp.out, hG]; rfl)
                          refine wp_region_held_drew (S := (fun w' => w'.cell? ⟨bo, 0, none⟩ = some (.int .i64 y.f0.f0) ∧ w'.cell? ⟨bo, 1, none⟩ = some (.int .i64 y.f0.f1.f0) ∧ w'.cell? ⟨bo, 2, none⟩ = some (.int .i64 y.f0.f1.f1) ∧ w'.cell? ⟨bo, 3, none⟩ = some (.int .i64 y.f0.f1.f2) ∧ w'.cell? ⟨bo, 4, none⟩ = some (.int .i64 y.f0.f1.f3) ∧ w'.cell? ⟨bo, 5, none⟩ = some (.bool y.f0.f1.f4) ∧ w'.cell? ⟨bo, 6, none⟩ = some (.bool y.f0.f1.f5) ∧ w'.cell? ⟨bo, 7, none⟩ = some (.int .i64 y.f0.f2) ∧ w'.cell? ⟨bo, 8, none⟩ = some (.int .i64 y.f0.f3) ∧ w'.cell? ⟨bo, 9, none⟩ = some (.int .i64 y.f1) ∧ w'.cell? ⟨bn, 0, none⟩ = some (.int .i64 x.f0.f0) ∧ w'.cell? ⟨bn, 1, none⟩ = some (.int .i64 x.f0.f1.f0) ∧ w'.cell? ⟨bn, 2, none⟩ = some (.int .i64 x.f0.f1.f1) ∧ w'.cell? ⟨bn, 3, none⟩ = some (.int .i64 x.f0.f1.f2) ∧ w'.cell? ⟨bn, 4, none⟩ = some (.int .i64 x.f0.f1.f3) ∧ w'.cell? ⟨bn, 5, none⟩ = some (.bool x.f0.f1.f4) ∧ w'.cell? ⟨bn, 6, none⟩ = some (.bool x.f0.f1.f5) ∧ w'.cell? ⟨bn, 7, none⟩ = some (.int .i64 x.f0.f2) ∧ w'.cell? ⟨bn, 8, none⟩ = some (.int .i64 x.f0.f3) ∧ w'.cell? ⟨bn, 9, none⟩ = some (.int .i64 x.f1) ∧ w'.cell? (ad.add (p * 10)) = some (.int .i64 z.f0.f0) ∧ w'.cell? ⟨(ad.add (p * 10)).block, (ad.add (p * 10)).off + 1, none⟩ = some (.int .i64 z.f0.f1.f0) ∧ w'.cell? ⟨(ad.add (p * 10)).block, (ad.add (p * 10)).off + 2, none⟩ = some (.int .i64 z.f0.f1.f1) ∧ w'.cell? ⟨(ad.add (p * 10)).block, (ad.add (p * 10)).off + 3, none⟩ = some (.int .i64 z.f0.f1.f2) ∧ w'.cell? ⟨(ad.add (p * 10)).block, (ad.add (p * 10)).off + 4, none⟩ = some (.int .i64 z.f0.f1.f3) ∧ w'.cell? ⟨(ad.add (p * 10)).block, (ad.add (p * 10)).off + 5, none⟩ = some (.bool z.f0.f1.f4) ∧ w'.cell? ⟨(ad.add (p * 10)).block, (ad.add (p * 10)).off + 6, none⟩ = some (.bool z.f0.f1.f5) ∧ w'.cell? ⟨(ad.add (p * 10)).block, (ad.add (p * 10)).off + 7, none⟩ = some (.int .i64 z.f0.f2) ∧ w'.cell? ⟨(ad.add (p * 10)).block, (ad.add (p * 10)).off + 8, none⟩ = some (.int .i64 z.f0.f3) ∧ w'.cell? ⟨(ad.add (p * 10)).block, (ad.add (p * 10)).off + 9, none⟩ = some (.int .i64 z.f1))) (by kernel_rfl) ?_ (fun hHeld => ?_)
                          · (try dsimp only); go_keep
                          refine wpAnyH_take (i := 0) (oi := { dst := some 49, op := Op.fieldAddr 76 (Operand.tmp 10) 0, type := 0, pos := "ref.go:166", after := #[], guard := none }) (v := ?_) rfl (by kernel_rfl) (by kernel_rfl) (by kernel_rfl) (fun _ _ _ h => h) (Or.inl ⟨by rfl, ?_⟩) (by assumption) ?_
                          rotate_left
                          · intro w9 hSw; (try dsimp only at hSw); go_simp; try (with_reducible rfl)
                          try simp only [Act.put, List.setIfInBounds_toArray, List.set_cons_zero, List.set_cons_succ]
                          refine wpAnyH_take (i := 1) (oi := { dst := some 50, op := Op.fieldAddr 68 (Operand.tmp 49) 1, type := 0, pos := "ref.go:166", after := #[{ on := 0, ground := Ground.data }], guard := none }) (v := ?_) rfl (by kernel_rfl) (by kernel_rfl) (by kernel_rfl) (fun _ _ _ h => h) (Or.inl ⟨by rfl, ?_⟩) (by assumption) ?_
                          rotate_left
                          · intro w9 hSw; (try dsimp only at hSw); go_simp; try (with_reducible rfl)
                          try simp only [Act.put, List.setIfInBounds_toArray, List.set_cons_zero, List.set_cons_succ]
                          refine wpAnyH_take (i := 2) (oi := { dst := some 51, op := Op.fieldAddr 54 (Operand.tmp 50) 1, type := 0, pos := "ref.go:166", after := #[{ on := 1, ground := Ground.data }], guard := none }) (v := ?_) rfl (by kernel_rfl) (by kernel_rfl) (by kernel_rfl) (fun _ _ _ h => h) (Or.inl ⟨by rfl, ?_⟩) (by assumption) ?_
                          rotate_left
                          · intro w9 hSw; (try dsimp only at hSw); go_simp; try (with_reducible rfl)
                          try simp only [Act.put, List.setIfInBounds_toArray, List.set_cons_zero, List.set_cons_succ]
                          refine wpAnyH_take (i := 3) (oi := { dst := some 52, op := Op.load 3 (Operand.tmp 51), type := 3, pos := "ref.go:166", after := #[{ on := 2, ground := Ground.data }], guard := none }) (v := ?_) rfl (by kernel_rfl) (by kernel_rfl) (by kernel_rfl) (fun _ _ _ h => h) (Or.inl ⟨by rfl, ?_⟩) (by assumption) ?_
                          rotate_left
                          · intro w9 hSw; (try dsimp only at hSw); go_simp; try (with_reducible rfl)
                          try simp only [Act.put, List.setIfInBounds_toArray, List.set_cons_zero, List.set_cons_succ]
                          refine wpAnyH_take (i := 4) (oi := { dst := some 53, op := Op.fieldAddr 76 (Operand.tmp 7) 0, type := 0, pos := "ref.go:166", after := #[], guard := none }) (v := ?_) rfl (by kernel_rfl) (by kernel_rfl) (by kernel_rfl) (fun _ _ _ h => h) (Or.inl ⟨by rfl, ?_⟩) (by assumption) ?_
                          rotate_left
                          · intro w9 hSw; (try dsimp only at hSw); go_simp; try (with_reducible rfl)
                          try simp only [Act.put, List.setIfInBounds_toArray, List.set_cons_zero, List.set_cons_succ]
                          refine wpAnyH_take (i := 5) (oi := { dst := some 54, op := Op.fieldAddr 68 (Operand.tmp 53) 1, type := 0, pos := "ref.go:166", after := #[{ on := 4, ground := Ground.data }], guard := none }) (v := ?_) rfl (by kernel_rfl) (by kernel_rfl) (by kernel_rfl) (fun _ _ _ h => h) (Or.inl ⟨by rfl, ?_⟩) (by assumption) ?_
                          rotate_left
                          · intro w9 hSw; (try dsimp only at hSw); go_simp; try (with_reducible rfl)
                          try simp only [Act.put, List.setIfInBounds_toArray, List.set_cons_zero, List.set_cons_succ]
                          refine wpAnyH_take (i := 6) (oi := { dst := some 55, op := Op.fieldAddr 54 (Operand.tmp 54) 1, type := 0, pos := "ref.go:166", after := #[{ on := 5, ground := Ground.data }], guard := none }) (v := ?_) rfl (by kernel_rfl) (by kernel_rfl) (by kernel_rfl) (fun _ _ _ h => h) (Or.inl ⟨by rfl, ?_⟩) (by assumption) ?_
                          rotate_left
                          · intro w9 hSw; (try dsimp only at hSw); go_simp; try (with_reducible rfl)
                          try simp only [Act.put, List.setIfInBounds_toArray, List.set_cons_zero, List.set_cons_succ]
                          refine wpAnyH_take (i := 7) (oi := { dst := some 56, op := Op.load 3 (Operand.tmp 55), type := 3, pos := "ref.go:166", after := #[{ on := 6, ground := Ground.data }], guard := none }) (v := ?_) rfl (by kernel_rfl) (by kernel_rfl) (by kernel_rfl) (fun _ _ _ h => h) (Or.inl ⟨by rfl, ?_⟩) (by assumption) ?_
                          rotate_left
                          · intro w9 hSw; (try dsimp only at hSw); go_simp; try (with_reducible rfl)
                          try simp only [Act.put, List.setIfInBounds_toArray, List.set_cons_zero, List.set_cons_succ]
                          refine wpAnyH_take (i := 8) (oi := { dst := some 57, op := Op.binOp BinOp.eql 3 (Operand.tmp 52) (Operand.tmp 56) 3, type := 4, pos := "ref.go:166", after := #[{ on := 3, ground := Ground.data }, { on := 7, ground := Ground.data }], guard := none }) (v := ?_) rfl (by kernel_rfl) (by kernel_rfl) (by kernel_rfl) (fun _ _ _ h => h) (Or.inl ⟨by rfl, ?_⟩) (by assumption) ?_
                          rotate_left
                          · intro w9 hSw; (try dsimp only at hSw); go_simp; try (with_reducible rfl)
                          try simp only [Act.put, List.setIfInBounds_toArray, List.set_cons_zero, List.set_cons_succ]
                          refine wpAnyH_take (i := 9) (oi := { dst := some 58, op := Op.move (Operand.tmp 57), type := 4, pos := "ref.go:166", after := #[{ on := 8, ground := Ground.data }], guard := none }) (v := ?_) rfl (by kernel_rfl) (by kernel_rfl) (by kernel_rfl) (fun _ _ _ h => h) (Or.inl ⟨by rfl, ?_⟩) (by assumption) ?_
                          rotate_left
                          · intro w9 hSw; (try dsimp only at hSw); go_simp; try (with_reducible rfl)
                          try simp only [Act.put, List.setIfInBounds_toArray, List.set_cons_zero, List.set_cons_succ]
                          refine wpAnyH_take (i := 10) (oi := { dst := some 59, op := Op.fieldAddr 76 (Operand.tmp 10) 0, type := 0, pos := "ref.go:166", after := #[{ on := 9, ground := Ground.guard }], guard := some (9, true) }) (v := ?_) rfl (by kernel_rfl) (by kernel_rfl) (by kernel_rfl) (fun _ _ _ h => h) (Or.inl ⟨by rfl, ?_⟩) (by assumption) ?_
                          rotate_left
                          · intro w9 hSw; (try dsimp only at hSw); go_simp; try (with_reducible rfl)
                          try simp only [Act.put, List.setIfInBounds_toArray, List.set_cons_zero, List.set_cons_succ]
                          refine wpAnyH_take (i := 11) (oi := { dst := some 60, op := Op.fieldAddr 68 (Operand.tmp 59) 3, type := 0, pos := "ref.go:166", after := #[{ on := 10, ground := Ground.data }, { on := 9, ground := Ground.guard }], guard := some (9, true) }) (v := ?_) rfl (by kernel_rfl) (by kernel_rfl) (by kernel_rfl) (fun _ _ _ h => h) (Or.inl ⟨by rfl, ?_⟩) (by assumption) ?_
                          rotate_left
                          · intro w9 hSw; (try dsimp only at hSw); go_simp; try (with_reducible rfl)
                          try simp only [Act.put, List.setIfInBounds_toArray, List.set_cons_zero, List.set_cons_succ]
                          refine wpAnyH_take (i := 12) (oi := { dst := some 61, op := Op.load 3 (Operand.tmp 60), type := 3, pos := "ref.go:166", after := #[{ on := 11, ground := Ground.data }, { on := 9, ground := Ground.guard }], guard := some (9, true) }) (v := ?_) rfl (by kernel_rfl) (by kernel_rfl) (by kernel_rfl) (fun _ _ _ h => h) (Or.inl ⟨by rfl, ?_⟩) (by assumption) ?_
                          rotate_left
                          · intro w9 hSw; (try dsimp only at hSw); go_simp; try (with_reducible rfl)
                          try simp only [Act.put, List.setIfInBounds_toArray, List.set_cons_zero, List.set_cons_succ]
                          refine wpAnyH_take (i := 13) (oi := { dst := some 62, op := Op.fieldAddr 76 (Operand.tmp 7) 0, type := 0, pos := "ref.go:166", after := #[{ on := 9, ground := Ground.guard }], guard := some (9, true) }) (v := ?_) rfl (by kernel_rfl) (by kernel_rfl) (by kernel_rfl) (fun _ _ _ h => h) (Or.inl ⟨by rfl, ?_⟩) (by assumption) ?_
                          rotate_left
                          · intro w9 hSw; (try dsimp only at hSw); go_simp; try (with_reducible rfl)
                          try simp only [Act.put, List.setIfInBounds_toArray, List.set_cons_zero, List.set_cons_succ]
                          refine wpAnyH_take (i := 14) (oi := { dst := some 63, op := Op.fieldAddr 68 (Operand.tmp 62) 3, type := 0, pos := "ref.go:166", after := #[{ on := 13, ground := Ground.data }, { on := 9, ground := Ground.guard }], guard := some (9, true) }) (v := ?_) rfl (by kernel_rfl) (by kernel_rfl) (by kernel_rfl) (fun _ _ _ h => h) (Or.inl ⟨by rfl, ?_⟩) (by assumption) ?_
                          rotate_left
                          · intro w9 hSw; (try dsimp only at hSw); go_simp; try (with_reducible rfl)
                          try simp only [Act.put, List.setIfInBounds_toArray, List.set_cons_zero, List.set_cons_succ]
                          refine wpAnyH_take (i := 15) (oi := { dst := some 64, op := Op.load 3 (Operand.tmp 63), type := 3, pos := "ref.go:166", after := #[{ on := 14, ground := Ground.data }, { on := 9, ground := Ground.guard }], guard := some (9, true) }) (v := ?_) rfl (by kernel_rfl) (by kernel_rfl) (by kernel_rfl) (fun _ _ _ h => h) (Or.inl ⟨by rfl, ?_⟩) (by assumption) ?_
                          rotate_left
                          · intro w9 hSw; (try dsimp only at hSw); go_simp; try (with_reducible rfl)
                          try simp only [Act.put, List.setIfInBounds_toArray, List.set_cons_zero, List.set_cons_succ]
                          refine wpAnyH_take (i := 16) (oi := { dst := some 65, op := Op.binOp BinOp.lss 3 (Operand.tmp 61) (Operand.tmp 64) 3, type := 4, pos := "ref.go:166", after := #[{ on := 12, ground := Ground.data }, { on := 15, ground := Ground.data }, { on := 9, ground := Ground.guard }], guard := some (9, true) }) (v := ?_) rfl (by kernel_rfl) (by kernel_rfl) (by kernel_rfl) (fun _ _ _ h => h) (Or.inl ⟨by rfl, ?_⟩) (by assumption) ?_
                          rotate_left
                          · intro w9 hSw; (try dsimp only at hSw); go_simp; try (with_reducible rfl)
                          try simp only [Act.put, List.setIfInBounds_toArray, List.set_cons_zero, List.set_cons_succ]
                          refine wpAnyH_take (i := 17) (oi := { dst := some 66, op := Op.pick (Operand.tmp 58) (Operand.tmp 65) (Operand.const (Value.bool false)), type := 4, pos := "ref.go:166", after := #[{ on := 9, ground := Ground.data }, { on := 16, ground := Ground.data }], guard := none }) (v := ?_) rfl (by kernel_rfl) (by kernel_rfl) (by kernel_rfl) (fun _ _ _ h => h) (Or.inl ⟨by rfl, ?_⟩) (by assumption) ?_
                          rotate_left
                          · intro w9 hSw; (try dsimp only at hSw); go_simp; try (with_reducible rfl)
                          try simp only [Act.put, List.setIfInBounds_toArray, List.set_cons_zero, List.set_cons_succ]
                          refine wpAnyH_take (i := 18) (oi := { dst := some 67, op := Op.move (Operand.tmp 66), type := 4, pos := "ref.go:166", after := #[{ on := 17, ground := Ground.data }, { on := 9, ground := Ground.chain }], guard := none }) (v := ?_) rfl (by kernel_rfl) (by kernel_rfl) (by kernel_rfl) (fun _ _ _ h => h) (Or.inl ⟨by rfl, ?_⟩) (by assumption) ?_
                          rotate_left
                          · intro w9 hSw; (try dsimp only at hSw); go_simp; try (with_reducible rfl)
                          try simp only [Act.put, List.setIfInBounds_toArray, List.set_cons_zero, List.set_cons_succ]
                          refine wpAnyH_take (i := 19) (oi := { dst := some 68, op := Op.move (Operand.tmp 8), type := 3, pos := "ref.go:166", after := #[{ on := 18, ground := Ground.guard }], guard := some (18, true) }) (v := ?_) rfl (by kernel_rfl) (by kernel_rfl) (by kernel_rfl) (fun _ _ _ h => h) (Or.inl ⟨by rfl, ?_⟩) (by assumption) ?_
                          rotate_left
                          · intro w9 hSw; (try dsimp only at hSw); go_simp; try (with_reducible rfl)
                          try simp only [Act.put, List.setIfInBounds_toArray, List.set_cons_zero, List.set_cons_succ]
                          refine wpAnyH_take (i := 20) (oi := { dst := some 69, op := Op.binOp BinOp.lss 3 (Operand.tmp 68) (Operand.const (Value.int IntKind.i64 0)) 3, type := 4, pos := "ref.go:166", after := #[{ on := 19, ground := Ground.data }, { on := 18, ground := Ground.guard }], guard := some (18, true) }) (v := ?_) rfl (by kernel_rfl) (by kernel_rfl) (by kernel_rfl) (fun _ _ _ h => h) (Or.inl ⟨by rfl, ?_⟩) (by assumption) ?_
                          rotate_left
                          · intro w9 hSw; (try dsimp only at hSw); go_simp; try (with_reducible rfl)
                          try simp only [Act.put, List.setIfInBounds_toArray, List.set_cons_zero, List.set_cons_succ]
                          refine wpAnyH_take (i := 21) (oi := { dst := some 70, op := Op.move (Operand.tmp 69), type := 4, pos := "ref.go:166", after := #[{ on := 20, ground := Ground.data }, { on := 18, ground := Ground.chain }, { on := 18, ground := Ground.guard }], guard := some (18, true) }) (v := ?_) rfl (by kernel_rfl) (by kernel_rfl) (by kernel_rfl) (fun _ _ _ h => h) (Or.inl ⟨by rfl, ?_⟩) (by assumption) ?_
                          rotate_left
                          · intro w9 hSw; (try dsimp only at hSw); go_simp; try (with_reducible rfl)
                          try simp only [Act.put, List.setIfInBounds_toArray, List.set_cons_zero, List.set_cons_succ]
                          refine wpAnyH_take (i := 22) (oi := { dst := some 71, op := Op.fieldAddr 76 (Operand.tmp 10) 0, type := 0, pos := "ref.go:166", after := #[{ on := 21, ground := Ground.guard }], guard := some (21, false) }) (v := ?_) rfl (by kernel_rfl) (by kernel_rfl) (by kernel_rfl) (fun _ _ _ h => h) (Or.inl ⟨by rfl, ?_⟩) (by assumption) ?_
                          rotate_left
                          · intro w9 hSw; (try dsimp only at hSw); go_simp; try (with_reducible rfl)
                          try simp only [Act.put, List.setIfInBounds_toArray, List.set_cons_zero, List.set_cons_succ]
                          refine wpAnyH_take (i := 23) (oi := { dst := some 72, op := Op.fieldAddr 68 (Operand.tmp 71) 3, type := 0, pos := "ref.go:166", after := #[{ on := 22, ground := Ground.data }, { on := 21, ground := Ground.guard }], guard := some (21, false) }) (v := ?_) rfl (by kernel_rfl) (by kernel_rfl) (by kernel_rfl) (fun _ _ _ h => h) (Or.inl ⟨by rfl, ?_⟩) (by assumption) ?_
                          rotate_left
                          · intro w9 hSw; (try dsimp only at hSw); go_simp; try (with_reducible rfl)
                          try simp only [Act.put, List.setIfInBounds_toArray, List.set_cons_zero, List.set_cons_succ]
                          refine wpAnyH_take (i := 24) (oi := { dst := some 73, op := Op.load 3 (Operand.tmp 72), type := 3, pos := "ref.go:166", after := #[{ on := 23, ground := Ground.data }, { on := 21, ground := Ground.guard }], guard := some (21, false) }) (v := ?_) rfl (by kernel_rfl) (by kernel_rfl) (by kernel_rfl) (fun _ _ _ h => h) (Or.inl ⟨by rfl, ?_⟩) (by assumption) ?_
                          rotate_left
                          · intro w9 hSw; (try dsimp only at hSw); go_simp; try (with_reducible rfl)
                          try simp only [Act.put, List.setIfInBounds_toArray, List.set_cons_zero, List.set_cons_succ]
                          refine wpAnyH_take (i := 25) (oi := { dst := some 74, op := Op.move (Operand.tmp 3), type := 86, pos := "ref.go:166", after := #[{ on := 21, ground := Ground.guard }], guard := some (21, false) }) (v := ?_) rfl (by kernel_rfl) (by kernel_rfl) (by kernel_rfl) (fun _ _ _ h => h) (Or.inl ⟨by rfl, ?_⟩) (by assumption) ?_
                          rotate_left
                          · intro w9 hSw; (try dsimp only at hSw); go_simp; try (with_reducible rfl)
                          try simp only [Act.put, List.setIfInBounds_toArray, List.set_cons_zero, List.set_cons_succ]
                          refine wpAnyH_take (i := 26) (oi := { dst := some 75, op := Op.move (Operand.tmp 8), type := 3, pos := "ref.go:166", after := #[{ on := 21, ground := Ground.guard }], guard := some (21, false) }) (v := ?_) rfl (by kernel_rfl) (by kernel_rfl) (by kernel_rfl) (fun _ _ _ h => h) (Or.inl ⟨by rfl, ?_⟩) (by assumption) ?_
                          rotate_left
                          · intro w9 hSw; (try dsimp only at hSw); go_simp; try (with_reducible rfl)
                          try simp only [Act.put, List.setIfInBounds_toArray, List.set_cons_zero, List.set_cons_succ]
                          refine wpAnyH_take (i := 27) (oi := { dst := some 76, op := Op.indexAddr 86 (Operand.tmp 74) (Operand.tmp 75), type := 0, pos := "ref.go:166", after := #[{ on := 25, ground := Ground.data }, { on := 26, ground := Ground.data }, { on := 21, ground := Ground.guard }], guard := some (21, false) }) (v := ?_) rfl (by kernel_rfl) (by kernel_rfl) (by kernel_rfl) (fun _ _ _ h => h) (Or.inl ⟨by rfl, ?_⟩) (by assumption) ?_
                          rotate_left
                          · intro w9 hSw; (try dsimp only at hSw); go_simp; try (with_reducible rfl)
                          try simp only [Act.put, List.setIfInBounds_toArray, List.set_cons_zero, List.set_cons_succ]
                          refine wpAnyH_take (i := 28) (oi := { dst := some 77, op := Op.fieldAddr 76 (Operand.tmp 76) 0, type := 0, pos := "ref.go:166", after := #[{ on := 27, ground := Ground.data }, { on := 21, ground := Ground.guard }], guard := some (21, false) }) (v := ?_) rfl (by kernel_rfl) (by kernel_rfl) (by kernel_rfl) (fun _ _ _ h => h) (Or.inl ⟨by rfl, ?_⟩) (by assumption) ?_
                          rotate_left
                          · intro w9 hSw; (try dsimp only at hSw); go_simp; try (with_reducible rfl)
                          try simp only [Act.put, List.setIfInBounds_toArray, List.set_cons_zero, List.set_cons_succ]
                          refine wpAnyH_take (i := 29) (oi := { dst := some 78, op := Op.fieldAddr 68 (Operand.tmp 77) 3, type := 0, pos := "ref.go:166", after := #[{ on := 28, ground := Ground.data }, { on := 21, ground := Ground.guard }], guard := some (21, false) }) (v := ?_) rfl (by kernel_rfl) (by kernel_rfl) (by kernel_rfl) (fun _ _ _ h => h) (Or.inl ⟨by rfl, ?_⟩) (by assumption) ?_
                          rotate_left
                          · intro w9 hSw; (try dsimp only at hSw); go_simp; try (with_reducible rfl)
                          try simp only [Act.put, List.setIfInBounds_toArray, List.set_cons_zero, List.set_cons_succ]
                          refine wpAnyH_take (i := 30) (oi := { dst := some 79, op := Op.load 3 (Operand.tmp 78), type := 3, pos := "ref.go:166", after := #[{ on := 29, ground := Ground.data }, { on := 21, ground := Ground.guard }], guard := some (21, false) }) (v := ?_) rfl (by kernel_rfl) (by kernel_rfl) (by kernel_rfl) (fun _ _ _ h => h) (Or.inl ⟨by rfl, ?_⟩) (by assumption) ?_
                          rotate_left
                          · intro w9 hSw; (try dsimp only at hSw); go_simp; try (with_reducible rfl)
                          try simp only [Act.put, List.setIfInBounds_toArray, List.set_cons_zero, List.set_cons_succ]
                          refine wpAnyH_take (i := 31) (oi := { dst := some 80, op := Op.binOp BinOp.gtr 3 (Operand.tmp 73) (Operand.tmp 79) 3, type := 4, pos := "ref.go:166", after := #[{ on := 24, ground := Ground.data }, { on := 30, ground := Ground.data }, { on := 21, ground := Ground.guard }], guard := some (21, false) }) (v := ?_) rfl (by kernel_rfl) (by kernel_rfl) (by kernel_rfl) (fun _ _ _ h => h) (Or.inl ⟨by rfl, ?_⟩) (by assumption) ?_
                          rotate_left
                          · intro w9 hSw; (try dsimp only at hSw); go_simp; try (with_reducible rfl)
                          try simp only [Act.put, List.setIfInBounds_toArray, List.set_cons_zero, List.set_cons_succ]
                          refine wpAnyH_take (i := 32) (oi := { dst := some 81, op := Op.pick (Operand.tmp 70) (Operand.const (Value.bool true)) (Operand.tmp 80), type := 4, pos := "ref.go:166", after := #[{ on := 21, ground := Ground.data }, { on := 31, ground := Ground.data }, { on := 18, ground := Ground.guard }], guard := some (18, true) }) (v := ?_) rfl (by kernel_rfl) (by kernel_rfl) (by kernel_rfl) (fun _ _ _ h => h) (Or.inl ⟨by rfl, ?_⟩) (by assumption) ?_
                          rotate_left
                          · intro w9 hSw; (try dsimp only at hSw); go_simp; try (with_reducible rfl)
                          try simp only [Act.put, List.setIfInBounds_toArray, List.set_cons_zero, List.set_cons_succ]
                          refine wpAnyH_ready (rs := [33]) (by kernel_rfl) (by simp) ?_
                          refine AllReadyH.cons (o := { dst := some 82, op := Op.pick (Operand.tmp 67) (Operand.tmp 81) (Operand.const (Value.bool false)), type := 4, pos := "ref.go:166", after := #[{ on := 18, ground := Ground.data }, { on := 32, ground := Ground.data }], guard := none }) rfl (fun K hK => ?_) AllReadyH.nil
                          go_simp
                          refine hK.out _ _ ?_ (fun hHeld2 => ?_)
                          · (try dsimp only); go_keep
                          clear hK K
                          try simp only [Act.put, List.setIfInBounds_toArray, List.set_cons_zero, List.set_cons_succ]
                          refine wpAnyH_done (by kernel_rfl) ?_ _
                          go_wp2
                          go_roundw
                          case rel => exact ⟨k + 1, by go_num, by rw [HN.out]; rfl, by omega, below_drew HB5.out⟩
                          case measure => simp [intOf]; omega
                        · have HN := Lib.hid (show prevP l x (k + 1) = some k by rw [HST1.out, hA, hI, HNWp.out, hG]; rfl)
                          refine wp_region_held_drew (S := (fun w' => w'.cell? ⟨bo, 0, none⟩ = some (.int .i64 y.f0.f0) ∧ w'.cell? ⟨bo, 1, none⟩ = some (.int .i64 y.f0.f1.f0) ∧ w'.cell? ⟨bo, 2, none⟩ = some (.int .i64 y.f0.f1.f1) ∧ w'.cell? ⟨bo, 3, none⟩ = some (.int .i64 y.f0.f1.f2) ∧ w'.cell? ⟨bo, 4, none⟩ = some (.int .i64 y.f0.f1.f3) ∧ w'.cell? ⟨bo, 5, none⟩ = some (.bool y.f0.f1.f4) ∧ w'.cell? ⟨bo, 6, none⟩ = some (.bool y.f0.f1.f5) ∧ w'.cell? ⟨bo, 7, none⟩ = some (.int .i64 y.f0.f2) ∧ w'.cell? ⟨bo, 8, none⟩ = some (.int .i64 y.f0.f3) ∧ w'.cell? ⟨bo, 9, none⟩ = some (.int .i64 y.f1) ∧ w'.cell? ⟨bn, 0, none⟩ = some (.int .i64 x.f0.f0) ∧ w'.cell? ⟨bn, 1, none⟩ = some (.int .i64 x.f0.f1.f0) ∧ w'.cell? ⟨bn, 2, none⟩ = some (.int .i64 x.f0.f1.f1) ∧ w'.cell? ⟨bn, 3, none⟩ = some (.int .i64 x.f0.f1.f2) ∧ w'.cell? ⟨bn, 4, none⟩ = some (.int .i64 x.f0.f1.f3) ∧ w'.cell? ⟨bn, 5, none⟩ = some (.bool x.f0.f1.f4) ∧ w'.cell? ⟨bn, 6, none⟩ = some (.bool x.f0.f1.f5) ∧ w'.cell? ⟨bn, 7, none⟩ = some (.int .i64 x.f0.f2) ∧ w'.cell? ⟨bn, 8, none⟩ = some (.int .i64 x.f0.f3) ∧ w'.cell? ⟨bn, 9, none⟩ = some (.int .i64 x.f1) ∧ w'.cell? (ad.add (p * 10)) = some (.int .i64 z.f0.f0) ∧ w'.cell? ⟨(ad.add (p * 10)).block, (ad.add (p * 10)).off + 1, none⟩ = some (.int .i64 z.f0.f1.f0) ∧ w'.cell? ⟨(ad.add (p * 10)).block, (ad.add (p * 10)).off + 2, none⟩ = some (.int .i64 z.f0.f1.f1) ∧ w'.cell? ⟨(ad.add (p * 10)).block, (ad.add (p * 10)).off + 3, none⟩ = some (.int .i64 z.f0.f1.f2) ∧ w'.cell? ⟨(ad.add (p * 10)).block, (ad.add (p * 10)).off + 4, none⟩ = some (.int .i64 z.f0.f1.f3) ∧ w'.cell? ⟨(ad.add (p * 10)).block, (ad.add (p * 10)).off + 5, none⟩ = some (.bool z.f0.f1.f4) ∧ w'.cell? ⟨(ad.add (p * 10)).block, (ad.add (p * 10)).off + 6, none⟩ = some (.bool z.f0.f1.f5) ∧ w'.cell? ⟨(ad.add (p * 10)).block, (ad.add (p * 10)).off + 7, none⟩ = some (.int .i64 z.f0.f2) ∧ w'.cell? ⟨(ad.add (p * 10)).block, (ad.add (p * 10)).off + 8, none⟩ = some (.int .i64 z.f0.f3) ∧ w'.cell? ⟨(ad.add (p * 10)).block, (ad.add (p * 10)).off + 9, none⟩ = some (.int .i64 z.f1))) (by kernel_rfl) ?_ (fun hHeld => ?_)
                          · (try dsimp only); go_keep
                          refine wpAnyH_take (i := 0) (oi := { dst := some 49, op := Op.fieldAddr 76 (Operand.tmp 10) 0, type := 0, pos := "ref.go:166", after := #[], guard := none }) (v := ?_) rfl (by kernel_rfl) (by kernel_rfl) (by kernel_rfl) (fun _ _ _ h => h) (Or.inl ⟨by rfl, ?_⟩) (by assumption) ?_
                          rotate_left
                          · intro w9 hSw; (try dsimp only at hSw); go_simp; try (with_reducible rfl)
                          try simp only [Act.put, List.setIfInBounds_toArray, List.set_cons_zero, List.set_cons_succ]
                          refine wpAnyH_take (i := 1) (oi := { dst := some 50, op := Op.fieldAddr 68 (Operand.tmp 49) 1, type := 0, pos := "ref.go:166", after := #[{ on := 0, ground := Ground.data }], guard := none }) (v := ?_) rfl (by kernel_rfl) (by kernel_rfl) (by kernel_rfl) (fun _ _ _ h => h) (Or.inl ⟨by rfl, ?_⟩) (by assumption) ?_
                          rotate_left
                          · intro w9 hSw; (try dsimp only at hSw); go_simp; try (with_reducible rfl)
                          try simp only [Act.put, List.setIfInBounds_toArray, List.set_cons_zero, List.set_cons_succ]
                          refine wpAnyH_take (i := 2) (oi := { dst := some 51, op := Op.fieldAddr 54 (Operand.tmp 50) 1, type := 0, pos := "ref.go:166", after := #[{ on := 1, ground := Ground.data }], guard := none }) (v := ?_) rfl (by kernel_rfl) (by kernel_rfl) (by kernel_rfl) (fun _ _ _ h => h) (Or.inl ⟨by rfl, ?_⟩) (by assumption) ?_
                          rotate_left
                          · intro w9 hSw; (try dsimp only at hSw); go_simp; try (with_reducible rfl)
                          try simp only [Act.put, List.setIfInBounds_toArray, List.set_cons_zero, List.set_cons_succ]
                          refine wpAnyH_take (i := 3) (oi := { dst := some 52, op := Op.load 3 (Operand.tmp 51), type := 3, pos := "ref.go:166", after := #[{ on := 2, ground := Ground.data }], guard := none }) (v := ?_) rfl (by kernel_rfl) (by kernel_rfl) (by kernel_rfl) (fun _ _ _ h => h) (Or.inl ⟨by rfl, ?_⟩) (by assumption) ?_
                          rotate_left
                          · intro w9 hSw; (try dsimp only at hSw); go_simp; try (with_reducible rfl)
                          try simp only [Act.put, List.setIfInBounds_toArray, List.set_cons_zero, List.set_cons_succ]
                          refine wpAnyH_take (i := 4) (oi := { dst := some 53, op := Op.fieldAddr 76 (Operand.tmp 7) 0, type := 0, pos := "ref.go:166", after := #[], guard := none }) (v := ?_) rfl (by kernel_rfl) (by kernel_rfl) (by kernel_rfl) (fun _ _ _ h => h) (Or.inl ⟨by rfl, ?_⟩) (by assumption) ?_
                          rotate_left
                          · intro w9 hSw; (try dsimp only at hSw); go_simp; try (with_reducible rfl)
                          try simp only [Act.put, List.setIfInBounds_toArray, List.set_cons_zero, List.set_cons_succ]
                          refine wpAnyH_take (i := 5) (oi := { dst := some 54, op := Op.fieldAddr 68 (Operand.tmp 53) 1, type := 0, pos := "ref.go:166", after := #[{ on := 4, ground := Ground.data }], guard := none }) (v := ?_) rfl (by kernel_rfl) (by kernel_rfl) (by kernel_rfl) (fun _ _ _ h => h) (Or.inl ⟨by rfl, ?_⟩) (by assumption) ?_
                          rotate_left
                          · intro w9 hSw; (try dsimp only at hSw); go_simp; try (with_reducible rfl)
                          try simp only [Act.put, List.setIfInBounds_toArray, List.set_cons_zero, List.set_cons_succ]
                          refine wpAnyH_take (i := 6) (oi := { dst := some 55, op := Op.fieldAddr 54 (Operand.tmp 54) 1, type := 0, pos := "ref.go:166", after := #[{ on := 5, ground := Ground.data }], guard := none }) (v := ?_) rfl (by kernel_rfl) (by kernel_rfl) (by kernel_rfl) (fun _ _ _ h => h) (Or.inl ⟨by rfl, ?_⟩) (by assumption) ?_
                          rotate_left
                          · intro w9 hSw; (try dsimp only at hSw); go_simp; try (with_reducible rfl)
                          try simp only [Act.put, List.setIfInBounds_toArray, List.set_cons_zero, List.set_cons_succ]
                          refine wpAnyH_take (i := 7) (oi := { dst := some 56, op := Op.load 3 (Operand.tmp 55), type := 3, pos := "ref.go:166", after := #[{ on := 6, ground := Ground.data }], guard := none }) (v := ?_) rfl (by kernel_rfl) (by kernel_rfl) (by kernel_rfl) (fun _ _ _ h => h) (Or.inl ⟨by rfl, ?_⟩) (by assumption) ?_
                          rotate_left
                          · intro w9 hSw; (try dsimp only at hSw); go_simp; try (with_reducible rfl)
                          try simp only [Act.put, List.setIfInBounds_toArray, List.set_cons_zero, List.set_cons_succ]
                          refine wpAnyH_take (i := 8) (oi := { dst := some 57, op := Op.binOp BinOp.eql 3 (Operand.tmp 52) (Operand.tmp 56) 3, type := 4, pos := "ref.go:166", after := #[{ on := 3, ground := Ground.data }, { on := 7, ground := Ground.data }], guard := none }) (v := ?_) rfl (by kernel_rfl) (by kernel_rfl) (by kernel_rfl) (fun _ _ _ h => h) (Or.inl ⟨by rfl, ?_⟩) (by assumption) ?_
                          rotate_left
                          · intro w9 hSw; (try dsimp only at hSw); go_simp; try (with_reducible rfl)
                          try simp only [Act.put, List.setIfInBounds_toArray, List.set_cons_zero, List.set_cons_succ]
                          refine wpAnyH_take (i := 9) (oi := { dst := some 58, op := Op.move (Operand.tmp 57), type := 4, pos := "ref.go:166", after := #[{ on := 8, ground := Ground.data }], guard := none }) (v := ?_) rfl (by kernel_rfl) (by kernel_rfl) (by kernel_rfl) (fun _ _ _ h => h) (Or.inl ⟨by rfl, ?_⟩) (by assumption) ?_
                          rotate_left
                          · intro w9 hSw; (try dsimp only at hSw); go_simp; try (with_reducible rfl)
                          try simp only [Act.put, List.setIfInBounds_toArray, List.set_cons_zero, List.set_cons_succ]
                          refine wpAnyH_take (i := 10) (oi := { dst := some 59, op := Op.fieldAddr 76 (Operand.tmp 10) 0, type := 0, pos := "ref.go:166", after := #[{ on := 9, ground := Ground.guard }], guard := some (9, true) }) (v := ?_) rfl (by kernel_rfl) (by kernel_rfl) (by kernel_rfl) (fun _ _ _ h => h) (Or.inl ⟨by rfl, ?_⟩) (by assumption) ?_
                          rotate_left
                          · intro w9 hSw; (try dsimp only at hSw); go_simp; try (with_reducible rfl)
                          try simp only [Act.put, List.setIfInBounds_toArray, List.set_cons_zero, List.set_cons_succ]
                          refine wpAnyH_take (i := 11) (oi := { dst := some 60, op := Op.fieldAddr 68 (Operand.tmp 59) 3, type := 0, pos := "ref.go:166", after := #[{ on := 10, ground := Ground.data }, { on := 9, ground := Ground.guard }], guard := some (9, true) }) (v := ?_) rfl (by kernel_rfl) (by kernel_rfl) (by kernel_rfl) (fun _ _ _ h => h) (Or.inl ⟨by rfl, ?_⟩) (by assumption) ?_
                          rotate_left
                          · intro w9 hSw; (try dsimp only at hSw); go_simp; try (with_reducible rfl)
                          try simp only [Act.put, List.setIfInBounds_toArray, List.set_cons_zero, List.set_cons_succ]
                          refine wpAnyH_take (i := 12) (oi := { dst := some 61, op := Op.load 3 (Operand.tmp 60), type := 3, pos := "ref.go:166", after := #[{ on := 11, ground := Ground.data }, { on := 9, ground := Ground.guard }], guard := some (9, true) }) (v := ?_) rfl (by kernel_rfl) (by kernel_rfl) (by kernel_rfl) (fun _ _ _ h => h) (Or.inl ⟨by rfl, ?_⟩) (by assumption) ?_
                          rotate_left
                          · intro w9 hSw; (try dsimp only at hSw); go_simp; try (with_reducible rfl)
                          try simp only [Act.put, List.setIfInBounds_toArray, List.set_cons_zero, List.set_cons_succ]
                          refine wpAnyH_take (i := 13) (oi := { dst := some 62, op := Op.fieldAddr 76 (Operand.tmp 7) 0, type := 0, pos := "ref.go:166", after := #[{ on := 9, ground := Ground.guard }], guard := some (9, true) }) (v := ?_) rfl (by kernel_rfl) (by kernel_rfl) (by kernel_rfl) (fun _ _ _ h => h) (Or.inl ⟨by rfl, ?_⟩) (by assumption) ?_
                          rotate_left
                          · intro w9 hSw; (try dsimp only at hSw); go_simp; try (with_reducible rfl)
                          try simp only [Act.put, List.setIfInBounds_toArray, List.set_cons_zero, List.set_cons_succ]
                          refine wpAnyH_take (i := 14) (oi := { dst := some 63, op := Op.fieldAddr 68 (Operand.tmp 62) 3, type := 0, pos := "ref.go:166", after := #[{ on := 13, ground := Ground.data }, { on := 9, ground := Ground.guard }], guard := some (9, true) }) (v := ?_) rfl (by kernel_rfl) (by kernel_rfl) (by kernel_rfl) (fun _ _ _ h => h) (Or.inl ⟨by rfl, ?_⟩) (by assumption) ?_
                          rotate_left
                          · intro w9 hSw; (try dsimp only at hSw); go_simp; try (with_reducible rfl)
                          try simp only [Act.put, List.setIfInBounds_toArray, List.set_cons_zero, List.set_cons_succ]
                          refine wpAnyH_take (i := 15) (oi := { dst := some 64, op := Op.load 3 (Operand.tmp 63), type := 3, pos := "ref.go:166", after := #[{ on := 14, ground := Ground.data }, { on := 9, ground := Ground.guard }], guard := some (9, true) }) (v := ?_) rfl (by kernel_rfl) (by kernel_rfl) (by kernel_rfl) (fun _ _ _ h => h) (Or.inl ⟨by rfl, ?_⟩) (by assumption) ?_
                          rotate_left
                          · intro w9 hSw; (try dsimp only at hSw); go_simp; try (with_reducible rfl)
                          try simp only [Act.put, List.setIfInBounds_toArray, List.set_cons_zero, List.set_cons_succ]
                          refine wpAnyH_take (i := 16) (oi := { dst := some 65, op := Op.binOp BinOp.lss 3 (Operand.tmp 61) (Operand.tmp 64) 3, type := 4, pos := "ref.go:166", after := #[{ on := 12, ground := Ground.data }, { on := 15, ground := Ground.data }, { on := 9, ground := Ground.guard }], guard := some (9, true) }) (v := ?_) rfl (by kernel_rfl) (by kernel_rfl) (by kernel_rfl) (fun _ _ _ h => h) (Or.inl ⟨by rfl, ?_⟩) (by assumption) ?_
                          rotate_left
                          · intro w9 hSw; (try dsimp only at hSw); go_simp; try (with_reducible rfl)
                          try simp only [Act.put, List.setIfInBounds_toArray, List.set_cons_zero, List.set_cons_succ]
                          refine wpAnyH_take (i := 17) (oi := { dst := some 66, op := Op.pick (Operand.tmp 58) (Operand.tmp 65) (Operand.const (Value.bool false)), type := 4, pos := "ref.go:166", after := #[{ on := 9, ground := Ground.data }, { on := 16, ground := Ground.data }], guard := none }) (v := ?_) rfl (by kernel_rfl) (by kernel_rfl) (by kernel_rfl) (fun _ _ _ h => h) (Or.inl ⟨by rfl, ?_⟩) (by assumption) ?_
                          rotate_left
                          · intro w9 hSw; (try dsimp only at hSw); go_simp; try (with_reducible rfl)
                          try simp only [Act.put, List.setIfInBounds_toArray, List.set_cons_zero, List.set_cons_succ]
                          refine wpAnyH_take (i := 18) (oi := { dst := some 67, op := Op.move (Operand.tmp 66), type := 4, pos := "ref.go:166", after := #[{ on := 17, ground := Ground.data }, { on := 9, ground := Ground.chain }], guard := none }) (v := ?_) rfl (by kernel_rfl) (by kernel_rfl) (by kernel_rfl) (fun _ _ _ h => h) (Or.inl ⟨by rfl, ?_⟩) (by assumption) ?_
                          rotate_left
                          · intro w9 hSw; (try dsimp only at hSw); go_simp; try (with_reducible rfl)
                          try simp only [Act.put, List.setIfInBounds_toArray, List.set_cons_zero, List.set_cons_succ]
                          refine wpAnyH_take (i := 19) (oi := { dst := some 68, op := Op.move (Operand.tmp 8), type := 3, pos := "ref.go:166", after := #[{ on := 18, ground := Ground.guard }], guard := some (18, true) }) (v := ?_) rfl (by kernel_rfl) (by kernel_rfl) (by kernel_rfl) (fun _ _ _ h => h) (Or.inl ⟨by rfl, ?_⟩) (by assumption) ?_
                          rotate_left
                          · intro w9 hSw; (try dsimp only at hSw); go_simp; try (with_reducible rfl)
                          try simp only [Act.put, List.setIfInBounds_toArray, List.set_cons_zero, List.set_cons_succ]
                          refine wpAnyH_take (i := 20) (oi := { dst := some 69, op := Op.binOp BinOp.lss 3 (Operand.tmp 68) (Operand.const (Value.int IntKind.i64 0)) 3, type := 4, pos := "ref.go:166", after := #[{ on := 19, ground := Ground.data }, { on := 18, ground := Ground.guard }], guard := some (18, true) }) (v := ?_) rfl (by kernel_rfl) (by kernel_rfl) (by kernel_rfl) (fun _ _ _ h => h) (Or.inl ⟨by rfl, ?_⟩) (by assumption) ?_
                          rotate_left
                          · intro w9 hSw; (try dsimp only at hSw); go_simp; try (with_reducible rfl)
                          try simp only [Act.put, List.setIfInBounds_toArray, List.set_cons_zero, List.set_cons_succ]
                          refine wpAnyH_take (i := 21) (oi := { dst := some 70, op := Op.move (Operand.tmp 69), type := 4, pos := "ref.go:166", after := #[{ on := 20, ground := Ground.data }, { on := 18, ground := Ground.chain }, { on := 18, ground := Ground.guard }], guard := some (18, true) }) (v := ?_) rfl (by kernel_rfl) (by kernel_rfl) (by kernel_rfl) (fun _ _ _ h => h) (Or.inl ⟨by rfl, ?_⟩) (by assumption) ?_
                          rotate_left
                          · intro w9 hSw; (try dsimp only at hSw); go_simp; try (with_reducible rfl)
                          try simp only [Act.put, List.setIfInBounds_toArray, List.set_cons_zero, List.set_cons_succ]
                          refine wpAnyH_take (i := 22) (oi := { dst := some 71, op := Op.fieldAddr 76 (Operand.tmp 10) 0, type := 0, pos := "ref.go:166", after := #[{ on := 21, ground := Ground.guard }], guard := some (21, false) }) (v := ?_) rfl (by kernel_rfl) (by kernel_rfl) (by kernel_rfl) (fun _ _ _ h => h) (Or.inl ⟨by rfl, ?_⟩) (by assumption) ?_
                          rotate_left
                          · intro w9 hSw; (try dsimp only at hSw); go_simp; try (with_reducible rfl)
                          try simp only [Act.put, List.setIfInBounds_toArray, List.set_cons_zero, List.set_cons_succ]
                          refine wpAnyH_take (i := 23) (oi := { dst := some 72, op := Op.fieldAddr 68 (Operand.tmp 71) 3, type := 0, pos := "ref.go:166", after := #[{ on := 22, ground := Ground.data }, { on := 21, ground := Ground.guard }], guard := some (21, false) }) (v := ?_) rfl (by kernel_rfl) (by kernel_rfl) (by kernel_rfl) (fun _ _ _ h => h) (Or.inl ⟨by rfl, ?_⟩) (by assumption) ?_
                          rotate_left
                          · intro w9 hSw; (try dsimp only at hSw); go_simp; try (with_reducible rfl)
                          try simp only [Act.put, List.setIfInBounds_toArray, List.set_cons_zero, List.set_cons_succ]
                          refine wpAnyH_take (i := 24) (oi := { dst := some 73, op := Op.load 3 (Operand.tmp 72), type := 3, pos := "ref.go:166", after := #[{ on := 23, ground := Ground.data }, { on := 21, ground := Ground.guard }], guard := some (21, false) }) (v := ?_) rfl (by kernel_rfl) (by kernel_rfl) (by kernel_rfl) (fun _ _ _ h => h) (Or.inl ⟨by rfl, ?_⟩) (by assumption) ?_
                          rotate_left
                          · intro w9 hSw; (try dsimp only at hSw); go_simp; try (with_reducible rfl)
                          try simp only [Act.put, List.setIfInBounds_toArray, List.set_cons_zero, List.set_cons_succ]
                          refine wpAnyH_take (i := 25) (oi := { dst := some 74, op := Op.move (Operand.tmp 3), type := 86, pos := "ref.go:166", after := #[{ on := 21, ground := Ground.guard }], guard := some (21, false) }) (v := ?_) rfl (by kernel_rfl) (by kernel_rfl) (by kernel_rfl) (fun _ _ _ h => h) (Or.inl ⟨by rfl, ?_⟩) (by assumption) ?_
                          rotate_left
                          · intro w9 hSw; (try dsimp only at hSw); go_simp; try (with_reducible rfl)
                          try simp only [Act.put, List.setIfInBounds_toArray, List.set_cons_zero, List.set_cons_succ]
                          refine wpAnyH_take (i := 26) (oi := { dst := some 75, op := Op.move (Operand.tmp 8), type := 3, pos := "ref.go:166", after := #[{ on := 21, ground := Ground.guard }], guard := some (21, false) }) (v := ?_) rfl (by kernel_rfl) (by kernel_rfl) (by kernel_rfl) (fun _ _ _ h => h) (Or.inl ⟨by rfl, ?_⟩) (by assumption) ?_
                          rotate_left
                          · intro w9 hSw; (try dsimp only at hSw); go_simp; try (with_reducible rfl)
                          try simp only [Act.put, List.setIfInBounds_toArray, List.set_cons_zero, List.set_cons_succ]
                          refine wpAnyH_take (i := 27) (oi := { dst := some 76, op := Op.indexAddr 86 (Operand.tmp 74) (Operand.tmp 75), type := 0, pos := "ref.go:166", after := #[{ on := 25, ground := Ground.data }, { on := 26, ground := Ground.data }, { on := 21, ground := Ground.guard }], guard := some (21, false) }) (v := ?_) rfl (by kernel_rfl) (by kernel_rfl) (by kernel_rfl) (fun _ _ _ h => h) (Or.inl ⟨by rfl, ?_⟩) (by assumption) ?_
                          rotate_left
                          · intro w9 hSw; (try dsimp only at hSw); go_simp; try (with_reducible rfl)
                          try simp only [Act.put, List.setIfInBounds_toArray, List.set_cons_zero, List.set_cons_succ]
                          refine wpAnyH_take (i := 28) (oi := { dst := some 77, op := Op.fieldAddr 76 (Operand.tmp 76) 0, type := 0, pos := "ref.go:166", after := #[{ on := 27, ground := Ground.data }, { on := 21, ground := Ground.guard }], guard := some (21, false) }) (v := ?_) rfl (by kernel_rfl) (by kernel_rfl) (by kernel_rfl) (fun _ _ _ h => h) (Or.inl ⟨by rfl, ?_⟩) (by assumption) ?_
                          rotate_left
                          · intro w9 hSw; (try dsimp only at hSw); go_simp; try (with_reducible rfl)
                          try simp only [Act.put, List.setIfInBounds_toArray, List.set_cons_zero, List.set_cons_succ]
                          refine wpAnyH_take (i := 29) (oi := { dst := some 78, op := Op.fieldAddr 68 (Operand.tmp 77) 3, type := 0, pos := "ref.go:166", after := #[{ on := 28, ground := Ground.data }, { on := 21, ground := Ground.guard }], guard := some (21, false) }) (v := ?_) rfl (by kernel_rfl) (by kernel_rfl) (by kernel_rfl) (fun _ _ _ h => h) (Or.inl ⟨by rfl, ?_⟩) (by assumption) ?_
                          rotate_left
                          · intro w9 hSw; (try dsimp only at hSw); go_simp; try (with_reducible rfl)
                          try simp only [Act.put, List.setIfInBounds_toArray, List.set_cons_zero, List.set_cons_succ]
                          refine wpAnyH_take (i := 30) (oi := { dst := some 79, op := Op.load 3 (Operand.tmp 78), type := 3, pos := "ref.go:166", after := #[{ on := 29, ground := Ground.data }, { on := 21, ground := Ground.guard }], guard := some (21, false) }) (v := ?_) rfl (by kernel_rfl) (by kernel_rfl) (by kernel_rfl) (fun _ _ _ h => h) (Or.inl ⟨by rfl, ?_⟩) (by assumption) ?_
                          rotate_left
                          · intro w9 hSw; (try dsimp only at hSw); go_simp; try (with_reducible rfl)
                          try simp only [Act.put, List.setIfInBounds_toArray, List.set_cons_zero, List.set_cons_succ]
                          refine wpAnyH_take (i := 31) (oi := { dst := some 80, op := Op.binOp BinOp.gtr 3 (Operand.tmp 73) (Operand.tmp 79) 3, type := 4, pos := "ref.go:166", after := #[{ on := 24, ground := Ground.data }, { on := 30, ground := Ground.data }, { on := 21, ground := Ground.guard }], guard := some (21, false) }) (v := ?_) rfl (by kernel_rfl) (by kernel_rfl) (by kernel_rfl) (fun _ _ _ h => h) (Or.inl ⟨by rfl, ?_⟩) (by assumption) ?_
                          rotate_left
                          · intro w9 hSw; (try dsimp only at hSw); go_simp; try (with_reducible rfl)
                          try simp only [Act.put, List.setIfInBounds_toArray, List.set_cons_zero, List.set_cons_succ]
                          refine wpAnyH_take (i := 32) (oi := { dst := some 81, op := Op.pick (Operand.tmp 70) (Operand.const (Value.bool true)) (Operand.tmp 80), type := 4, pos := "ref.go:166", after := #[{ on := 21, ground := Ground.data }, { on := 31, ground := Ground.data }, { on := 18, ground := Ground.guard }], guard := some (18, true) }) (v := ?_) rfl (by kernel_rfl) (by kernel_rfl) (by kernel_rfl) (fun _ _ _ h => h) (Or.inl ⟨by rfl, ?_⟩) (by assumption) ?_
                          rotate_left
                          · intro w9 hSw; (try dsimp only at hSw); go_simp; try (with_reducible rfl)
                          try simp only [Act.put, List.setIfInBounds_toArray, List.set_cons_zero, List.set_cons_succ]
                          refine wpAnyH_ready (rs := [33]) (by kernel_rfl) (by simp) ?_
                          refine AllReadyH.cons (o := { dst := some 82, op := Op.pick (Operand.tmp 67) (Operand.tmp 81) (Operand.const (Value.bool false)), type := 4, pos := "ref.go:166", after := #[{ on := 18, ground := Ground.data }, { on := 32, ground := Ground.data }], guard := none }) rfl (fun K hK => ?_) AllReadyH.nil
                          go_simp
                          refine hK.out _ _ ?_ (fun hHeld2 => ?_)
                          · (try dsimp only); go_keep
                          clear hK K
                          try simp only [Act.put, List.setIfInBounds_toArray, List.set_cons_zero, List.set_cons_succ]
                          refine wpAnyH_done (by kernel_rfl) ?_ _
                          go_wp2
                          go_roundw
                          case rel => exact ⟨k + 1, by go_num, by rw [HN.out]; rfl, by omega, below_drew HB5.out⟩
                          case measure => simp [intOf]; omega
              · obtain rfl : k = l.length := by omega
                have hpk := HPI.out l.length (by omega)
                generalize prevP l x l.length = prev at *
                obtain ⟨b0, b1, b2, b3, b4, b5, b6, b7, b8, b9⟩ := bx2_cells (HX3.out.below HB4.out)
                have HBE := Lib.hid (HW2.out.trans (HB42.out.mono HW2.out.size) : Below w.heap.size w wr)
                cases prev with
                | none =>
                  simp only [prevV]
                  cases hK : (x.f0.f1.f0 == 6)
                  · go_wp2
                    go_roundw
                    case rel => exact ⟨i + 1, by go_num, by omega, HNXT.out (by rw [HALL.out]; simp [badA, hK]), HB42.out⟩
                    case measure => simp [intOf]; omega
                  · go_wp2
                    go_ret
                    exact ⟨ret_bool (apartR_false hlt (by rw [HALL.out]; simp [badA, hK])).symm, HBE.out⟩
                | some p =>
                  have hp := hpk p rfl
                  have hpl : p < l.length := hp
                  obtain ⟨ad', ead, k0, k1, k2, k3, k4, k5, k6, k7, k8, k9⟩ := at_T76 (Kd.C_below HC2.out HB42.out) (p : Int) (by omega) (by omega)
                  obtain rfl : ad = ad' := by simpa using ead
                  clear ead
                  rw [Int.toNat_natCast] at *
                  have HALL1 := Lib.hid (show apartAll l i = (((rd_T76 l p).f0.f0 != x.f0.f0) && (((rd_T76 l p).f0.f1.f2 != 0) || (x.f0.f1.f0 == 6))) from HALL.out)
                  generalize rd_T76 l (p : Int) = z at *
                  simp only [prevV]
                  cases hT : (z.f0.f0 != x.f0.f0)
                  · go_upto_region 21 with fail
                    refine wp_region_held_drew (S := (fun w' => w'.cell? ⟨bn, 0, none⟩ = some (.int .i64 x.f0.f0) ∧ w'.cell? ⟨bn, 1, none⟩ = some (.int .i64 x.f0.f1.f0) ∧ w'.cell? ⟨bn, 2, none⟩ = some (.int .i64 x.f0.f1.f1) ∧ w'.cell? ⟨bn, 3, none⟩ = some (.int .i64 x.f0.f1.f2) ∧ w'.cell? ⟨bn, 4, none⟩ = some (.int .i64 x.f0.f1.f3) ∧ w'.cell? ⟨bn, 5, none⟩ = some (.bool x.f0.f1.f4) ∧ w'.cell? ⟨bn, 6, none⟩ = some (.bool x.f0.f1.f5) ∧ w'.cell? ⟨bn, 7, none⟩ = some (.int .i64 x.f0.f2) ∧ w'.cell? ⟨bn, 8, none⟩ = some (.int .i64 x.f0.f3) ∧ w'.cell? ⟨bn, 9, none⟩ = some (.int .i64 x.f1) ∧ w'.cell? (ad.add (p * 10)) = some (.int .i64 z.f0.f0) ∧ w'.cell? ⟨(ad.add (p * 10)).block, (ad.add (p * 10)).off + 1, none⟩ = some (.int .i64 z.f0.f1.f0) ∧ w'.cell? ⟨(ad.add (p * 10)).block, (ad.add (p * 10)).off + 2, none⟩ = some (.int .i64 z.f0.f1.f1) ∧ w'.cell? ⟨(ad.add (p * 10)).block, (ad.add (p * 10)).off + 3, none⟩ = some (.int .i64 z.f0.f1.f2) ∧ w'.cell? ⟨(ad.add (p * 10)).block, (ad.add (p * 10)).off + 4, none⟩ = some (.int .i64 z.f0.f1.f3) ∧ w'.cell? ⟨(ad.add (p * 10)).block, (ad.add (p * 10)).off + 5, none⟩ = some (.bool z.f0.f1.f4) ∧ w'.cell? ⟨(ad.add (p * 10)).block, (ad.add (p * 10)).off + 6, none⟩ = some (.bool z.f0.f1.f5) ∧ w'.cell? ⟨(ad.add (p * 10)).block, (ad.add (p * 10)).off + 7, none⟩ = some (.int .i64 z.f0.f2) ∧ w'.cell? ⟨(ad.add (p * 10)).block, (ad.add (p * 10)).off + 8, none⟩ = some (.int .i64 z.f0.f3) ∧ w'.cell? ⟨(ad.add (p * 10)).block, (ad.add (p * 10)).off + 9, none⟩ = some (.int .i64 z.f1))) (by kernel_rfl) ?_ (fun hHeld => ?_)
                    · (try dsimp only); go_keep
                    refine wpAnyH_take (i := 0) (oi := { dst := some 92, op := Op.move (Operand.tmp 3), type := 86, pos := "ref.go:176", after := #[], guard := none }) (v := ?_) rfl (by kernel_rfl) (by kernel_rfl) (by kernel_rfl) (fun _ _ _ h => h) (Or.inl ⟨by rfl, ?_⟩) (by assumption) ?_
                    rotate_left
                    · intro w9 hSw; (try dsimp only at hSw); go_simp; try (with_reducible rfl)
                    try simp only [Act.put, List.setIfInBounds_toArray, List.set_cons_zero, List.set_cons_succ]
                    refine wpAnyH_take (i := 1) (oi := { dst := some 93, op := Op.move (Operand.tmp 8), type := 3, pos := "ref.go:176", after := #[], guard := none }) (v := ?_) rfl (by kernel_rfl) (by kernel_rfl) (by kernel_rfl) (fun _ _ _ h => h) (Or.inl ⟨by rfl, ?_⟩) (by assumption) ?_
                    rotate_left
                    · intro w9 hSw; (try dsimp only at hSw); go_simp; try (with_reducible rfl)
                    try simp only [Act.put, List.setIfInBounds_toArray, List.set_cons_zero, List.set_cons_succ]
                    refine wpAnyH_take (i := 2) (oi := { dst := some 94, op := Op.indexAddr 86 (Operand.tmp 92) (Operand.tmp 93), type := 0, pos := "ref.go:176", after := #[{ on := 0, ground := Ground.data }, { on := 1, ground := Ground.data }], guard := none }) (v := ?_) rfl (by kernel_rfl) (by kernel_rfl) (by kernel_rfl) (fun _ _ _ h => h) (Or.inl ⟨by rfl, ?_⟩) (by assumption) ?_
                    rotate_left
                    · intro w9 hSw; (try dsimp only at hSw); go_simp; try (with_reducible rfl)
                    try simp only [Act.put, List.setIfInBounds_toArray, List.set_cons_zero, List.set_cons_succ]
                    refine wpAnyH_take (i := 3) (oi := { dst := some 95, op := Op.fieldAddr 76 (Operand.tmp 94) 0, type := 0, pos := "ref.go:176", after := #[{ on := 2, ground := Ground.data }], guard := none }) (v := ?_) rfl (by kernel_rfl) (by kernel_rfl) (by kernel_rfl) (fun _ _ _ h => h) (Or.inl ⟨by rfl, ?_⟩) (by assumption) ?_
                    rotate_left
                    · intro w9 hSw; (try dsimp only at hSw); go_simp; try (with_reducible rfl)
                    try simp only [Act.put, List.setIfInBounds_toArray, List.set_cons_zero, List.set_cons_succ]
                    refine wpAnyH_take (i := 4) (oi := { dst := some 96, op := Op.fieldAddr 68 (Operand.tmp 95) 0, type := 0, pos := "ref.go:176", after := #[{ on := 3, ground := Ground.data }], guard := none }) (v := ?_) rfl (by kernel_rfl) (by kernel_rfl) (by kernel_rfl) (fun _ _ _ h => h) (Or.inl ⟨by rfl, ?_⟩) (by assumption) ?_
                    rotate_left
                    · intro w9 hSw; (try dsimp only at hSw); go_simp; try (with_reducible rfl)
                    try simp only [Act.put, List.setIfInBounds_toArray, List.set_cons_zero, List.set_cons_succ]
                    refine wpAnyH_take (i := 5) (oi := { dst := some 97, op := Op.load 3 (Operand.tmp 96), type := 3, pos := "ref.go:176", after := #[{ on := 4, ground := Ground.data }], guard := none }) (v := ?_) rfl (by kernel_rfl) (by kernel_rfl) (by kernel_rfl) (fun _ _ _ h => h) (Or.inl ⟨by rfl, ?_⟩) (by assumption) ?_
                    rotate_left
                    · intro w9 hSw; (try dsimp only at hSw); go_simp; try (with_reducible rfl)
                    try simp only [Act.put, List.setIfInBounds_toArray, List.set_cons_zero, List.set_cons_succ]
                    refine wpAnyH_take (i := 6) (oi := { dst := some 98, op := Op.fieldAddr 76 (Operand.tmp 7) 0, type := 0, pos := "ref.go:176", after := #[], guard := none }) (v := ?_) rfl (by kernel_rfl) (by kernel_rfl) (by kernel_rfl) (fun _ _ _ h => h) (Or.inl ⟨by rfl, ?_⟩) (by assumption) ?_
                    rotate_left
                    · intro w9 hSw; (try dsimp only at hSw); go_simp; try (with_reducible rfl)
                    try simp only [Act.put, List.setIfInBounds_toArray, List.set_cons_zero, List.set_cons_succ]
                    refine wpAnyH_take (i := 7) (oi := { dst := some 99, op := Op.fieldAddr 68 (Operand.tmp 98) 0, type := 0, pos := "ref.go:176", after := #[{ on := 6, ground := Ground.data }], guard := none }) (v := ?_) rfl (by kernel_rfl) (by kernel_rfl) (by kernel_rfl) (fun _ _ _ h => h) (Or.inl ⟨by rfl, ?_⟩) (by assumption) ?_
                    rotate_left
                    · intro w9 hSw; (try dsimp only at hSw); go_simp; try (with_reducible rfl)
                    try simp only [Act.put, List.setIfInBounds_toArray, List.set_cons_zero, List.set_cons_succ]
                    refine wpAnyH_take (i := 8) (oi := { dst := some 100, op := Op.load 3 (Operand.tmp 99), type := 3, pos := "ref.go:176", after := #[{ on := 7, ground := Ground.data }], guard := none }) (v := ?_) rfl (by kernel_rfl) (by kernel_rfl) (by kernel_rfl) (fun _ _ _ h => h) (Or.inl ⟨by rfl, ?_⟩) (by assumption) ?_
                    rotate_left
                    · intro w9 hSw; (try dsimp only at hSw); go_simp; try (with_reducible rfl)
                    try simp only [Act.put, List.setIfInBounds_toArray, List.set_cons_zero, List.set_cons_succ]
                    refine wpAnyH_take (i := 9) (oi := { dst := some 101, op := Op.binOp BinOp.neq 3 (Operand.tmp 97) (Operand.tmp 100) 3, type := 4, pos := "ref.go:176", after := #[{ on := 5, ground := Ground.data }, { on := 8, ground := Ground.data }], guard := none }) (v := ?_) rfl (by kernel_rfl) (by kernel_rfl) (by kernel_rfl) (fun _ _ _ h => h) (Or.inl ⟨by rfl, ?_⟩) (by assumption) ?_
                    rotate_left
                    · intro w9 hSw; (try dsimp only at hSw); go_simp; try (with_reducible rfl)
                    try simp only [Act.put, List.setIfInBounds_toArray, List.set_cons_zero, List.set_cons_succ]
                    refine wpAnyH_take (i := 10) (oi := { dst := some 102, op := Op.move (Operand.tmp 101), type := 4, pos := "ref.go:176", after := #[{ on := 9, ground := Ground.data }], guard := none }) (v := ?_) rfl (by kernel_rfl) (by kernel_rfl) (by kernel_rfl) (fun _ _ _ h => h) (Or.inl ⟨by rfl, ?_⟩) (by assumption) ?_
                    rotate_left
                    · intro w9 hSw; (try dsimp only at hSw); go_simp; try (with_reducible rfl)
                    try simp only [Act.put, List.setIfInBounds_toArray, List.set_cons_zero, List.set_cons_succ]
                    refine wpAnyH_take (i := 11) (oi := { dst := some 103, op := Op.move (Operand.tmp 3), type := 86, pos := "ref.go:176", after := #[{ on := 10, ground := Ground.guard }], guard := some (10, true) }) (v := undef) rfl (by kernel_rfl) (by kernel_rfl) (by kernel_rfl) (fun _ _ _ h => h) (Or.inr ⟨by rfl, rfl⟩) (by assumption) ?_
                    try simp only [Act.put, List.setIfInBounds_toArray, List.set_cons_zero, List.set_cons_succ]
                    refine wpAnyH_take (i := 12) (oi := { dst := some 104, op := Op.move (Operand.tmp 8), type := 3, pos := "ref.go:176", after := #[{ on := 10, ground := Ground.guard }], guard := some (10, true) }) (v := undef) rfl (by kernel_rfl) (by kernel_rfl) (by kernel_rfl) (fun _ _ _ h => h) (Or.inr ⟨by rfl, rfl⟩) (by assumption) ?_
                    try simp only [Act.put, List.setIfInBounds_toArray, List.set_cons_zero, List.set_cons_succ]
                    refine wpAnyH_take (i := 13) (oi := { dst := some 105, op := Op.indexAddr 86 (Operand.tmp 103) (Operand.tmp 104), type := 0, pos := "ref.go:176", after := #[{ on := 11, ground := Ground.data }, { on := 12, ground := Ground.data }, { on := 10, ground := Ground.guard }], guard := some (10, true) }) (v := undef) rfl (by kernel_rfl) (by kernel_rfl) (by kernel_rfl) (fun _ _ _ h => h) (Or.inr ⟨by rfl, rfl⟩) (by assumption) ?_
                    try simp only [Act.put, List.setIfInBounds_toArray, List.set_cons_zero, List.set_cons_succ]
                    refine wpAnyH_take (i := 14) (oi := { dst := some 106, op := Op.fieldAddr 76 (Operand.tmp 105) 0, type := 0, pos := "ref.go:176", after := #[{ on := 13, ground := Ground.data }, { on := 10, ground := Ground.guard }], guard := some (10, true) }) (v := undef) rfl (by kernel_rfl) (by kernel_rfl) (by kernel_rfl) (fun _ _ _ h => h) (Or.inr ⟨by rfl, rfl⟩) (by assumption) ?_
                    try simp only [Act.put, List.setIfInBounds_toArray, List.set_cons_zero, List.set_cons_succ]
                    refine wpAnyH_take (i := 15) (oi := { dst := some 107, op := Op.fieldAddr 68 (Operand.tmp 106) 1, type := 0, pos := "ref.go:176", after := #[{ on := 14, ground := Ground.data }, { on := 10, ground := Ground.guard }], guard := some (10, true) }) (v := undef) rfl (by kernel_rfl) (by kernel_rfl) (by kernel_rfl) (fun _ _ _ h => h) (Or.inr ⟨by rfl, rfl⟩) (by assumption) ?_
                    try simp only [Act.put, List.setIfInBounds_toArray, List.set_cons_zero, List.set_cons_succ]
                    refine wpAnyH_take (i := 16) (oi := { dst := some 108, op := Op.fieldAddr 54 (Operand.tmp 107) 2, type := 0, pos := "ref.go:176", after := #[{ on := 15, ground := Ground.data }, { on := 10, ground := Ground.guard }], guard := some (10, true) }) (v := undef) rfl (by kernel_rfl) (by kernel_rfl) (by kernel_rfl) (fun _ _ _ h => h) (Or.inr ⟨by rfl, rfl⟩) (by assumption) ?_
                    try simp only [Act.put, List.setIfInBounds_toArray, List.set_cons_zero, List.set_cons_succ]
                    refine wpAnyH_take (i := 17) (oi := { dst := some 109, op := Op.load 3 (Operand.tmp 108), type := 3, pos := "ref.go:176", after := #[{ on := 16, ground := Ground.data }, { on := 10, ground := Ground.guard }], guard := some (10, true) }) (v := undef) rfl (by kernel_rfl) (by kernel_rfl) (by kernel_rfl) (fun _ _ _ h => h) (Or.inr ⟨by rfl, rfl⟩) (by assumption) ?_
                    try simp only [Act.put, List.setIfInBounds_toArray, List.set_cons_zero, List.set_cons_succ]
                    refine wpAnyH_take (i := 18) (oi := { dst := some 110, op := Op.binOp BinOp.neq 3 (Operand.tmp 109) (Operand.const (Value.int IntKind.i64 0)) 3, type := 4, pos := "ref.go:176", after := #[{ on := 17, ground := Ground.data }, { on := 10, ground := Ground.guard }], guard := some (10, true) }) (v := undef) rfl (by kernel_rfl) (by kernel_rfl) (by kernel_rfl) (fun _ _ _ h => h) (Or.inr ⟨by rfl, rfl⟩) (by assumption) ?_
                    try simp only [Act.put, List.setIfInBounds_toArray, List.set_cons_zero, List.set_cons_succ]
                    refine wpAnyH_take (i := 19) (oi := { dst := some 111, op := Op.move (Operand.tmp 110), type := 4, pos := "ref.go:176", after := #[{ on := 18, ground := Ground.data }, { on := 10, ground := Ground.chain }, { on := 10, ground := Ground.guard }], guard := some (10, true) }) (v := undef) rfl (by kernel_rfl) (by kernel_rfl) (by kernel_rfl) (fun _ _ _ h => h) (Or.inr ⟨by rfl, rfl⟩) (by assumption) ?_
                    try simp only [Act.put, List.setIfInBounds_toArray, List.set_cons_zero, List.set_cons_succ]
                    refine wpAnyH_take (i := 20) (oi := { dst := some 112, op := Op.fieldAddr 76 (Operand.tmp 7) 0, type := 0, pos := "ref.go:176", after := #[{ on := 19, ground := Ground.guard }], guard := some (19, false) }) (v := undef) rfl (by kernel_rfl) (by kernel_rfl) (by kernel_rfl) (fun _ _ _ h => h) (Or.inr ⟨by rfl, rfl⟩) (by assumption) ?_
                    try simp only [Act.put, List.setIfInBounds_toArray, List.set_cons_zero, List.set_cons_succ]
                    refine wpAnyH_take (i := 21) (oi := { dst := some 113, op := Op.fieldAddr 68 (Operand.tmp 112) 1, type := 0, pos := "ref.go:176", after := #[{ on := 20, ground := Ground.data }, { on := 19, ground := Ground.guard }], guard := some (19, false) }) (v := undef) rfl (by kernel_rfl) (by kernel_rfl) (by kernel_rfl) (fun _ _ _ h => h) (Or.inr ⟨by rfl, rfl⟩) (by assumption) ?_
                    try simp only [Act.put, List.setIfInBounds_toArray, List.set_cons_zero, List.set_cons_succ]
                    refine wpAnyH_take (i := 22) (oi := { dst := some 114, op := Op.fieldAddr 54 (Operand.tmp 113) 0, type := 0, pos := "ref.go:176", after := #[{ on := 21, ground := Ground.data }, { on := 19, ground := Ground.guard }], guard := some (19, false) }) (v := undef) rfl (by kernel_rfl) (by kernel_rfl) (by kernel_rfl) (fun _ _ _ h => h) (Or.inr ⟨by rfl, rfl⟩) (by assumption) ?_
                    try simp only [Act.put, List.setIfInBounds_toArray, List.set_cons_zero, List.set_cons_succ]
                    refine wpAnyH_take (i := 23) (oi := { dst := some 115, op := Op.load 3 (Operand.tmp 114), type := 3, pos := "ref.go:176", after := #[{ on := 22, ground := Ground.data }, { on := 19, ground := Ground.guard }], guard := some (19, false) }) (v := undef) rfl (by kernel_rfl) (by kernel_rfl) (by kernel_rfl) (fun _ _ _ h => h) (Or.inr ⟨by rfl, rfl⟩) (by assumption) ?_
                    try simp only [Act.put, List.setIfInBounds_toArray, List.set_cons_zero, List.set_cons_succ]
                    refine wpAnyH_take (i := 24) (oi := { dst := some 116, op := Op.binOp BinOp.eql 3 (Operand.tmp 115) (Operand.const (Value.int IntKind.i64 6)) 3, type := 4, pos := "ref.go:176", after := #[{ on := 23, ground := Ground.data }, { on := 19, ground := Ground.guard }], guard := some (19, false) }) (v := undef) rfl (by kernel_rfl) (by kernel_rfl) (by kernel_rfl) (fun _ _ _ h => h) (Or.inr ⟨by rfl, rfl⟩) (by assumption) ?_
                    try simp only [Act.put, List.setIfInBounds_toArray, List.set_cons_zero, List.set_cons_succ]
                    refine wpAnyH_take (i := 25) (oi := { dst := some 117, op := Op.pick (Operand.tmp 111) (Operand.const (Value.bool true)) (Operand.tmp 116), type := 4, pos := "ref.go:176", after := #[{ on := 19, ground := Ground.data }, { on := 24, ground := Ground.data }, { on := 10, ground := Ground.guard }], guard := some (10, true) }) (v := undef) rfl (by kernel_rfl) (by kernel_rfl) (by kernel_rfl) (fun _ _ _ h => h) (Or.inr ⟨by rfl, rfl⟩) (by assumption) ?_
                    try simp only [Act.put, List.setIfInBounds_toArray, List.set_cons_zero, List.set_cons_succ]
                    refine wpAnyH_ready (rs := [26]) (by kernel_rfl) (by simp) ?_
                    refine AllReadyH.cons (o := { dst := some 118, op := Op.pick (Operand.tmp 102) (Operand.tmp 117) (Operand.const (Value.bool false)), type := 4, pos := "ref.go:176", after := #[{ on := 10, ground := Ground.data }, { on := 25, ground := Ground.data }], guard := none }) rfl (fun K hK => ?_) AllReadyH.nil
                    go_simp
                    refine hK.out _ _ ?_ (fun hHeld2 => ?_)
                    · (try dsimp only); go_keep
                    clear hK K
                    try simp only [Act.put, List.setIfInBounds_toArray, List.set_cons_zero, List.set_cons_succ]
                    refine wpAnyH_done (by kernel_rfl) ?_ _
                    go_wp2
                    go_roundw
                    case rel => exact ⟨i + 1, by go_num, by omega, HNXT.out (by rw [HALL1.out, hT]; rfl), below_drew HB42.out⟩
                    case measure => simp [intOf]; omega
                  · cases hV : (z.f0.f1.f2 != 0)
                    · cases hK : (x.f0.f1.f0 == 6)
                      · go_upto_region 21 with fail
                        refine wp_region_held_drew (S := (fun w' => w'.cell? ⟨bn, 0, none⟩ = some (.int .i64 x.f0.f0) ∧ w'.cell? ⟨bn, 1, none⟩ = some (.int .i64 x.f0.f1.f0) ∧ w'.cell? ⟨bn, 2, none⟩ = some (.int .i64 x.f0.f1.f1) ∧ w'.cell? ⟨bn, 3, none⟩ = some (.int .i64 x.f0.f1.f2) ∧ w'.cell? ⟨bn, 4, none⟩ = some (.int .i64 x.f0.f1.f3) ∧ w'.cell? ⟨bn, 5, none⟩ = some (.bool x.f0.f1.f4) ∧ w'.cell? ⟨bn, 6, none⟩ = some (.bool x.f0.f1.f5) ∧ w'.cell? ⟨bn, 7, none⟩ = some (.int .i64 x.f0.f2) ∧ w'.cell? ⟨bn, 8, none⟩ = some (.int .i64 x.f0.f3) ∧ w'.cell? ⟨bn, 9, none⟩ = some (.int .i64 x.f1) ∧ w'.cell? (ad.add (p * 10)) = some (.int .i64 z.f0.f0) ∧ w'.cell? ⟨(ad.add (p * 10)).block, (ad.add (p * 10)).off + 1, none⟩ = some (.int .i64 z.f0.f1.f0) ∧ w'.cell? ⟨(ad.add (p * 10)).block, (ad.add (p * 10)).off + 2, none⟩ = some (.int .i64 z.f0.f1.f1) ∧ w'.cell? ⟨(ad.add (p * 10)).block, (ad.add (p * 10)).off + 3, none⟩ = some (.int .i64 z.f0.f1.f2) ∧ w'.cell? ⟨(ad.add (p * 10)).block, (ad.add (p * 10)).off + 4, none⟩ = some (.int .i64 z.f0.f1.f3) ∧ w'.cell? ⟨(ad.add (p * 10)).block, (ad.add (p * 10)).off + 5, none⟩ = some (.bool z.f0.f1.f4) ∧ w'.cell? ⟨(ad.add (p * 10)).block, (ad.add (p * 10)).off + 6, none⟩ = some (.bool z.f0.f1.f5) ∧ w'.cell? ⟨(ad.add (p * 10)).block, (ad.add (p * 10)).off + 7, none⟩ = some (.int .i64 z.f0.f2) ∧ w'.cell? ⟨(ad.add (p * 10)).block, (ad.add (p * 10)).off + 8, none⟩ = some (.int .i64 z.f0.f3) ∧ w'.cell? ⟨(ad.add (p * 10)).block, (ad.add (p * 10)).off + 9, none⟩ = some (.int .i64 z.f1))) (by kernel_rfl) ?_ (fun hHeld => ?_)
                        · (try dsimp only); go_keep
                        refine wpAnyH_take (i := 0) (oi := { dst := some 92, op := Op.move (Operand.tmp 3), type := 86, pos := "ref.go:176", after := #[], guard := none }) (v := ?_) rfl (by kernel_rfl) (by kernel_rfl) (by kernel_rfl) (fun _ _ _ h => h) (Or.inl ⟨by rfl, ?_⟩) (by assumption) ?_
                        rotate_left
                        · intro w9 hSw; (try dsimp only at hSw); go_simp; try (with_reducible rfl)
                        try simp only [Act.put, List.setIfInBounds_toArray, List.set_cons_zero, List.set_cons_succ]
                        refine wpAnyH_take (i := 1) (oi := { dst := some 93, op := Op.move (Operand.tmp 8), type := 3, pos := "ref.go:176", after := #[], guard := none }) (v := ?_) rfl (by kernel_rfl) (by kernel_rfl) (by kernel_rfl) (fun _ _ _ h => h) (Or.inl ⟨by rfl, ?_⟩) (by assumption) ?_
                        rotate_left
                        · intro w9 hSw; (try dsimp only at hSw); go_simp; try (with_reducible rfl)
                        try simp only [Act.put, List.setIfInBounds_toArray, List.set_cons_zero, List.set_cons_succ]
                        refine wpAnyH_take (i := 2) (oi := { dst := some 94, op := Op.indexAddr 86 (Operand.tmp 92) (Operand.tmp 93), type := 0, pos := "ref.go:176", after := #[{ on := 0, ground := Ground.data }, { on := 1, ground := Ground.data }], guard := none }) (v := ?_) rfl (by kernel_rfl) (by kernel_rfl) (by kernel_rfl) (fun _ _ _ h => h) (Or.inl ⟨by rfl, ?_⟩) (by assumption) ?_
                        rotate_left
                        · intro w9 hSw; (try dsimp only at hSw); go_simp; try (with_reducible rfl)
                        try simp only [Act.put, List.setIfInBounds_toArray, List.set_cons_zero, List.set_cons_succ]
                        refine wpAnyH_take (i := 3) (oi := { dst := some 95, op := Op.fieldAddr 76 (Operand.tmp 94) 0, type := 0, pos := "ref.go:176", after := #[{ on := 2, ground := Ground.data }], guard := none }) (v := ?_) rfl (by kernel_rfl) (by kernel_rfl) (by kernel_rfl) (fun _ _ _ h => h) (Or.inl ⟨by rfl, ?_⟩) (by assumption) ?_
                        rotate_left
                        · intro w9 hSw; (try dsimp only at hSw); go_simp; try (with_reducible rfl)
                        try simp only [Act.put, List.setIfInBounds_toArray, List.set_cons_zero, List.set_cons_succ]
                        refine wpAnyH_take (i := 4) (oi := { dst := some 96, op := Op.fieldAddr 68 (Operand.tmp 95) 0, type := 0, pos := "ref.go:176", after := #[{ on := 3, ground := Ground.data }], guard := none }) (v := ?_) rfl (by kernel_rfl) (by kernel_rfl) (by kernel_rfl) (fun _ _ _ h => h) (Or.inl ⟨by rfl, ?_⟩) (by assumption) ?_
                        rotate_left
                        · intro w9 hSw; (try dsimp only at hSw); go_simp; try (with_reducible rfl)
                        try simp only [Act.put, List.setIfInBounds_toArray, List.set_cons_zero, List.set_cons_succ]
                        refine wpAnyH_take (i := 5) (oi := { dst := some 97, op := Op.load 3 (Operand.tmp 96), type := 3, pos := "ref.go:176", after := #[{ on := 4, ground := Ground.data }], guard := none }) (v := ?_) rfl (by kernel_rfl) (by kernel_rfl) (by kernel_rfl) (fun _ _ _ h => h) (Or.inl ⟨by rfl, ?_⟩) (by assumption) ?_
                        rotate_left
                        · intro w9 hSw; (try dsimp only at hSw); go_simp; try (with_reducible rfl)
                        try simp only [Act.put, List.setIfInBounds_toArray, List.set_cons_zero, List.set_cons_succ]
                        refine wpAnyH_take (i := 6) (oi := { dst := some 98, op := Op.fieldAddr 76 (Operand.tmp 7) 0, type := 0, pos := "ref.go:176", after := #[], guard := none }) (v := ?_) rfl (by kernel_rfl) (by kernel_rfl) (by kernel_rfl) (fun _ _ _ h => h) (Or.inl ⟨by rfl, ?_⟩) (by assumption) ?_
                        rotate_left
                        · intro w9 hSw; (try dsimp only at hSw); go_simp; try (with_reducible rfl)
                        try simp only [Act.put, List.setIfInBounds_toArray, List.set_cons_zero, List.set_cons_succ]
                        refine wpAnyH_take (i := 7) (oi := { dst := some 99, op := Op.fieldAddr 68 (Operand.tmp 98) 0, type := 0, pos := "ref.go:176", after := #[{ on := 6, ground := Ground.data }], guard := none }) (v := ?_) rfl (by kernel_rfl) (by kernel_rfl) (by kernel_rfl) (fun _ _ _ h => h) (Or.inl ⟨by rfl, ?_⟩) (by assumption) ?_
                        rotate_left
                        · intro w9 hSw; (try dsimp only at hSw); go_simp; try (with_reducible rfl)
                        try simp only [Act.put, List.setIfInBounds_toArray, List.set_cons_zero, List.set_cons_succ]
                        refine wpAnyH_take (i := 8) (oi := { dst := some 100, op := Op.load 3 (Operand.tmp 99), type := 3, pos := "ref.go:176", after := #[{ on := 7, ground := Ground.data }], guard := none }) (v := ?_) rfl (by kernel_rfl) (by kernel_rfl) (by kernel_rfl) (fun _ _ _ h => h) (Or.inl ⟨by rfl, ?_⟩) (by assumption) ?_
                        rotate_left
                        · intro w9 hSw; (try dsimp only at hSw); go_simp; try (with_reducible rfl)
                        try simp only [Act.put, List.setIfInBounds_toArray, List.set_cons_zero, List.set_cons_succ]
                        refine wpAnyH_take (i := 9) (oi := { dst := some 101, op := Op.binOp BinOp.neq 3 (Operand.tmp 97) (Operand.tmp 100) 3, type := 4, pos := "ref.go:176", after := #[{ on := 5, ground := Ground.data }, { on := 8, ground := Ground.data }], guard := none }) (v := ?_) rfl (by kernel_rfl) (by kernel_rfl) (by kernel_rfl) (fun _ _ _ h => h) (Or.inl ⟨by rfl, ?_⟩) (by assumption) ?_
                        rotate_left
                        · intro w9 hSw; (try dsimp only at hSw); go_simp; try (with_reducible rfl)
                        try simp only [Act.put, List.setIfInBounds_toArray, List.set_cons_zero, List.set_cons_succ]
                        refine wpAnyH_take (i := 10) (oi := { dst := some 102, op := Op.move (Operand.tmp 101), type := 4, pos := "ref.go:176", after := #[{ on := 9, ground := Ground.data }], guard := none }) (v := ?_) rfl (by kernel_rfl) (by kernel_rfl) (by kernel_rfl) (fun _ _ _ h => h) (Or.inl ⟨by rfl, ?_⟩) (by assumption) ?_
                        rotate_left
                        · intro w9 hSw; (try dsimp only at hSw); go_simp; try (with_reducible rfl)
                        try simp only [Act.put, List.setIfInBounds_toArray, List.set_cons_zero, List.set_cons_succ]
                        refine wpAnyH_take (i := 11) (oi := { dst := some 103, op := Op.move (Operand.tmp 3), type := 86, pos := "ref.go:176", after := #[{ on := 10, ground := Ground.guard }], guard := some (10, true) }) (v := ?_) rfl (by kernel_rfl) (by kernel_rfl) (by kernel_rfl) (fun _ _ _ h => h) (Or.inl ⟨by rfl, ?_⟩) (by assumption) ?_
                        rotate_left
                        · intro w9 hSw; (try dsimp only at hSw); go_simp; try (with_reducible rfl)
                        try simp only [Act.put, List.setIfInBounds_toArray, List.set_cons_zero, List.set_cons_succ]
                        refine wpAnyH_take (i := 12) (oi := { dst := some 104, op := Op.move (Operand.tmp 8), type := 3, pos := "ref.go:176", after := #[{ on := 10, ground := Ground.guard }], guard := some (10, true) }) (v := ?_) rfl (by kernel_rfl) (by kernel_rfl) (by kernel_rfl) (fun _ _ _ h => h) (Or.inl ⟨by rfl, ?_⟩) (by assumption) ?_
                        rotate_left
                        · intro w9 hSw; (try dsimp only at hSw); go_simp; try (with_reducible rfl)
                        try simp only [Act.put, List.setIfInBounds_toArray, List.set_cons_zero, List.set_cons_succ]
                        refine wpAnyH_take (i := 13) (oi := { dst := some 105, op := Op.indexAddr 86 (Operand.tmp 103) (Operand.tmp 104), type := 0, pos := "ref.go:176", after := #[{ on := 11, ground := Ground.data }, { on := 12, ground := Ground.data }, { on := 10, ground := Ground.guard }], guard := some (10, true) }) (v := ?_) rfl (by kernel_rfl) (by kernel_rfl) (by kernel_rfl) (fun _ _ _ h => h) (Or.inl ⟨by rfl, ?_⟩) (by assumption) ?_
                        rotate_left
                        · intro w9 hSw; (try dsimp only at hSw); go_simp; try (with_reducible rfl)
                        try simp only [Act.put, List.setIfInBounds_toArray, List.set_cons_zero, List.set_cons_succ]
                        refine wpAnyH_take (i := 14) (oi := { dst := some 106, op := Op.fieldAddr 76 (Operand.tmp 105) 0, type := 0, pos := "ref.go:176", after := #[{ on := 13, ground := Ground.data }, { on := 10, ground := Ground.guard }], guard := some (10, true) }) (v := ?_) rfl (by kernel_rfl) (by kernel_rfl) (by kernel_rfl) (fun _ _ _ h => h) (Or.inl ⟨by rfl, ?_⟩) (by assumption) ?_
                        rotate_left
                        · intro w9 hSw; (try dsimp only at hSw); go_simp; try (with_reducible rfl)
                        try simp only [Act.put, List.setIfInBounds_toArray, List.set_cons_zero, List.set_cons_succ]
                        refine wpAnyH_take (i := 15) (oi := { dst := some 107, op := Op.fieldAddr 68 (Operand.tmp 106) 1, type := 0, pos := "ref.go:176", after := #[{ on := 14, ground := Ground.data }, { on := 10, ground := Ground.guard }], guard := some (10, true) }) (v := ?_) rfl (by kernel_rfl) (by kernel_rfl) (by kernel_rfl) (fun _ _ _ h => h) (Or.inl ⟨by rfl, ?_⟩) (by assumption) ?_
                        rotate_left
                        · intro w9 hSw; (try dsimp only at hSw); go_simp; try (with_reducible rfl)
                        try simp only [Act.put, List.setIfInBounds_toArray, List.set_cons_zero, List.set_cons_succ]
                        refine wpAnyH_take (i := 16) (oi := { dst := some 108, op := Op.fieldAddr 54 (Operand.tmp 107) 2, type := 0, pos := "ref.go:176", after := #[{ on := 15, ground := Ground.data }, { on := 10, ground := Ground.guard }], guard := some (10, true) }) (v := ?_) rfl (by kernel_rfl) (by kernel_rfl) (by kernel_rfl) (fun _ _ _ h => h) (Or.inl ⟨by rfl, ?_⟩) (by assumption) ?_
                        rotate_left
                        · intro w9 hSw; (try dsimp only at hSw); go_simp; try (with_reducible rfl)
                        try simp only [Act.put, List.setIfInBounds_toArray, List.set_cons_zero, List.set_cons_succ]
                        refine wpAnyH_take (i := 17) (oi := { dst := some 109, op := Op.load 3 (Operand.tmp 108), type := 3, pos := "ref.go:176", after := #[{ on := 16, ground := Ground.data }, { on := 10, ground := Ground.guard }], guard := some (10, true) }) (v := ?_) rfl (by kernel_rfl) (by kernel_rfl) (by kernel_rfl) (fun _ _ _ h => h) (Or.inl ⟨by rfl, ?_⟩) (by assumption) ?_
                        rotate_left
                        · intro w9 hSw; (try dsimp only at hSw); go_simp; try (with_reducible rfl)
                        try simp only [Act.put, List.setIfInBounds_toArray, List.set_cons_zero, List.set_cons_succ]
                        refine wpAnyH_take (i := 18) (oi := { dst := some 110, op := Op.binOp BinOp.neq 3 (Operand.tmp 109) (Operand.const (Value.int IntKind.i64 0)) 3, type := 4, pos := "ref.go:176", after := #[{ on := 17, ground := Ground.data }, { on := 10, ground := Ground.guard }], guard := some (10, true) }) (v := ?_) rfl (by kernel_rfl) (by kernel_rfl) (by kernel_rfl) (fun _ _ _ h => h) (Or.inl ⟨by rfl, ?_⟩) (by assumption) ?_
                        rotate_left
                        · intro w9 hSw; (try dsimp only at hSw); go_simp; try (with_reducible rfl)
                        try simp only [Act.put, List.setIfInBounds_toArray, List.set_cons_zero, List.set_cons_succ]
                        refine wpAnyH_take (i := 19) (oi := { dst := some 111, op := Op.move (Operand.tmp 110), type := 4, pos := "ref.go:176", after := #[{ on := 18, ground := Ground.data }, { on := 10, ground := Ground.chain }, { on := 10, ground := Ground.guard }], guard := some (10, true) }) (v := ?_) rfl (by kernel_rfl) (by kernel_rfl) (by kernel_rfl) (fun _ _ _ h => h) (Or.inl ⟨by rfl, ?_⟩) (by assumption) ?_
                        rotate_left
                        · intro w9 hSw; (try dsimp only at hSw); go_simp; try (with_reducible rfl)
                        try simp only [Act.put, List.setIfInBounds_toArray, List.set_cons_zero, List.set_cons_succ]
                        refine wpAnyH_take (i := 20) (oi := { dst := some 112, op := Op.fieldAddr 76 (Operand.tmp 7) 0, type := 0, pos := "ref.go:176", after := #[{ on := 19, ground := Ground.guard }], guard := some (19, false) }) (v := ?_) rfl (by kernel_rfl) (by kernel_rfl) (by kernel_rfl) (fun _ _ _ h => h) (Or.inl ⟨by rfl, ?_⟩) (by assumption) ?_
                        rotate_left
                        · intro w9 hSw; (try dsimp only at hSw); go_simp; try (with_reducible rfl)
                        try simp only [Act.put, List.setIfInBounds_toArray, List.set_cons_zero, List.set_cons_succ]
                        refine wpAnyH_take (i := 21) (oi := { dst := some 113, op := Op.fieldAddr 68 (Operand.tmp 112) 1, type := 0, pos := "ref.go:176", after := #[{ on := 20, ground := Ground.data }, { on := 19, ground := Ground.guard }], guard := some (19, false) }) (v := ?_) rfl (by kernel_rfl) (by kernel_rfl) (by kernel_rfl) (fun _ _ _ h => h) (Or.inl ⟨by rfl, ?_⟩) (by assumption) ?_
                        rotate_left
                        · intro w9 hSw; (try dsimp only at hSw); go_simp; try (with_reducible rfl)
                        try simp only [Act.put, List.setIfInBounds_toArray, List.set_cons_zero, List.set_cons_succ]
                        refine wpAnyH_take (i := 22) (oi := { dst := some 114, op := Op.fieldAddr 54 (Operand.tmp 113) 0, type := 0, pos := "ref.go:176", after := #[{ on := 21, ground := Ground.data }, { on := 19, ground := Ground.guard }], guard := some (19, false) }) (v := ?_) rfl (by kernel_rfl) (by kernel_rfl) (by kernel_rfl) (fun _ _ _ h => h) (Or.inl ⟨by rfl, ?_⟩) (by assumption) ?_
                        rotate_left
                        · intro w9 hSw; (try dsimp only at hSw); go_simp; try (with_reducible rfl)
                        try simp only [Act.put, List.setIfInBounds_toArray, List.set_cons_zero, List.set_cons_succ]
                        refine wpAnyH_take (i := 23) (oi := { dst := some 115, op := Op.load 3 (Operand.tmp 114), type := 3, pos := "ref.go:176", after := #[{ on := 22, ground := Ground.data }, { on := 19, ground := Ground.guard }], guard := some (19, false) }) (v := ?_) rfl (by kernel_rfl) (by kernel_rfl) (by kernel_rfl) (fun _ _ _ h => h) (Or.inl ⟨by rfl, ?_⟩) (by assumption) ?_
                        rotate_left
                        · intro w9 hSw; (try dsimp only at hSw); go_simp; try (with_reducible rfl)
                        try simp only [Act.put, List.setIfInBounds_toArray, List.set_cons_zero, List.set_cons_succ]
                        refine wpAnyH_take (i := 24) (oi := { dst := some 116, op := Op.binOp BinOp.eql 3 (Operand.tmp 115) (Operand.const (Value.int IntKind.i64 6)) 3, type := 4, pos := "ref.go:176", after := #[{ on := 23, ground := Ground.data }, { on := 19, ground := Ground.guard }], guard := some (19, false) }) (v := ?_) rfl (by kernel_rfl) (by kernel_rfl) (by kernel_rfl) (fun _ _ _ h => h) (Or.inl ⟨by rfl, ?_⟩) (by assumption) ?_
                        rotate_left
                        · intro w9 hSw; (try dsimp only at hSw); go_simp; try (with_reducible rfl)
                        try simp only [Act.put, List.setIfInBounds_toArray, List.set_cons_zero, List.set_cons_succ]
                        refine wpAnyH_take (i := 25) (oi := { dst := some 117, op := Op.pick (Operand.tmp 111) (Operand.const (Value.bool true)) (Operand.tmp 116), type := 4, pos := "ref.go:176", after := #[{ on := 19, ground := Ground.data }, { on := 24, ground := Ground.data }, { on := 10, ground := Ground.guard }], guard := some (10, true) }) (v := ?_) rfl (by kernel_rfl) (by kernel_rfl) (by kernel_rfl) (fun _ _ _ h => h) (Or.inl ⟨by rfl, ?_⟩) (by assumption) ?_
                        rotate_left
                        · intro w9 hSw; (try dsimp only at hSw); go_simp; try (with_reducible rfl)
                        try simp only [Act.put, List.setIfInBounds_toArray, List.set_cons_zero, List.set_cons_succ]
                        refine wpAnyH_ready (rs := [26]) (by kernel_rfl) (by simp) ?_
                        refine AllReadyH.cons (o := { dst := some 118, op := Op.pick (Operand.tmp 102) (Operand.tmp 117) (Operand.const (Value.bool false)), type := 4, pos := "ref.go:176", after := #[{ on := 10, ground := Ground.data }, { on := 25, ground := Ground.data }], guard := none }) rfl (fun K hK => ?_) AllReadyH.nil
                        go_simp
                        refine hK.out _ _ ?_ (fun hHeld2 => ?_)
                        · (try dsimp only); go_keep
                        clear hK K
                        try simp only [Act.put, List.setIfInBounds_toArray, List.set_cons_zero, List.set_cons_succ]
                        refine wpAnyH_done (by kernel_rfl) ?_ _
                        go_wp2
                        go_roundw
                        case rel => exact ⟨i + 1, by go_num, by omega, HNXT.out (by rw [HALL1.out, hT, hV, hK]; rfl), below_drew HB42.out⟩
                        case measure => simp [intOf]; omega
                      · go_upto_region 21 with fail
                        refine wp_region_held_drew (S := (fun w' => w'.cell? ⟨bn, 0, none⟩ = some (.int .i64 x.f0.f0) ∧ w'.cell? ⟨bn, 1, none⟩ = some (.int .i64 x.f0.f1.f0) ∧ w'.cell? ⟨bn, 2, none⟩ = some (.int .i64 x.f0.f1.f1) ∧ w'.cell? ⟨bn, 3, none⟩ = some (.int .i64 x.f0.f1.f2) ∧ w'.cell? ⟨bn, 4, none⟩ = some (.int .i64 x.f0.f1.f3) ∧ w'.cell? ⟨bn, 5, none⟩ = some (.bool x.f0.f1.f4) ∧ w'.cell? ⟨bn, 6, none⟩ = some (.bool x.f0.f1.f5) ∧ w'.cell? ⟨bn, 7, none⟩ = some (.int .i64 x.f0.f2) ∧ w'.cell? ⟨bn, 8, none⟩ = some (.int .i64 x.f0.f3) ∧ w'.cell? ⟨bn, 9, none⟩ = some (.int .i64 x.f1) ∧ w'.cell? (ad.add (p * 10)) = some (.int .i64 z.f0.f0) ∧ w'.cell? ⟨(ad.add (p * 10)).block, (ad.add (p * 10)).off + 1, none⟩ = some (.int .i64 z.f0.f1.f0) ∧ w'.cell? ⟨(ad.add (p * 10)).block, (ad.add (p * 10)).off + 2, none⟩ = some (.int .i64 z.f0.f1.f1) ∧ w'.cell? ⟨(ad.add (p * 10)).block, (ad.add (p * 10)).off + 3, none⟩ = some (.int .i64 z.f0.f1.f2) ∧ w'.cell? ⟨(ad.add (p * 10)).block, (ad.add (p * 10)).off + 4, none⟩ = some (.int .i64 z.f0.f1.f3) ∧ w'.cell? ⟨(ad.add (p * 10)).block, (ad.add (p * 10)).off + 5, none⟩ = some (.bool z.f0.f1.f4) ∧ w'.cell? ⟨(ad.add (p * 10)).block, (ad.add (p * 10)).off + 6, none⟩ = some (.bool z.f0.f1.f5) ∧ w'.cell? ⟨(ad.add (p * 10)).block, (ad.add (p * 10)).off + 7, none⟩ = some (.int .i64 z.f0.f2) ∧ w'.cell? ⟨(ad.add (p * 10)).block, (ad.add (p * 10)).off + 8, none⟩ = some (.int .i64 z.f0.f3) ∧ w'.cell? ⟨(ad.add (p * 10)).block, (ad.add (p * 10)).off + 9, none⟩ = some (.int .i64 z.f1))) (by kernel_rfl) ?_ (fun hHeld => ?_)
                        · (try dsimp only); go_keep
                        refine wpAnyH_take (i := 0) (oi := { dst := some 92, op := Op.move (Operand.tmp 3), type := 86, pos := "ref.go:176", after := #[], guard := none }) (v := ?_) rfl (by kernel_rfl) (by kernel_rfl) (by kernel_rfl) (fun _ _ _ h => h) (Or.inl ⟨by rfl, ?_⟩) (by assumption) ?_
                        rotate_left
                        · intro w9 hSw; (try dsimp only at hSw); go_simp; try (with_reducible rfl)
                        try simp only [Act.put, List.setIfInBounds_toArray, List.set_cons_zero, List.set_cons_succ]
                        refine wpAnyH_take (i := 1) (oi := { dst := some 93, op := Op.move (Operand.tmp 8), type := 3, pos := "ref.go:176", after := #[], guard := none }) (v := ?_) rfl (by kernel_rfl) (by kernel_rfl) (by kernel_rfl) (fun _ _ _ h => h) (Or.inl ⟨by rfl, ?_⟩) (by assumption) ?_
                        rotate_left
                        · intro w9 hSw; (try dsimp only at hSw); go_simp; try (with_reducible rfl)
                        try simp only [Act.put, List.setIfInBounds_toArray, List.set_cons_zero, List.set_cons_succ]
                        refine wpAnyH_take (i := 2) (oi := { dst := some 94, op := Op.indexAddr 86 (Operand.tmp 92) (Operand.tmp 93), type := 0, pos := "ref.go:176", after := #[{ on := 0, ground := Ground.data }, { on := 1, ground := Ground.data }], guard := none }) (v := ?_) rfl (by kernel_rfl) (by kernel_rfl) (by kernel_rfl) (fun _ _ _ h => h) (Or.inl ⟨by rfl, ?_⟩) (by assumption) ?_
                        rotate_left
                        · intro w9 hSw; (try dsimp only at hSw); go_simp; try (with_reducible rfl)
                        try simp only [Act.put, List.setIfInBounds_toArray, List.set_cons_zero, List.set_cons_succ]
                        refine wpAnyH_take (i := 3) (oi := { dst := some 95, op := Op.fieldAddr 76 (Operand.tmp 94) 0, type := 0, pos := "ref.go:176", after := #[{ on := 2, ground := Ground.data }], guard := none }) (v := ?_) rfl (by kernel_rfl) (by kernel_rfl) (by kernel_rfl) (fun _ _ _ h => h) (Or.inl ⟨by rfl, ?_⟩) (by assumption) ?_
                        rotate_left
                        · intro w9 hSw; (try dsimp only at hSw); go_simp; try (with_reducible rfl)
                        try simp only [Act.put, List.setIfInBounds_toArray, List.set_cons_zero, List.set_cons_succ]
                        refine wpAnyH_take (i := 4) (oi := { dst := some 96, op := Op.fieldAddr 68 (Operand.tmp 95) 0, type := 0, pos := "ref.go:176", after := #[{ on := 3, ground := Ground.data }], guard := none }) (v := ?_) rfl (by kernel_rfl) (by kernel_rfl) (by kernel_rfl) (fun _ _ _ h => h) (Or.inl ⟨by rfl, ?_⟩) (by assumption) ?_
                        rotate_left
                        · intro w9 hSw; (try dsimp only at hSw); go_simp; try (with_reducible rfl)
                        try simp only [Act.put, List.setIfInBounds_toArray, List.set_cons_zero, List.set_cons_succ]
                        refine wpAnyH_take (i := 5) (oi := { dst := some 97, op := Op.load 3 (Operand.tmp 96), type := 3, pos := "ref.go:176", after := #[{ on := 4, ground := Ground.data }], guard := none }) (v := ?_) rfl (by kernel_rfl) (by kernel_rfl) (by kernel_rfl) (fun _ _ _ h => h) (Or.inl ⟨by rfl, ?_⟩) (by assumption) ?_
                        rotate_left
                        · intro w9 hSw; (try dsimp only at hSw); go_simp; try (with_reducible rfl)
                        try simp only [Act.put, List.setIfInBounds_toArray, List.set_cons_zero, List.set_cons_succ]
                        refine wpAnyH_take (i := 6) (oi := { dst := some 98, op := Op.fieldAddr 76 (Operand.tmp 7) 0, type := 0, pos := "ref.go:176", after := #[], guard := none }) (v := ?_) rfl (by kernel_rfl) (by kernel_rfl) (by kernel_rfl) (fun _ _ _ h => h) (Or.inl ⟨by rfl, ?_⟩) (by assumption) ?_
                        rotate_left
                        · intro w9 hSw; (try dsimp only at hSw); go_simp; try (with_reducible rfl)
                        try simp only [Act.put, List.setIfInBounds_toArray, List.set_cons_zero, List.set_cons_succ]
                        refine wpAnyH_take (i := 7) (oi := { dst := some 99, op := Op.fieldAddr 68 (Operand.tmp 98) 0, type := 0, pos := "ref.go:176", after := #[{ on := 6, ground := Ground.data }], guard := none }) (v := ?_) rfl (by kernel_rfl) (by kernel_rfl) (by kernel_rfl) (fun _ _ _ h => h) (Or.inl ⟨by rfl, ?_⟩) (by assumption) ?_
                        rotate_left
                        · intro w9 hSw; (try dsimp only at hSw); go_simp; try (with_reducible rfl)
                        try simp only [Act.put, List.setIfInBounds_toArray, List.set_cons_zero, List.set_cons_succ]
                        refine wpAnyH_take (i := 8) (oi := { dst := some 100, op := Op.load 3 (Operand.tmp 99), type := 3, pos := "ref.go:176", after := #[{ on := 7, ground := Ground.data }], guard := none }) (v := ?_) rfl (by kernel_rfl) (by kernel_rfl) (by kernel_rfl) (fun _ _ _ h => h) (Or.inl ⟨by rfl, ?_⟩) (by assumption) ?_
                        rotate_left
                        · intro w9 hSw; (try dsimp only at hSw); go_simp; try (with_reducible rfl)
                        try simp only [Act.put, List.setIfInBounds_toArray, List.set_cons_zero, List.set_cons_succ]
                        refine wpAnyH_take (i := 9) (oi := { dst := some 101, op := Op.binOp BinOp.neq 3 (Operand.tmp 97) (Operand.tmp 100) 3, type := 4, pos := "ref.go:176", after := #[{ on := 5, ground := Ground.data }, { on := 8, ground := Ground.data }], guard := none }) (v := ?_) rfl (by kernel_rfl) (by kernel_rfl) (by kernel_rfl) (fun _ _ _ h => h) (Or.inl ⟨by rfl, ?_⟩) (by assumption) ?_
                        rotate_left
                        · intro w9 hSw; (try dsimp only at hSw); go_simp; try (with_reducible rfl)
                        try simp only [Act.put, List.setIfInBounds_toArray, List.set_cons_zero, List.set_cons_succ]
                        refine wpAnyH_take (i := 10) (oi := { dst := some 102, op := Op.move (Operand.tmp 101), type := 4, pos := "ref.go:176", after := #[{ on := 9, ground := Ground.data }], guard := none }) (v := ?_) rfl (by kernel_rfl) (by kernel_rfl) (by kernel_rfl) (fun _ _ _ h => h) (Or.inl ⟨by rfl, ?_⟩) (by assumption) ?_
                        rotate_left
                        · intro w9 hSw; (try dsimp only at hSw); go_simp; try (with_reducible rfl)
                        try simp only [Act.put, List.setIfInBounds_toArray, List.set_cons_zero, List.set_cons_succ]
                        refine wpAnyH_take (i := 11) (oi := { dst := some 103, op := Op.move (Operand.tmp 3), type := 86, pos := "ref.go:176", after := #[{ on := 10, ground := Ground.guard }], guard := some (10, true) }) (v := ?_) rfl (by kernel_rfl) (by kernel_rfl) (by kernel_rfl) (fun _ _ _ h => h) (Or.inl ⟨by rfl, ?_⟩) (by assumption) ?_
                        rotate_left
                        · intro w9 hSw; (try dsimp only at hSw); go_simp; try (with_reducible rfl)
                        try simp only [Act.put, List.setIfInBounds_toArray, List.set_cons_zero, List.set_cons_succ]
                        refine wpAnyH_take (i := 12) (oi := { dst := some 104, op := Op.move (Operand.tmp 8), type := 3, pos := "ref.go:176", after := #[{ on := 10, ground := Ground.guard }], guard := some (10, true) }) (v := ?_) rfl (by kernel_rfl) (by kernel_rfl) (by kernel_rfl) (fun _ _ _ h => h) (Or.inl ⟨by rfl, ?_⟩) (by assumption) ?_
                        rotate_left
                        · intro w9 hSw; (try dsimp only at hSw); go_simp; try (with_reducible rfl)
                        try simp only [Act.put, List.setIfInBounds_toArray, List.set_cons_zero, List.set_cons_succ]
                        refine wpAnyH_take (i := 13) (oi := { dst := some 105, op := Op.indexAddr 86 (Operand.tmp 103) (Operand.tmp 104), type := 0, pos := "ref.go:176", after := #[{ on := 11, ground := Ground.data }, { on := 12, ground := Ground.data }, { on := 10, ground := Ground.guard }], guard := some (10, true) }) (v := ?_) rfl (by kernel_rfl) (by kernel_rfl) (by kernel_rfl) (fun _ _ _ h => h) (Or.inl ⟨by rfl, ?_⟩) (by assumption) ?_
                        rotate_left
                        · intro w9 hSw; (try dsimp only at hSw); go_simp; try (with_reducible rfl)
                        try simp only [Act.put, List.setIfInBounds_toArray, List.set_cons_zero, List.set_cons_succ]
                        refine wpAnyH_take (i := 14) (oi := { dst := some 106, op := Op.fieldAddr 76 (Operand.tmp 105) 0, type := 0, pos := "ref.go:176", after := #[{ on := 13, ground := Ground.data }, { on := 10, ground := Ground.guard }], guard := some (10, true) }) (v := ?_) rfl (by kernel_rfl) (by kernel_rfl) (by kernel_rfl) (fun _ _ _ h => h) (Or.inl ⟨by rfl, ?_⟩) (by assumption) ?_
                        rotate_left
                        · intro w9 hSw; (try dsimp only at hSw); go_simp; try (with_reducible rfl)
                        try simp only [Act.put, List.setIfInBounds_toArray, List.set_cons_zero, List.set_cons_succ]
                        refine wpAnyH_take (i := 15) (oi := { dst := some 107, op := Op.fieldAddr 68 (Operand.tmp 106) 1, type := 0, pos := "ref.go:176", after := #[{ on := 14, ground := Ground.data }, { on := 10, ground := Ground.guard }], guard := some (10, true) }) (v := ?_) rfl (by kernel_rfl) (by kernel_rfl) (by kernel_rfl) (fun _ _ _ h => h) (Or.inl ⟨by rfl, ?_⟩) (by assumption) ?_
                        rotate_left
                        · intro w9 hSw; (try dsimp only at hSw); go_simp; try (with_reducible rfl)
                        try simp only [Act.put, List.setIfInBounds_toArray, List.set_cons_zero, List.set_cons_succ]
                        refine wpAnyH_take (i := 16) (oi := { dst := some 108, op := Op.fieldAddr 54 (Operand.tmp 107) 2, type := 0, pos := "ref.go:176", after := #[{ on := 15, ground := Ground.data }, { on := 10, ground := Ground.guard }], guard := some (10, true) }) (v := ?_) rfl (by kernel_rfl) (by kernel_rfl) (by kernel_rfl) (fun _ _ _ h => h) (Or.inl ⟨by rfl, ?_⟩) (by assumption) ?_
                        rotate_left
                        · intro w9 hSw; (try dsimp only at hSw); go_simp; try (with_reducible rfl)
                        try simp only [Act.put, List.setIfInBounds_toArray, List.set_cons_zero, List.set_cons_succ]
                        refine wpAnyH_take (i := 17) (oi := { dst := some 109, op := Op.load 3 (Operand.tmp 108), type := 3, pos := "ref.go:176", after := #[{ on := 16, ground := Ground.data }, { on := 10, ground := Ground.guard }], guard := some (10, true) }) (v := ?_) rfl (by kernel_rfl) (by kernel_rfl) (by kernel_rfl) (fun _ _ _ h => h) (Or.inl ⟨by rfl, ?_⟩) (by assumption) ?_
                        rotate_left
                        · intro w9 hSw; (try dsimp only at hSw); go_simp; try (with_reducible rfl)
                        try simp only [Act.put, List.setIfInBounds_toArray, List.set_cons_zero, List.set_cons_succ]
                        refine wpAnyH_take (i := 18) (oi := { dst := some 110, op := Op.binOp BinOp.neq 3 (Operand.tmp 109) (Operand.const (Value.int IntKind.i64 0)) 3, type := 4, pos := "ref.go:176", after := #[{ on := 17, ground := Ground.data }, { on := 10, ground := Ground.guard }], guard := some (10, true) }) (v := ?_) rfl (by kernel_rfl) (by kernel_rfl) (by kernel_rfl) (fun _ _ _ h => h) (Or.inl ⟨by rfl, ?_⟩) (by assumption) ?_
                        rotate_left
                        · intro w9 hSw; (try dsimp only at hSw); go_simp; try (with_reducible rfl)
                        try simp only [Act.put, List.setIfInBounds_toArray, List.set_cons_zero, List.set_cons_succ]
                        refine wpAnyH_take (i := 19) (oi := { dst := some 111, op := Op.move (Operand.tmp 110), type := 4, pos := "ref.go:176", after := #[{ on := 18, ground := Ground.data }, { on := 10, ground := Ground.chain }, { on := 10, ground := Ground.guard }], guard := some (10, true) }) (v := ?_) rfl (by kernel_rfl) (by kernel_rfl) (by kernel_rfl) (fun _ _ _ h => h) (Or.inl ⟨by rfl, ?_⟩) (by assumption) ?_
                        rotate_left
                        · intro w9 hSw; (try dsimp only at hSw); go_simp; try (with_reducible rfl)
                        try simp only [Act.put, List.setIfInBounds_toArray, List.set_cons_zero, List.set_cons_succ]
                        refine wpAnyH_take (i := 20) (oi := { dst := some 112, op := Op.fieldAddr 76 (Operand.tmp 7) 0, type := 0, pos := "ref.go:176", after := #[{ on := 19, ground := Ground.guard }], guard := some (19, false) }) (v := ?_) rfl (by kernel_rfl) (by kernel_rfl) (by kernel_rfl) (fun _ _ _ h => h) (Or.inl ⟨by rfl, ?_⟩) (by assumption) ?_
                        rotate_left
                        · intro w9 hSw; (try dsimp only at hSw); go_simp; try (with_reducible rfl)
                        try simp only [Act.put, List.setIfInBounds_toArray, List.set_cons_zero, List.set_cons_succ]
                        refine wpAnyH_take (i := 21) (oi := { dst := some 113, op := Op.fieldAddr 68 (Operand.tmp 112) 1, type := 0, pos := "ref.go:176", after := #[{ on := 20, ground := Ground.data }, { on := 19, ground := Ground.guard }], guard := some (19, false) }) (v := ?_) rfl (by kernel_rfl) (by kernel_rfl) (by kernel_rfl) (fun _ _ _ h => h) (Or.inl ⟨by rfl, ?_⟩) (by assumption) ?_
                        rotate_left
                        · intro w9 hSw; (try dsimp only at hSw); go_simp; try (with_reducible rfl)
                        try simp only [Act.put, List.setIfInBounds_toArray, List.set_cons_zero, List.set_cons_succ]
                        refine wpAnyH_take (i := 22) (oi := { dst := some 114, op := Op.fieldAddr 54 (Operand.tmp 113) 0, type := 0, pos := "ref.go:176", after := #[{ on := 21, ground := Ground.data }, { on := 19, ground := Ground.guard }], guard := some (19, false) }) (v := ?_) rfl (by kernel_rfl) (by kernel_rfl) (by kernel_rfl) (fun _ _ _ h => h) (Or.inl ⟨by rfl, ?_⟩) (by assumption) ?_
                        rotate_left
                        · intro w9 hSw; (try dsimp only at hSw); go_simp; try (with_reducible rfl)
                        try simp only [Act.put, List.setIfInBounds_toArray, List.set_cons_zero, List.set_cons_succ]
                        refine wpAnyH_take (i := 23) (oi := { dst := some 115, op := Op.load 3 (Operand.tmp 114), type := 3, pos := "ref.go:176", after := #[{ on := 22, ground := Ground.data }, { on := 19, ground := Ground.guard }], guard := some (19, false) }) (v := ?_) rfl (by kernel_rfl) (by kernel_rfl) (by kernel_rfl) (fun _ _ _ h => h) (Or.inl ⟨by rfl, ?_⟩) (by assumption) ?_
                        rotate_left
                        · intro w9 hSw; (try dsimp only at hSw); go_simp; try (with_reducible rfl)
                        try simp only [Act.put, List.setIfInBounds_toArray, List.set_cons_zero, List.set_cons_succ]
                        refine wpAnyH_take (i := 24) (oi := { dst := some 116, op := Op.binOp BinOp.eql 3 (Operand.tmp 115) (Operand.const (Value.int IntKind.i64 6)) 3, type := 4, pos := "ref.go:176", after := #[{ on := 23, ground := Ground.data }, { on := 19, ground := Ground.guard }], guard := some (19, false) }) (v := ?_) rfl (by kernel_rfl) (by kernel_rfl) (by kernel_rfl) (fun _ _ _ h => h) (Or.inl ⟨by rfl, ?_⟩) (by assumption) ?_
                        rotate_left
                        · intro w9 hSw; (try dsimp only at hSw); go_simp; try (with_reducible rfl)
                        try simp only [Act.put, List.setIfInBounds_toArray, List.set_cons_zero, List.set_cons_succ]
                        refine wpAnyH_take (i := 25) (oi := { dst := some 117, op := Op.pick (Operand.tmp 111) (Operand.const (Value.bool true)) (Operand.tmp 116), type := 4, pos := "ref.go:176", after := #[{ on := 19, ground := Ground.data }, { on := 24, ground := Ground.data }, { on := 10, ground := Ground.guard }], guard := some (10, true) }) (v := ?_) rfl (by kernel_rfl) (by kernel_rfl) (by kernel_rfl) (fun _ _ _ h => h) (Or.inl ⟨by rfl, ?_⟩) (by assumption) ?_
                        rotate_left
                        · intro w9 hSw; (try dsimp only at hSw); go_simp; try (with_reducible rfl)
                        try simp only [Act.put, List.setIfInBounds_toArray, List.set_cons_zero, List.set_cons_succ]
                        refine wpAnyH_ready (rs := [26]) (by kernel_rfl) (by simp) ?_
                        refine AllReadyH.cons (o := { dst := some 118, op := Op.pick (Operand.tmp 102) (Operand.tmp 117) (Operand.const (Value.bool false)), type := 4, pos := "ref.go:176", after := #[{ on := 10, ground := Ground.data }, { on := 25, ground := Ground.data }], guard := none }) rfl (fun K hK => ?_) AllReadyH.nil
                        go_simp
                        refine hK.out _ _ ?_ (fun hHeld2 => ?_)
                        · (try dsimp only); go_keep
                        clear hK K
                        try simp only [Act.put, List.setIfInBounds_toArray, List.set_cons_zero, List.set_cons_succ]
                        refine wpAnyH_done (by kernel_rfl) ?_ _
                        go_wp2
                        go_ret
                        exact ⟨ret_bool (apartR_false hlt (by rw [HALL1.out, hT, hV, hK]; rfl)).symm, below_drew HBE.out⟩
                    · go_upto_region 21 with fail
                      refine wp_region_held_drew (S := (fun w' => w'.cell? ⟨bn, 0, none⟩ = some (.int .i64 x.f0.f0) ∧ w'.cell? ⟨bn, 1, none⟩ = some (.int .i64 x.f0.f1.f0) ∧ w'.cell? ⟨bn, 2, none⟩ = some (.int .i64 x.f0.f1.f1) ∧ w'.cell? ⟨bn, 3, none⟩ = some (.int .i64 x.f0.f1.f2) ∧ w'.cell? ⟨bn, 4, none⟩ = some (.int .i64 x.f0.f1.f3) ∧ w'.cell? ⟨bn, 5, none⟩ = some (.bool x.f0.f1.f4) ∧ w'.cell? ⟨bn, 6, none⟩ = some (.bool x.f0.f1.f5) ∧ w'.cell? ⟨bn, 7, none⟩ = some (.int .i64 x.f0.f2) ∧ w'.cell? ⟨bn, 8, none⟩ = some (.int .i64 x.f0.f3) ∧ w'.cell? ⟨bn, 9, none⟩ = some (.int .i64 x.f1) ∧ w'.cell? (ad.add (p * 10)) = some (.int .i64 z.f0.f0) ∧ w'.cell? ⟨(ad.add (p * 10)).block, (ad.add (p * 10)).off + 1, none⟩ = some (.int .i64 z.f0.f1.f0) ∧ w'.cell? ⟨(ad.add (p * 10)).block, (ad.add (p * 10)).off + 2, none⟩ = some (.int .i64 z.f0.f1.f1) ∧ w'.cell? ⟨(ad.add (p * 10)).block, (ad.add (p * 10)).off + 3, none⟩ = some (.int .i64 z.f0.f1.f2) ∧ w'.cell? ⟨(ad.add (p * 10)).block, (ad.add (p * 10)).off + 4, none⟩ = some (.int .i64 z.f0.f1.f3) ∧ w'.cell? ⟨(ad.add (p * 10)).block, (ad.add (p * 10)).off + 5, none⟩ = some (.bool z.f0.f1.f4) ∧ w'.cell? ⟨(ad.add (p * 10)).block, (ad.add (p * 10)).off + 6, none⟩ = some (.bool z.f0.f1.f5) ∧ w'.cell? ⟨(ad.add (p * 10)).block, (ad.add (p * 10)).off + 7, none⟩ = some (.int .i64 z.f0.f2) ∧ w'.cell? ⟨(ad.add (p * 10)).block, (ad.add (p * 10)).off + 8, none⟩ = some (.int .i64 z.f0.f3) ∧ w'.cell? ⟨(ad.add (p * 10)).block, (ad.add (p * 10)).off + 9, none⟩ = some (.int .i64 z.f1))) (by kernel_rfl) ?_ (fun hHeld => ?_)
                      · (try dsimp only); go_keep
                      refine wpAnyH_take (i := 0) (oi := { dst := some 92, op := Op.move (Operand.tmp 3), type := 86, pos := "ref.go:176", after := #[], guard := none }) (v := ?_) rfl (by kernel_rfl) (by kernel_rfl) (by kernel_rfl) (fun _ _ _ h => h) (Or.inl ⟨by rfl, ?_⟩) (by assumption) ?_
                      rotate_left
                      · intro w9 hSw; (try dsimp only at hSw); go_simp; try (with_reducible rfl)
                      try simp only [Act.put, List.setIfInBounds_toArray, List.set_cons_zero, List.set_cons_succ]
                      refine wpAnyH_take (i := 1) (oi := { dst := some 93, op := Op.move (Operand.tmp 8), type := 3, pos := "ref.go:176", after := #[], guard := none }) (v := ?_) rfl (by kernel_rfl) (by kernel_rfl) (by kernel_rfl) (fun _ _ _ h => h) (Or.inl ⟨by rfl, ?_⟩) (by assumption) ?_
                      rotate_left
                      · intro w9 hSw; (try dsimp only at hSw); go_simp; try (with_reducible rfl)
                      try simp only [Act.put, List.setIfInBounds_toArray, List.set_cons_zero, List.set_cons_succ]
                      refine wpAnyH_take (i := 2) (oi := { dst := some 94, op := Op.indexAddr 86 (Operand.tmp 92) (Operand.tmp 93), type := 0, pos := "ref.go:176", after := #[{ on := 0, ground := Ground.data }, { on := 1, ground := Ground.data }], guard := none }) (v := ?_) rfl (by kernel_rfl) (by kernel_rfl) (by kernel_rfl) (fun _ _ _ h => h) (Or.inl ⟨by rfl, ?_⟩) (by assumption) ?_
                      rotate_left
                      · intro w9 hSw; (try dsimp only at hSw); go_simp; try (with_reducible rfl)
                      try simp only [Act.put, List.setIfInBounds_toArray, List.set_cons_zero, List.set_cons_succ]
                      refine wpAnyH_take (i := 3) (oi := { dst := some 95, op := Op.fieldAddr 76 (Operand.tmp 94) 0, type := 0, pos := "ref.go:176", after := #[{ on := 2, ground := Ground.data }], guard := none }) (v := ?_) rfl (by kernel_rfl) (by kernel_rfl) (by kernel_rfl) (fun _ _ _ h => h) (Or.inl ⟨by rfl, ?_⟩) (by assumption) ?_
                      rotate_left
                      · intro w9 hSw; (try dsimp only at hSw); go_simp; try (with_reducible rfl)
                      try simp only [Act.put, List.setIfInBounds_toArray, List.set_cons_zero, List.set_cons_succ]
                      refine wpAnyH_take (i := 4) (oi := { dst := some 96, op := Op.fieldAddr 68 (Operand.tmp 95) 0, type := 0, pos := "ref.go:176", after := #[{ on := 3, ground := Ground.data }], guard := none }) (v := ?_) rfl (by kernel_rfl) (by kernel_rfl) (by kernel_rfl) (fun _ _ _ h => h) (Or.inl ⟨by rfl, ?_⟩) (by assumption) ?_
                      rotate_left
                      · intro w9 hSw; (try dsimp only at hSw); go_simp; try (with_reducible rfl)
                      try simp only [Act.put, List.setIfInBounds_toArray, List.set_cons_zero, List.set_cons_succ]
                      refine wpAnyH_take (i := 5) (oi := { dst := some 97, op := Op.load 3 (Operand.tmp 96), type := 3, pos := "ref.go:176", after := #[{ on := 4, ground := Ground.data }], guard := none }) (v := ?_) rfl (by kernel_rfl) (by kernel_rfl) (by kernel_rfl) (fun _ _ _ h => h) (Or.inl ⟨by rfl, ?_⟩) (by assumption) ?_
                      rotate_left
                      · intro w9 hSw; (try dsimp only at hSw); go_simp; try (with_reducible rfl)
                      try simp only [Act.put, List.setIfInBounds_toArray, List.set_cons_zero, List.set_cons_succ]
                      refine wpAnyH_take (i := 6) (oi := { dst := some 98, op := Op.fieldAddr 76 (Operand.tmp 7) 0, type := 0, pos := "ref.go:176", after := #[], guard := none }) (v := ?_) rfl (by kernel_rfl) (by kernel_rfl) (by kernel_rfl) (fun _ _ _ h => h) (Or.inl ⟨by rfl, ?_⟩) (by assumption) ?_
                      rotate_left
                      · intro w9 hSw; (try dsimp only at hSw); go_simp; try (with_reducible rfl)
                      try simp only [Act.put, List.setIfInBounds_toArray, List.set_cons_zero, List.set_cons_succ]
                      refine wpAnyH_take (i := 7) (oi := { dst := some 99, op := Op.fieldAddr 68 (Operand.tmp 98) 0, type := 0, pos := "ref.go:176", after := #[{ on := 6, ground := Ground.data }], guard := none }) (v := ?_) rfl (by kernel_rfl) (by kernel_rfl) (by kernel_rfl) (fun _ _ _ h => h) (Or.inl ⟨by rfl, ?_⟩) (by assumption) ?_
                      rotate_left
                      · intro w9 hSw; (try dsimp only at hSw); go_simp; try (with_reducible rfl)
                      try simp only [Act.put, List.setIfInBounds_toArray, List.set_cons_zero, List.set_cons_succ]
                      refine wpAnyH_take (i := 8) (oi := { dst := some 100, op := Op.load 3 (Operand.tmp 99), type := 3, pos := "ref.go:176", after := #[{ on := 7, ground := Ground.data }], guard := none }) (v := ?_) rfl (by kernel_rfl) (by kernel_rfl) (by kernel_rfl) (fun _ _ _ h => h) (Or.inl ⟨by rfl, ?_⟩) (by assumption) ?_
                      rotate_left
                      · intro w9 hSw; (try dsimp only at hSw); go_simp; try (with_reducible rfl)
                      try simp only [Act.put, List.setIfInBounds_toArray, List.set_cons_zero, List.set_cons_succ]
                      refine wpAnyH_take (i := 9) (oi := { dst := some 101, op := Op.binOp BinOp.neq 3 (Operand.tmp 97) (Operand.tmp 100) 3, type := 4, pos := "ref.go:176", after := #[{ on := 5, ground := Ground.data }, { on := 8, ground := Ground.data }], guard := none }) (v := ?_) rfl (by kernel_rfl) (by kernel_rfl) (by kernel_rfl) (fun _ _ _ h => h) (Or.inl ⟨by rfl, ?_⟩) (by assumption) ?_
                      rotate_left
                      · intro w9 hSw; (try dsimp only at hSw); go_simp; try (with_reducible rfl)
                      try simp only [Act.put, List.setIfInBounds_toArray, List.set_cons_zero, List.set_cons_succ]
                      refine wpAnyH_take (i := 10) (oi := { dst := some 102, op := Op.move (Operand.tmp 101), type := 4, pos := "ref.go:176", after := #[{ on := 9, ground := Ground.data }], guard := none }) (v := ?_) rfl (by kernel_rfl) (by kernel_rfl) (by kernel_rfl) (fun _ _ _ h => h) (Or.inl ⟨by rfl, ?_⟩) (by assumption) ?_
                      rotate_left
                      · intro w9 hSw; (try dsimp only at hSw); go_simp; try (with_reducible rfl)
                      try simp only [Act.put, List.setIfInBounds_toArray, List.set_cons_zero, List.set_cons_succ]
                      refine wpAnyH_take (i := 11) (oi := { dst := some 103, op := Op.move (Operand.tmp 3), type := 86, pos := "ref.go:176", after := #[{ on := 10, ground := Ground.guard }], guard := some (10, true) }) (v := ?_) rfl (by kernel_rfl) (by kernel_rfl) (by kernel_rfl) (fun _ _ _ h => h) (Or.inl ⟨by rfl, ?_⟩) (by assumption) ?_
                      rotate_left
                      · intro w9 hSw; (try dsimp only at hSw); go_simp; try (with_reducible rfl)
                      try simp only [Act.put, List.setIfInBounds_toArray, List.set_cons_zero, List.set_cons_succ]
                      refine wpAnyH_take (i := 12) (oi := { dst := some 104, op := Op.move (Operand.tmp 8), type := 3, pos := "ref.go:176", after := #[{ on := 10, ground := Ground.guard }], guard := some (10, true) }) (v := ?_) rfl (by kernel_rfl) (by kernel_rfl) (by kernel_rfl) (fun _ _ _ h => h) (Or.inl ⟨by rfl, ?_⟩) (by assumption) ?_
                      rotate_left
                      · intro w9 hSw; (try dsimp only at hSw); go_simp; try (with_reducible rfl)
                      try simp only [Act.put, List.setIfInBounds_toArray, List.set_cons_zero, List.set_cons_succ]
                      refine wpAnyH_take (i := 13) (oi := { dst := some 105, op := Op.indexAddr 86 (Operand.tmp 103) (Operand.tmp 104), type := 0, pos := "ref.go:176", after := #[{ on := 11, ground := Ground.data }, { on := 12, ground := Ground.data }, { on := 10, ground := Ground.guard }], guard := some (10, true) }) (v := ?_) rfl (by kernel_rfl) (by kernel_rfl) (by kernel_rfl) (fun _ _ _ h => h) (Or.inl ⟨by rfl, ?_⟩) (by assumption) ?_
                      rotate_left
                      · intro w9 hSw; (try dsimp only at hSw); go_simp; try (with_reducible rfl)
                      try simp only [Act.put, List.setIfInBounds_toArray, List.set_cons_zero, List.set_cons_succ]
                      refine wpAnyH_take (i := 14) (oi := { dst := some 106, op := Op.fieldAddr 76 (Operand.tmp 105) 0, type := 0, pos := "ref.go:176", after := #[{ on := 13, ground := Ground.data }, { on := 10, ground := Ground.guard }], guard := some (10, true) }) (v := ?_) rfl (by kernel_rfl) (by kernel_rfl) (by kernel_rfl) (fun _ _ _ h => h) (Or.inl ⟨by rfl, ?_⟩) (by assumption) ?_
                      rotate_left
                      · intro w9 hSw; (try dsimp only at hSw); go_simp; try (with_reducible rfl)
                      try simp only [Act.put, List.setIfInBounds_toArray, List.set_cons_zero, List.set_cons_succ]
                      refine wpAnyH_take (i := 15) (oi := { dst := some 107, op := Op.fieldAddr 68 (Operand.tmp 106) 1, type := 0, pos := "ref.go:176", after := #[{ on := 14, ground := Ground.data }, { on := 10, ground := Ground.guard }], guard := some (10, true) }) (v := ?_) rfl (by kernel_rfl) (by kernel_rfl) (by kernel_rfl) (fun _ _ _ h => h) (Or.inl ⟨by rfl, ?_⟩) (by assumption) ?_
                      rotate_left
                      · intro w9 hSw; (try dsimp only at hSw); go_simp; try (with_reducible rfl)
                      try simp only [Act.put, List.setIfInBounds_toArray, List.set_cons_zero, List.set_cons_succ]
                      refine wpAnyH_take (i := 16) (oi := { dst := some 108, op := Op.fieldAddr 54 (Operand.tmp 107) 2, type := 0, pos := "ref.go:176", after := #[{ on := 15, ground := Ground.data }, { on := 10, ground := Ground.guard }], guard := some (10, true) }) (v := ?_) rfl (by kernel_rfl) (by kernel_rfl) (by kernel_rfl) (fun _ _ _ h => h) (Or.inl ⟨by rfl, ?_⟩) (by assumption) ?_
                      rotate_left
                      · intro w9 hSw; (try dsimp only at hSw); go_simp; try (with_reducible rfl)
                      try simp only [Act.put, List.setIfInBounds_toArray, List.set_cons_zero, List.set_cons_succ]
                      refine wpAnyH_take (i := 17) (oi := { dst := some 109, op := Op.load 3 (Operand.tmp 108), type := 3, pos := "ref.go:176", after := #[{ on := 16, ground := Ground.data }, { on := 10, ground := Ground.guard }], guard := some (10, true) }) (v := ?_) rfl (by kernel_rfl) (by kernel_rfl) (by kernel_rfl) (fun _ _ _ h => h) (Or.inl ⟨by rfl, ?_⟩) (by assumption) ?_
                      rotate_left
                      · intro w9 hSw; (try dsimp only at hSw); go_simp; try (with_reducible rfl)
                      try simp only [Act.put, List.setIfInBounds_toArray, List.set_cons_zero, List.set_cons_succ]
                      refine wpAnyH_take (i := 18) (oi := { dst := some 110, op := Op.binOp BinOp.neq 3 (Operand.tmp 109) (Operand.const (Value.int IntKind.i64 0)) 3, type := 4, pos := "ref.go:176", after := #[{ on := 17, ground := Ground.data }, { on := 10, ground := Ground.guard }], guard := some (10, true) }) (v := ?_) rfl (by kernel_rfl) (by kernel_rfl) (by kernel_rfl) (fun _ _ _ h => h) (Or.inl ⟨by rfl, ?_⟩) (by assumption) ?_
                      rotate_left
                      · intro w9 hSw; (try dsimp only at hSw); go_simp; try (with_reducible rfl)
                      try simp only [Act.put, List.setIfInBounds_toArray, List.set_cons_zero, List.set_cons_succ]
                      refine wpAnyH_take (i := 19) (oi := { dst := some 111, op := Op.move (Operand.tmp 110), type := 4, pos := "ref.go:176", after := #[{ on := 18, ground := Ground.data }, { on := 10, ground := Ground.chain }, { on := 10, ground := Ground.guard }], guard := some (10, true) }) (v := ?_) rfl (by kernel_rfl) (by kernel_rfl) (by kernel_rfl) (fun _ _ _ h => h) (Or.inl ⟨by rfl, ?_⟩) (by assumption) ?_
                      rotate_left
                      · intro w9 hSw; (try dsimp only at hSw); go_simp; try (with_reducible rfl)
                      try simp only [Act.put, List.setIfInBounds_toArray, List.set_cons_zero, List.set_cons_succ]
                      refine wpAnyH_take (i := 20) (oi := { dst := some 112, op := Op.fieldAddr 76 (Operand.tmp 7) 0, type := 0, pos := "ref.go:176", after := #[{ on := 19, ground := Ground.guard }], guard := some (19, false) }) (v := undef) rfl (by kernel_rfl) (by kernel_rfl) (by kernel_rfl) (fun _ _ _ h => h) (Or.inr ⟨by rfl, rfl⟩) (by assumption) ?_
                      try simp only [Act.put, List.setIfInBounds_toArray, List.set_cons_zero, List.set_cons_succ]
                      refine wpAnyH_take (i := 21) (oi := { dst := some 113, op := Op.fieldAddr 68 (Operand.tmp 112) 1, type := 0, pos := "ref.go:176", after := #[{ on := 20, ground := Ground.data }, { on := 19, ground := Ground.guard }], guard := some (19, false) }) (v := undef) rfl (by kernel_rfl) (by kernel_rfl) (by kernel_rfl) (fun _ _ _ h => h) (Or.inr ⟨by rfl, rfl⟩) (by assumption) ?_
                      try simp only [Act.put, List.setIfInBounds_toArray, List.set_cons_zero, List.set_cons_succ]
                      refine wpAnyH_take (i := 22) (oi := { dst := some 114, op := Op.fieldAddr 54 (Operand.tmp 113) 0, type := 0, pos := "ref.go:176", after := #[{ on := 21, ground := Ground.data }, { on := 19, ground := Ground.guard }], guard := some (19, false) }) (v := undef) rfl (by kernel_rfl) (by kernel_rfl) (by kernel_rfl) (fun _ _ _ h => h) (Or.inr ⟨by rfl, rfl⟩) (by assumption) ?_
                      try simp only [Act.put, List.setIfInBounds_toArray, List.set_cons_zero, List.set_cons_succ]
                      refine wpAnyH_take (i := 23) (oi := { dst := some 115, op := Op.load 3 (Operand.tmp 114), type := 3, pos := "ref.go:176", after := #[{ on := 22, ground := Ground.data }, { on := 19, ground := Ground.guard }], guard := some (19, false) }) (v := undef) rfl (by kernel_rfl) (by kernel_rfl) (by kernel_rfl) (fun _ _ _ h => h) (Or.inr ⟨by rfl, rfl⟩) (by assumption) ?_
                      try simp only [Act.put, List.setIfInBounds_toArray, List.set_cons_zero, List.set_cons_succ]
                      refine wpAnyH_take (i := 24) (oi := { dst := some 116, op := Op.binOp BinOp.eql 3 (Operand.tmp 115) (Operand.const (Value.int IntKind.i64 6)) 3, type := 4, pos := "ref.go:176", after := #[{ on := 23, ground := Ground.data }, { on := 19, ground := Ground.guard }], guard := some (19, false) }) (v := undef) rfl (by kernel_rfl) (by kernel_rfl) (by kernel_rfl) (fun _ _ _ h => h) (Or.inr ⟨by rfl, rfl⟩) (by assumption) ?_
                      try simp only [Act.put, List.setIfInBounds_toArray, List.set_cons_zero, List.set_cons_succ]
                      refine wpAnyH_take (i := 25) (oi := { dst := some 117, op := Op.pick (Operand.tmp 111) (Operand.const (Value.bool true)) (Operand.tmp 116), type := 4, pos := "ref.go:176", after := #[{ on := 19, ground := Ground.data }, { on := 24, ground := Ground.data }, { on := 10, ground := Ground.guard }], guard := some (10, true) }) (v := ?_) rfl (by kernel_rfl) (by kernel_rfl) (by kernel_rfl) (fun _ _ _ h => h) (Or.inl ⟨by rfl, ?_⟩) (by assumption) ?_
                      rotate_left
                      · intro w9 hSw; (try dsimp only at hSw); go_simp; try (with_reducible rfl)
                      try simp only [Act.put, List.setIfInBounds_toArray, List.set_cons_zero, List.set_cons_succ]
                      refine wpAnyH_ready (rs := [26]) (by kernel_rfl) (by simp) ?_
                      refine AllReadyH.cons (o := { dst := some 118, op := Op.pick (Operand.tmp 102) (Operand.tmp 117) (Operand.const (Value.bool false)), type := 4, pos := "ref.go:176", after := #[{ on := 10, ground := Ground.data }, { on := 25, ground := Ground.data }], guard := none }) rfl (fun K hK => ?_) AllReadyH.nil
                      go_simp
                      refine hK.out _ _ ?_ (fun hHeld2 => ?_)
                      · (try dsimp only); go_keep
                      clear hK K
                      try simp only [Act.put, List.setIfInBounds_toArray, List.set_cons_zero, List.set_cons_succ]
                      refine wpAnyH_done (by kernel_rfl) ?_ _
                      go_wp2
                      go_ret
                      exact ⟨ret_bool (apartR_false hlt (by rw [HALL1.out, hT, hV]; rfl)).symm, below_drew HBE.out⟩
        · obtain rfl : i = l.length := by omega
          go_wp2
          go_ret
          exact ⟨ret_bool (by rw [apartR_eq, HNO.out]), HWR.out⟩
end Go.Proofs.Ytfeempgoejnfdaa.Ord
