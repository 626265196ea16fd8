/- The reference's Way: what it computes. No condition. -/
import Derived.Test.YtfeempgoejnfdaaR3
import Derived.Deep.DeepCutAuto
namespace Go.Proofs.Ytfeempgoejnfdaa.Ord
open Go.RowKit Go.Proofs.YtfeempgoejnfdaaW.PrintWords Go.Proofs.YtfeempgoejnfdaaW.PrintLast Go.Proofs.YtfeempgoejnfdaaW.PrintMore
set_option linter.unusedVariables false
set_option linter.unusedSimpArgs false
def way1 (a b : S76) (pl : Bool) : Bool := (a.f0.f0 == b.f0.f0) && decide (a.f1 < b.f1) && ((a.f0.f1.f1 == b.f0.f1.f1) || !pl)
def way2 (a b : S76) : Bool := readsB b.f0.f1 && decide (0 < a.f0.f3) && (b.f0.f2 == a.f0.f3)
def way3 (a b : S76) : Bool := writesB a.f0.f1 && writesB b.f0.f1 && (a.f0.f1.f1 == b.f0.f1.f1) && decide (a.f0.f3 < b.f0.f3)
def wayB (a b : S76) (pl : Bool) : Bool := way1 a b pl || (way2 a b || (way3 a b || frB a b))
/-- A node in a box. -/
def Bx (w : World) (g : Nat) (x : S76) : Prop := Blk w g (c76 x) 76
theorem bx_cells {w : World} {b : Nat} {x : S76} (h : Bx w b x) : w.cell? ⟨b, 0, none⟩ = some (.int .i64 x.f0.f0) ∧ w.cell? ⟨b, 1, none⟩ = some (.int .i64 x.f0.f1.f0) ∧ w.cell? ⟨b, 2, none⟩ = some (.int .i64 x.f0.f1.f1) ∧ w.cell? ⟨b, 3, none⟩ = some (.int .i64 x.f0.f1.f2) ∧ w.cell? ⟨b, 4, none⟩ = some (.int .i64 x.f0.f1.f3) ∧ w.cell? ⟨b, 5, none⟩ = some (.bool x.f0.f1.f4) ∧ w.cell? ⟨b, 6, none⟩ = some (.bool x.f0.f1.f5) ∧ w.cell? ⟨b, 7, none⟩ = some (.int .i64 x.f0.f2) ∧ w.cell? ⟨b, 8, none⟩ = some (.int .i64 x.f0.f3) ∧ w.cell? ⟨b, 9, none⟩ = some (.int .i64 x.f1) :=
  ⟨Blk.cell h rfl, Blk.cell h rfl, Blk.cell h rfl, Blk.cell h rfl, Blk.cell h rfl, Blk.cell h rfl, Blk.cell h rfl, Blk.cell h rfl, Blk.cell h rfl, Blk.cell h rfl⟩
def WayW (w : World) (a b : S76) (wc : World) : Prop := Below w.heap.size w wc ∧ Bx wc w.heap.size a ∧ Bx wc (w.heap.size + 1) b
theorem WayW.next {w wc w2 : World} {a b : S76} (h : WayW w a b wc) (hb : Below wc.heap.size wc w2) : WayW w a b w2 := ⟨h.1.trans (hb.mono h.1.size), Blk.below h.2.1 hb h.2.1.lt, Blk.below h.2.2 hb h.2.2.lt⟩
theorem wayW_start (w : World) (a b : S76) : WayW w a b ((w.alloc (.cells (c76 a).toArray 76)).alloc (.cells (c76 b).toArray 76)) := by
  refine ⟨((Below.refl _ _).alloc (Nat.le_refl _) _).alloc (by simp) _, (Blk.new w (c76 a) 76).alloc _, ?_⟩
  have h := Blk.new (w.alloc (.cells (c76 a).toArray 76)) (c76 b) 76
  rwa [show (w.alloc (.cells (c76 a).toArray 76)).heap.size = w.heap.size + 1 from by simp] at h
set_option maxRecDepth 100000 in
set_option maxHeartbeats 2000000 in
theorem way_any (x y : S76) (pl : Bool) (w : World) : Calls Try.prog 58 #[v76 x, v76 y, .bool pl] w (Gives (wayB x y pl) w) := by
  generalize hb : wayB x y pl = b
  unfold wayB way1 way2 way3 frB at hb
  generalize hsm : (x.f0.f1.f1 == y.f0.f1.f1) = sm at *
  generalize he1 : (x.f0.f0 == y.f0.f0) = e1 at *
  generalize hl1 : decide (x.f1 < y.f1) = l1 at *
  generalize hi0 : decide (0 < x.f0.f3) = i0 at *
  generalize he2 : (y.f0.f2 == x.f0.f3) = e2 at *
  generalize hl3 : decide (x.f0.f3 < y.f0.f3) = l3 at *
  generalize hl4 : decide (x.f0.f2 < y.f0.f3) = l4 at *
  have HB := Lib.hid hb; clear hb
  have HW0 := Lib.hid (wayW_start w x y)
  go_enter Try.func58, Try.ntmps58
  go_upto_region 2 with fail
  go_cut [37] (fun s wc => s = .bool (e1 && l1 && (sm || !pl)) ∧ WayW w x y wc)
  case first =>
    cases e1 <;> cases l1 <;> cases sm <;> cases pl
    all_goals
      go_wp2
      go_meet
      case rel => exact ⟨rfl, HW0.out⟩
  case rest =>
    obtain ⟨rfl, hW⟩ := hcut
    generalize (e1 && l1 && (sm || !pl)) = p1 at *
    have HW := Lib.hid hW; clear hW HW0
    cases p1 with
    | true =>
      go_wp2
      go_ret
      exact ⟨ret_bool (by rw [← HB.out]; simp), HW.out.1⟩
    | false =>
      obtain ⟨a0, a1, a2, a3, a4, a5, a6, a7, a8, a9⟩ := bx_cells HW.out.2.1
      obtain ⟨b0, b1, b2, b3, b4, b5, b6, b7, b8, b9⟩ := bx_cells HW.out.2.2
      have hz0 : w.heap.size < wc.heap.size := HW.out.2.1.lt
      have hz1 : w.heap.size + 1 < wc.heap.size := HW.out.2.2.lt
      generalize hr1 : readsB y.f0.f1 = r1 at *
      go_upto_region 4 with fail
      go_cut [54] (fun s wc => s = .bool (r1 && i0 && e2) ∧ WayW w x y wc)
      case first =>
        go_wp2_with fail
        refine (refReads_any y _).mono ?_; rintro e w1 ⟨rfl, hb1⟩; obtain ⟨hc1, hf1⟩ := bcell hb1
        have HW1 := Lib.hid (HW.out.next hb1)
        have hy1 : w.heap.size < w1.heap.size := HW1.out.2.1.lt
        have hx1 : w.heap.size + 1 < w1.heap.size := HW1.out.2.2.lt
        clear hb1
        rw [hr1]
        cases r1 <;> cases i0 <;> cases e2
        all_goals
          go_wp2
          go_meet
          case rel => exact ⟨rfl, HW1.out⟩
      case rest =>
        clear a0 a1 a2 a3 a4 a5 a6 a7 a8 a9 b0 b1 b2 b3 b4 b5 b6 b7 b8 b9 hz0 hz1
        obtain ⟨rfl, hW⟩ := hcut
        generalize (r1 && i0 && e2) = p2 at *
        have HW' := Lib.hid hW; clear hW HW; have HW := HW'; clear HW'
        cases p2 with
        | true =>
          go_wp2
          go_ret
          exact ⟨ret_bool (by rw [← HB.out]; simp), HW.out.1⟩
        | false =>
          obtain ⟨a0, a1, a2, a3, a4, a5, a6, a7, a8, a9⟩ := bx_cells HW.out.2.1
          obtain ⟨b0, b1, b2, b3, b4, b5, b6, b7, b8, b9⟩ := bx_cells HW.out.2.2
          have hz0 : w.heap.size < wc.heap.size := HW.out.2.1.lt
          have hz1 : w.heap.size + 1 < wc.heap.size := HW.out.2.2.lt
          generalize hr2 : writesB x.f0.f1 = r2 at *
          generalize hr3 : writesB y.f0.f1 = r3 at *
          go_upto_region 6 with fail
          go_cut [72] (fun s wc => s = .bool (r2 && r3 && sm && l3) ∧ WayW w x y wc)
          case first =>
            go_wp2_with fail
            refine (refWrites_any x _).mono ?_; rintro e w1 ⟨rfl, hb1⟩; obtain ⟨hc1, hf1⟩ := bcell hb1
            have HW1 := Lib.hid (HW.out.next hb1)
            have hy1 : w.heap.size < w1.heap.size := HW1.out.2.1.lt
            have hx1 : w.heap.size + 1 < w1.heap.size := HW1.out.2.2.lt
            clear hb1
            rw [hr2]
            cases r2
            · go_wp2
              go_meet
              case rel => exact ⟨rfl, HW1.out⟩
            · go_wp2_with fail
              refine (refWrites_any y _).mono ?_; rintro e w2 ⟨rfl, hb2⟩; obtain ⟨hc2, hf2⟩ := bcell hb2
              have HW2 := Lib.hid (HW1.out.next hb2)
              have hy2 : w.heap.size < w2.heap.size := HW2.out.2.1.lt
              have hx2 : w.heap.size + 1 < w2.heap.size := HW2.out.2.2.lt
              clear hb2
              rw [hr3]
              cases r3 <;> cases sm <;> cases l3
              all_goals
                go_wp2
                go_meet
                case rel => exact ⟨rfl, HW2.out⟩
          case rest =>
            clear a0 a1 a2 a3 a4 a5 a6 a7 a8 a9 b0 b1 b2 b3 b4 b5 b6 b7 b8 b9 hz0 hz1
            obtain ⟨rfl, hW⟩ := hcut
            generalize hp3 : (r2 && r3 && sm && l3) = p3 at *
            have HP3 := Lib.hid hp3; clear hp3
            have HW' := Lib.hid hW; clear hW HW; have HW := HW'; clear HW'
            cases p3 with
            | true =>
              go_wp2
              go_ret
              exact ⟨ret_bool (by rw [← HB.out]; simp), HW.out.1⟩
            | false =>
              obtain ⟨a0, a1, a2, a3, a4, a5, a6, a7, a8, a9⟩ := bx_cells HW.out.2.1
              obtain ⟨b0, b1, b2, b3, b4, b5, b6, b7, b8, b9⟩ := bx_cells HW.out.2.2
              have hz0 : w.heap.size < wc.heap.size := HW.out.2.1.lt
              have hz1 : w.heap.size + 1 < wc.heap.size := HW.out.2.2.lt
              generalize hr4 : readsB x.f0.f1 = r4 at *
              go_wp2_with fail
              refine (refReads_any x _).mono ?_; rintro e w1 ⟨rfl, hb1⟩; obtain ⟨hc1, hf1⟩ := bcell hb1
              have HW1 := Lib.hid (HW.out.next hb1)
              have hy1 : w.heap.size < w1.heap.size := HW1.out.2.1.lt
              have hx1 : w.heap.size + 1 < w1.heap.size := HW1.out.2.2.lt
              clear hb1
              rw [hr4]
              cases r4
              · go_wp2
                go_ret
                exact ⟨ret_bool (by rw [← HB.out]; simp), HW1.out.1⟩
              · go_wp2_with fail
                refine (refWrites_any y _).mono ?_; rintro e w2 ⟨rfl, hb2⟩; obtain ⟨hc2, hf2⟩ := bcell hb2
                have HW2 := Lib.hid (HW1.out.next hb2)
                have hy2 : w.heap.size < w2.heap.size := HW2.out.2.1.lt
                have hx2 : w.heap.size + 1 < w2.heap.size := HW2.out.2.2.lt
                clear hb2
                rw [hr3]
                cases r3 <;> cases sm <;> cases l4
                all_goals
                  go_wp2
                  all_goals (go_ret; exact ⟨ret_bool (by rw [← HB.out]; simp [eqB, *]), HW2.out.1⟩)
end Go.Proofs.Ytfeempgoejnfdaa.Ord
