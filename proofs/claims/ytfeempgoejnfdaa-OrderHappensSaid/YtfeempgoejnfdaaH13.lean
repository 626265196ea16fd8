/- order's Consistent: what it computes. No node stands twice, at most a million events. -/
import Derived.Test.YtfeempgoejnfdaaH12
namespace Go.Proofs.Ytfeempgoejnfdaa.Ord
open Go.RowKit Go.Proofs.YtfeempgoejnfdaaW.PrintWords Go.Proofs.YtfeempgoejnfdaaW.PrintLast Go.Proofs.YtfeempgoejnfdaaW.PrintMore
set_option linter.unusedVariables false
set_option linter.unusedSimpArgs false
theorem keyB {w w1 : World} (hb : Below w.heap.size w w1) {a : Addr} {u : Value} (ha : w.cell? a = some u) : w1.cell? a = some u := by rw [hb.cell (World.block_lt_of_cell? w _ ha)]; exact ha
theorem box_pair (w : World) (o : Obj) (y : S76) : Box76 ((w.alloc o).alloc (.cells (c76 y).toArray 84)) (w.heap.size + 1) y := by
  have h := Blk.new (w.alloc o) (c76 y) 84
  rwa [show (w.alloc o).heap.size = w.heap.size + 1 from by simp] at h
set_option maxRecDepth 100000 in
set_option maxHeartbeats 8000000 in
theorem consistent_any (run : List (List S68)) (A : Option Addr) (c : Nat) (w : World) (hrun : krun.C w A run.length run) (hT : (run.map List.length).sum ≤ 1000000) (hrl : run.length ≤ 1000000) (hnd : (nodesN allB run).Nodup) :
    Calls Try.prog 20 #[.slice A run.length c] w (Gives (consO (nodesN allB run) (aheadC (nodesN allB run))) w) := by
  have hn := nodes_any run 48 allB act48 A c w hrun hT hrl
  have hlen : (nodesN allB run).length ≤ 1000000 := Nat.le_trans (nodesN_len _ _) hT
  have HN := Lib.hid hn; have HND := Lib.hid hnd; clear hn hrun hnd
  generalize nodesN allB run = l at *
  have HSQ := Lib.hid (aheadC_sq l); have HAR := Lib.hid (ahead_rows l)
  generalize aheadC l = out at *
  go_enter Try.func20, Try.ntmps20
  go_wp2_with fail
  refine HN.out.mono ?_
  rintro e w1 ⟨v, rfl, hR, hB⟩
  obtain ⟨A1, c1, rfl, hlc, hC⟩ := Kd.R_reads hR
  have HC := Lib.hid hC; have HB1 := Lib.hid hB; clear hC hB hR HN
  go_wp2_with fail
  have HBL := Lib.hid ((Below.refl w1.heap.size w1).alloc (Nat.le_refl _) (.cells #[.slice A1 l.length c1] 77))
  have hbl : (w1.alloc (.cells #[.slice A1 l.length c1] 77)).cell? ⟨w1.heap.size, 0, none⟩ = some (.slice A1 l.length c1) := (Blk.new w1 [.slice A1 l.length c1] 77).cell rfl
  refine (happens_any l _ A1 c1 _ (l.length + 2) out hlen (Kd.C_below HC.out HBL.out) HSQ.out.1 HAR.out).mono ?_
  rintro e w2 ⟨g, rfl, hB2, hrows⟩
  have HL2 := Lib.hid (keyB hB2 hbl)
  have HB2 := Lib.hid ((HBL.out.trans (hB2.mono HBL.out.size)) : Below w1.heap.size w1 w2)
  have HGG := Lib.hid hrows.grid
  clear hB2 hrows hbl HBL HAR
  obtain ⟨w3, hw3⟩ : ∃ w3, w3 = w2.alloc (.cells #[.slice (some ⟨g, 0, none⟩) l.length l.length] 81) := ⟨_, rfl⟩
  have HW3 := Lib.hid hw3
  have HB3 := Lib.hid (show Below w2.heap.size w2 w3 by rw [hw3]; exact (Below.refl _ _).alloc (Nat.le_refl _) _)
  have HH3 := Lib.hid (show w3.cell? ⟨w2.heap.size, 0, none⟩ = some (.slice (some ⟨g, 0, none⟩) l.length l.length) by rw [hw3]; exact (Blk.new w2 [.slice (some ⟨g, 0, none⟩) l.length l.length] 81).cell rfl)
  have HL3 := Lib.hid (keyB HB3.out HL2.out)
  have HC3 := Lib.hid (Kd.C_below HC.out (HB2.out.trans (HB3.out.mono HB2.out.size)))
  have HW := Lib.hid (HB1.out.trans ((HB2.out.trans (HB3.out.mono HB2.out.size)).mono HB1.out.size) : Below w.heap.size w w3)
  clear hw3 HC HB1
  have HCELL := Lib.hid (fun (i k : Nat) (hi : i < l.length) (hk : k < l.length) => (show ∃ bi, w3.cell? ⟨g, i, none⟩ = some (.slice (some ⟨bi, 0, none⟩) l.length l.length) ∧ ∀ k, k < l.length → w3.cell? ⟨bi, k, none⟩ = some (.bool (hbOf out i k)) from by
    obtain ⟨ri, hri⟩ : ∃ x, out[i]? = some x := ⟨_, List.getElem?_eq_getElem (by have := HSQ.out.1; omega)⟩
    obtain ⟨bi, q1, q2⟩ := HGG.out.row i ri hri
    refine ⟨bi, q1 _ HB3.out, fun k hk => ?_⟩
    obtain ⟨x, hx⟩ : ∃ x, ri[k]? = some x := ⟨_, List.getElem?_eq_getElem (by have := HSQ.out.2 ri (List.mem_of_getElem? hri); omega)⟩
    rw [q2 _ HB3.out k x hx]
    simp [hbOf, List.getD_eq_getElem?_getD, hri, hx]))
  clear HGG HSQ HL2 HB2 HB3
  have hl3 : (w2.alloc (.cells #[.slice (some ⟨g, 0, none⟩) l.length l.length] 81)).cell? ⟨w1.heap.size, 0, none⟩ = some (.slice A1 l.length c1) := by rw [← HW3.out]; exact HL3.out
  go_wp2
  clear hl3
  rw [← HW3.out]
  have HL3 := Lib.hid HL3.out; have HH3 := Lib.hid HH3.out
  clear HW3
  generalize w1.heap.size = pl at *
  generalize w2.heap.size = ph at *
  go_loopw [16] (fun v wr => ∃ i : Nat, v = .int .i64 i ∧ i ≤ l.length ∧ ((List.range i).any fun i => rowO l out i) = false ∧ Below w3.heap.size w3 wr) (fun v _ => l.length - (intOf v).toNat)
  case atStart => exact ⟨0, rfl, by omega, rfl, Below.refl _ _⟩
  case round =>
    obtain ⟨i, rfl, hi, hno, hbw⟩ := hrel
    have HNO := Lib.hid hno; have HBW := Lib.hid hbw; clear hno hbw
    obtain ⟨wo, rfl⟩ : ∃ wo : World, wo = wr := ⟨_, rfl⟩
    by_cases hlt : i < l.length
    · obtain ⟨ad, rfl, g0, g1, g2, g3, g4, g5, g6, g7, g8, g9⟩ := at_T76 (Kd.C_below HC3.out HBW.out) (i : Int) (by omega) (by omega)
      rw [Int.toNat_natCast] at *
      have HXE := Lib.hid (show rd_T76 l (i : Int) = rd_T76 l i from rfl)
      have HRO := Lib.hid (show rowO l out i = (readsB (rd_T76 l i).f0.f1 && (List.range l.length).any fun k => badO l out i k) from rfl)
      have HSK := Lib.hid (fun k : Nat => show skipO l i k = ((i == k) || !writesB (rd_T76 l k).f0.f1 || ((rd_T76 l k).f0.f1.f1 != (rd_T76 l i).f0.f1.f1)) from rfl)
      have HO1 := Lib.hid (fun k : Nat => show bo1 l out i k = (rfB (rd_T76 l k) (rd_T76 l i) && hbOf out i k) from rfl)
      have HO2 := Lib.hid (fun k : Nat => show bo2 l out i k = (hbOf out k i && decide ((rd_T76 l i).f0.f2 < (rd_T76 l k).f0.f3) && ((rd_T76 l i).f0.f2 == 0)) from rfl)
      have HO3 := Lib.hid (fun k : Nat => show bo3 l out i k = (hbOf out k i && (List.range l.length).any (litP l (rd_T76 l i) fun j => hbOf out j k)) from rfl)
      have HF := Lib.hid (fun (k : Nat) (hk : k < l.length) (hr : readsB (rd_T76 l i).f0.f1 = true) (h : badO l out i k = true) => consO_false hlt hk hr h)
      have HIX := Lib.hid (show rd_T76 l i = rd_T76 l i from rfl)
      generalize hxe : rd_T76 l (i : Int) = x at *
      clear hxe HIX HXE
      go_wp2_with fail
      refine (reads_any x.f0.f1 _).mono ?_; rintro e w4 ⟨rfl, hb⟩
      have HX4 := Lib.hid (Box76.below (show Box76 _ wo.heap.size x from Blk.new wo (c76 x) 84) hb)
      have HB4 := Lib.hid (((Below.refl wo.heap.size wo).alloc (Nat.le_refl _) _).trans (hb.mono (by simp)) : Below wo.heap.size wo w4)
      clear hb
      have HBW4 := Lib.hid (HBW.out.trans (HB4.out.mono HBW.out.size) : Below w3.heap.size w3 w4)
      obtain ⟨pb, hpb⟩ : ∃ pb, pb = wo.heap.size := ⟨_, rfl⟩
      rw [← hpb] at HX4
      rw [← hpb]
      clear g0 g1 g2 g3 g4 g5 g6 g7 g8 g9 hpb HB4
      cases hrd : readsB x.f0.f1
      · go_wp2
        go_roundw
        case rel => exact ⟨i + 1, by go_num, by omega, by rw [range_any, HNO.out, HRO.out, hrd]; rfl, HBW4.out⟩
        case measure => simp [intOf]; omega
      · have hl4 := keyB HBW4.out HL3.out
        go_wp2
        clear hl4
        go_loopw [28] (fun v wr => ∃ k : Nat, v = .int .i64 k ∧ k ≤ l.length ∧ ((List.range k).any fun k => badO l out i k) = false ∧ Below w4.heap.size w4 wr) (fun v _ => l.length - (intOf v).toNat)
        case atStart => exact ⟨0, rfl, by omega, rfl, Below.refl _ _⟩
        case round =>
          obtain ⟨k, rfl, hk, hno, hbw⟩ := hrel
          have HN := Lib.hid hno; have HBK := Lib.hid hbw; clear hno hbw
          obtain ⟨wp, rfl⟩ : ∃ wp : World, wp = wr := ⟨_, rfl⟩
          have HBP := Lib.hid (HBW4.out.trans (HBK.out.mono HBW4.out.size) : Below w3.heap.size w3 wp)
          by_cases hlt2 : k < l.length
          · obtain ⟨ad', ead, g0, g1, g2, g3, g4, g5, g6, g7, g8, g9⟩ := at_T76 (Kd.C_below HC3.out HBP.out) (k : Int) (by omega) (by omega)
            obtain rfl : ad = ad' := by simpa using ead
            clear ead
            rw [Int.toNat_natCast] at *
            have HSKk := Lib.hid (HSK.out k); have HO1k := Lib.hid (HO1.out k); have HO2k := Lib.hid (HO2.out k); have HO3k := Lib.hid (HO3.out k)
            have HBAD := Lib.hid (show badO l out i k = (!skipO l i k && (bo1 l out i k || bo2 l out i k || bo3 l out i k)) from rfl)
            generalize hye : rd_T76 l (k : Int) = y at *
            clear hye
            go_upto_region 9 with fail
            go_cut [7, 8] (fun s7 s8 wc => s7 = .pointer (some ⟨wp.heap.size, 0, none⟩) ∧ s8 = .pointer (some ⟨wp.heap.size + 1, 0, none⟩) ∧ Below w4.heap.size w4 wc ∧ wc.cell? ⟨wp.heap.size, 0, none⟩ = some (.int .i64 (k : Int)) ∧ Box76 wc (wp.heap.size + 1) y)
            case first =>
              go_wp2
              go_meet
              case rel => exact ⟨rfl, rfl, (HBK.out.alloc HBK.out.size _).alloc (by have := HBK.out.size; simp; omega) _, ((Blk.new wp [.int .i64 (k : Int)] 3).alloc _).cell rfl, box_pair wp _ y⟩
            case rest =>
              obtain ⟨rfl, rfl, hb5, hk5, hy5⟩ := hcut
              obtain ⟨w5, rfl⟩ : ∃ w5 : World, w5 = wc := ⟨_, rfl⟩
              obtain ⟨pa, hpa⟩ : ∃ pa, pa = wp.heap.size + 1 := ⟨_, rfl⟩
              rw [← hpa] at hy5 ⊢
              clear hpa
              generalize wp.heap.size = pk at *
              have HK5 := Lib.hid hk5; have HY5 := Lib.hid hy5; have HB5 := Lib.hid hb5; have HX5 := Lib.hid (HX4.out.below hb5)
              clear g0 g1 g2 g3 g4 g5 g6 g7 g8 g9 hk5 hy5 hb5
              go_upto_region 10 with fail
              go_cut [33] (fun s wc => s = .bool (skipO l i k) ∧ Below w5.heap.size w5 wc)
              case first =>
                obtain ⟨a0, a1, a2, a3, a4, a5, a6, a7, a8, a9⟩ := box_cells HY5.out
                obtain ⟨b0, b1, b2, b3, b4, b5, b6, b7, b8, b9⟩ := box_cells HX5.out
                have hk5 := HK5.out
                cases hik : (i == k)
                · have hgd : ((i : Int) == (k : Int)) = false := by simp at hik ⊢; omega
                  rw [hik] at HSKk; clear hik
                  go_wp2_with fail
                  refine (writes_any y.f0.f1 _).mono ?_; rintro e w6 ⟨rfl, hb6⟩
                  have HB6 := Lib.hid hb6
                  have ha := box_cells (HY5.out.below hb6); have hbx := box_cells (HX5.out.below hb6)
                  clear a0 a1 a2 a3 a4 a5 a6 a7 a8 a9 b0 b1 b2 b3 b4 b5 b6 b7 b8 b9 hk5 hb6
                  obtain ⟨a0, a1, a2, a3, a4, a5, a6, a7, a8, a9⟩ := ha
                  obtain ⟨b0, b1, b2, b3, b4, b5, b6, b7, b8, b9⟩ := hbx
                  cases hwr : writesB y.f0.f1
                  · go_wp2
                    go_meet
                    case rel => exact ⟨by rw [HSKk.out, hwr]; rfl, HB6.out⟩
                  · cases hAt : (y.f0.f1.f1 != x.f0.f1.f1)
                    · go_wp2
                      go_meet
                      case rel => exact ⟨by rw [HSKk.out, hwr, hAt]; rfl, HB6.out⟩
                    · go_wp2
                      go_meet
                      case rel => exact ⟨by rw [HSKk.out, hwr, hAt]; rfl, HB6.out⟩
                · have hgd : ((i : Int) == (k : Int)) = true := by simp at hik ⊢; omega
                  rw [hik] at HSKk; clear hik
                  go_wp2
                  go_meet
                  case rel => exact ⟨by rw [HSKk.out]; rfl, Below.refl _ _⟩
              case rest =>
                obtain ⟨rfl, hb6⟩ := hcut
                obtain ⟨w6, rfl⟩ : ∃ w6 : World, w6 = wc := ⟨_, rfl⟩
                have HB56 := Lib.hid hb6; clear hb6
                have HB6 := Lib.hid (HB5.out.trans (HB56.out.mono HB5.out.size) : Below w4.heap.size w4 w6)
                have HB63 := Lib.hid (HBW4.out.trans (HB6.out.mono HBW4.out.size) : Below w3.heap.size w3 w6)
                have HK6 := Lib.hid (keyB HB56.out HK5.out); have HY6 := Lib.hid (HY5.out.below HB56.out); have HX6 := Lib.hid (HX5.out.below HB56.out)
                have HL6 := Lib.hid (keyB HB63.out HL3.out); have HH6 := Lib.hid (keyB HB63.out HH3.out)
                clear HK5 HY5 HX5 HB5 HB56
                cases hsk : skipO l i k with
                | true =>
                  go_wp2
                  go_roundw
                  case rel => exact ⟨k + 1, by go_num, by omega, by rw [range_any, HN.out, HBAD.out, hsk]; rfl, HB6.out⟩
                  case measure => simp [intOf]; omega
                | false =>
                  go_upto_region 11 with fail
                  go_cut [55] (fun s wc => s = .bool (bo1 l out i k) ∧ Below w6.heap.size w6 wc)
                  case first =>
                    obtain ⟨s0, s1, s2, s3, s4, s5, s6, s7, s8, s9⟩ := box_cells HY6.out
                    obtain ⟨s10, s11, s12, s13, s14, s15, s16, s17, s18, s19⟩ := box_cells HX6.out
                    have s20 := HH6.out
                    have s21 := HL6.out
                    have s22 := HK6.out
                    obtain ⟨bi, r1, r2⟩ := HCELL.out i k hlt hlt2
                    have s23 := keyB HB63.out r1
                    have s24 := keyB HB63.out (r2 k hlt2)
                    clear r1 r2
                    cases hrf : rfB y x
                    · skip
                      refine wp_region_held_drew (S := (fun w' => w'.cell? ⟨pa, 0, none⟩ = some (.int .i64 y.f0.f0) ∧ w'.cell? ⟨pa, 1, none⟩ = some (.int .i64 y.f0.f1.f0) ∧ w'.cell? ⟨pa, 2, none⟩ = some (.int .i64 y.f0.f1.f1) ∧ w'.cell? ⟨pa, 3, none⟩ = some (.int .i64 y.f0.f1.f2) ∧ w'.cell? ⟨pa, 4, none⟩ = some (.int .i64 y.f0.f1.f3) ∧ w'.cell? ⟨pa, 5, none⟩ = some (.bool y.f0.f1.f4) ∧ w'.cell? ⟨pa, 6, none⟩ = some (.bool y.f0.f1.f5) ∧ w'.cell? ⟨pa, 7, none⟩ = some (.int .i64 y.f0.f2) ∧ w'.cell? ⟨pa, 8, none⟩ = some (.int .i64 y.f0.f3) ∧ w'.cell? ⟨pa, 9, none⟩ = some (.int .i64 y.f1) ∧ w'.cell? ⟨pb, 0, none⟩ = some (.int .i64 x.f0.f0) ∧ w'.cell? ⟨pb, 1, none⟩ = some (.int .i64 x.f0.f1.f0) ∧ w'.cell? ⟨pb, 2, none⟩ = some (.int .i64 x.f0.f1.f1) ∧ w'.cell? ⟨pb, 3, none⟩ = some (.int .i64 x.f0.f1.f2) ∧ w'.cell? ⟨pb, 4, none⟩ = some (.int .i64 x.f0.f1.f3) ∧ w'.cell? ⟨pb, 5, none⟩ = some (.bool x.f0.f1.f4) ∧ w'.cell? ⟨pb, 6, none⟩ = some (.bool x.f0.f1.f5) ∧ w'.cell? ⟨pb, 7, none⟩ = some (.int .i64 x.f0.f2) ∧ w'.cell? ⟨pb, 8, none⟩ = some (.int .i64 x.f0.f3) ∧ w'.cell? ⟨pb, 9, none⟩ = some (.int .i64 x.f1) ∧ w'.cell? ⟨ph, 0, none⟩ = some (.slice (some ⟨g, 0, none⟩) l.length l.length) ∧ w'.cell? ⟨pl, 0, none⟩ = some (.slice (some ad) l.length c1) ∧ w'.cell? ⟨pk, 0, none⟩ = some (.int .i64 (k : Int)) ∧ w'.cell? ⟨g, i, none⟩ = some (.slice (some ⟨bi, 0, none⟩) l.length l.length) ∧ w'.cell? ⟨bi, k, none⟩ = some (.bool (hbOf out i k)))) (by kernel_rfl) ?_ (fun hHeld => ?_)
                      · (try dsimp only); go_keep
                      refine wpAnyH_take (i := 0) (oi := { dst := some 56, op := Op.load 84 (Operand.tmp 8), type := 84, pos := "order.go:151", after := #[], guard := none }) (v := ?_) rfl (by kernel_rfl) (by kernel_rfl) (by kernel_rfl) (fun _ _ _ h => h) (Or.inl ⟨by rfl, ?_⟩) (by assumption) ?_
                      rotate_left
                      · intro w9 hSw; (try dsimp only at hSw); go_simp; try (with_reducible rfl)
                      try simp only [Act.put, List.setIfInBounds_toArray, List.set_cons_zero, List.set_cons_succ]
                      refine wpAnyH_take (i := 1) (oi := { dst := some 57, op := Op.load 84 (Operand.tmp 6), type := 84, pos := "order.go:151", after := #[], guard := none }) (v := ?_) rfl (by kernel_rfl) (by kernel_rfl) (by kernel_rfl) (fun _ _ _ h => h) (Or.inl ⟨by rfl, ?_⟩) (by assumption) ?_
                      rotate_left
                      · intro w9 hSw; (try dsimp only at hSw); go_simp; try (with_reducible rfl)
                      try simp only [Act.put, List.setIfInBounds_toArray, List.set_cons_zero, List.set_cons_succ]
                      refine wpAnyH_ready (rs := [2]) (by kernel_rfl) (by simp) ?_
                      refine AllReadyH.cons (o := { dst := some 58, op := Op.call { callee := Callee.value (Operand.func 52), args := #[Operand.tmp 56, Operand.tmp 57], argTypes := #[84, 84] }, type := 4, pos := "order.go:151", after := #[{ on := 0, ground := Ground.data }, { on := 1, ground := Ground.data }], guard := none }) rfl (fun K hK => ?_) AllReadyH.nil
                      go_simp
                      (go_at_call 52; refine (rf_any y x _).mono ?_; rintro e w7 ⟨rfl, hb⟩; obtain ⟨t0, t1, t2, t3, t4, t5, t6, t7, t8, t9, t10, t11, t12, t13, t14, t15, t16, t17, t18, t19, t20, t21, t22, t23, t24⟩ := LitS.below (x := y) (y := x) (n := l.length) (k := k) (j := i) (A := some ad) (c := c1) (cg := l.length) (pw := pa) (pb := pb) (ph := ph) (pl := pl) (pk := pk) (g := g) (bj := bi) (v := hbOf out i k) hb ⟨s0, s1, s2, s3, s4, s5, s6, s7, s8, s9, s10, s11, s12, s13, s14, s15, s16, s17, s18, s19, s20, s21, s22, s23, s24⟩; have HB7 := Lib.hid ((below_drew (Below.refl w6.heap.size w6)).trans hb : Below w6.heap.size w6 w7); clear hb)
                      try go_wp2_with fail
                      refine hK.out _ _ ?_ (fun hHeld4 => ?_)
                      · (try dsimp only); go_keep
                      clear hK K
                      try simp only [Act.put, List.setIfInBounds_toArray, List.set_cons_zero, List.set_cons_succ]
                      refine wpAnyH_take (i := 3) (oi := { dst := some 59, op := Op.move (Operand.tmp 58), type := 4, pos := "order.go:151", after := #[{ on := 2, ground := Ground.data }, { on := 2, ground := Ground.chain }], guard := none }) (v := ?_) rfl (by kernel_rfl) (by kernel_rfl) (by kernel_rfl) (fun _ _ _ h => h) (Or.inl ⟨by rfl, ?_⟩) (by assumption) ?_
                      rotate_left
                      · intro w9 hSw; (try dsimp only at hSw); go_simp; try (with_reducible rfl)
                      try simp only [Act.put, List.setIfInBounds_toArray, List.set_cons_zero, List.set_cons_succ]
                      refine wpAnyH_take (i := 4) (oi := { dst := some 60, op := Op.load 81 (Operand.tmp 4), type := 81, pos := "order.go:151", after := #[{ on := 3, ground := Ground.guard }], guard := some (3, true) }) (v := undef) rfl (by kernel_rfl) (by kernel_rfl) (by kernel_rfl) (fun _ _ _ h => h) (Or.inr ⟨by rfl, rfl⟩) (by assumption) ?_
                      try simp only [Act.put, List.setIfInBounds_toArray, List.set_cons_zero, List.set_cons_succ]
                      refine wpAnyH_take (i := 5) (oi := { dst := some 61, op := Op.move (Operand.tmp 5), type := 3, pos := "order.go:151", after := #[{ on := 3, ground := Ground.guard }], guard := some (3, true) }) (v := undef) rfl (by kernel_rfl) (by kernel_rfl) (by kernel_rfl) (fun _ _ _ h => h) (Or.inr ⟨by rfl, rfl⟩) (by assumption) ?_
                      try simp only [Act.put, List.setIfInBounds_toArray, List.set_cons_zero, List.set_cons_succ]
                      refine wpAnyH_take (i := 6) (oi := { dst := some 62, op := Op.indexAddr 81 (Operand.tmp 60) (Operand.tmp 61), type := 0, pos := "order.go:151", after := #[{ on := 4, ground := Ground.data }, { on := 5, ground := Ground.data }, { on := 3, ground := Ground.guard }], guard := some (3, true) }) (v := undef) rfl (by kernel_rfl) (by kernel_rfl) (by kernel_rfl) (fun _ _ _ h => h) (Or.inr ⟨by rfl, rfl⟩) (by assumption) ?_
                      try simp only [Act.put, List.setIfInBounds_toArray, List.set_cons_zero, List.set_cons_succ]
                      refine wpAnyH_take (i := 7) (oi := { dst := some 63, op := Op.load 90 (Operand.tmp 62), type := 90, pos := "order.go:151", after := #[{ on := 6, ground := Ground.data }, { on := 3, ground := Ground.guard }], guard := some (3, true) }) (v := undef) rfl (by kernel_rfl) (by kernel_rfl) (by kernel_rfl) (fun _ _ _ h => h) (Or.inr ⟨by rfl, rfl⟩) (by assumption) ?_
                      try simp only [Act.put, List.setIfInBounds_toArray, List.set_cons_zero, List.set_cons_succ]
                      refine wpAnyH_take (i := 8) (oi := { dst := some 64, op := Op.load 3 (Operand.tmp 7), type := 3, pos := "order.go:151", after := #[{ on := 3, ground := Ground.guard }], guard := some (3, true) }) (v := undef) rfl (by kernel_rfl) (by kernel_rfl) (by kernel_rfl) (fun _ _ _ h => h) (Or.inr ⟨by rfl, rfl⟩) (by assumption) ?_
                      try simp only [Act.put, List.setIfInBounds_toArray, List.set_cons_zero, List.set_cons_succ]
                      refine wpAnyH_take (i := 9) (oi := { dst := some 65, op := Op.indexAddr 90 (Operand.tmp 63) (Operand.tmp 64), type := 0, pos := "order.go:151", after := #[{ on := 7, ground := Ground.data }, { on := 8, ground := Ground.data }, { on := 3, ground := Ground.guard }], guard := some (3, true) }) (v := undef) rfl (by kernel_rfl) (by kernel_rfl) (by kernel_rfl) (fun _ _ _ h => h) (Or.inr ⟨by rfl, rfl⟩) (by assumption) ?_
                      try simp only [Act.put, List.setIfInBounds_toArray, List.set_cons_zero, List.set_cons_succ]
                      refine wpAnyH_take (i := 10) (oi := { dst := some 66, op := Op.load 4 (Operand.tmp 65), type := 4, pos := "order.go:151", after := #[{ on := 9, ground := Ground.data }, { on := 3, ground := Ground.guard }], guard := some (3, true) }) (v := undef) rfl (by kernel_rfl) (by kernel_rfl) (by kernel_rfl) (fun _ _ _ h => h) (Or.inr ⟨by rfl, rfl⟩) (by assumption) ?_
                      try simp only [Act.put, List.setIfInBounds_toArray, List.set_cons_zero, List.set_cons_succ]
                      refine wpAnyH_take (i := 11) (oi := { dst := some 67, op := Op.pick (Operand.tmp 59) (Operand.tmp 66) (Operand.const (Value.bool false)), type := 4, pos := "order.go:151", after := #[{ on := 3, ground := Ground.data }, { on := 10, ground := Ground.data }], guard := none }) (v := ?_) rfl (by kernel_rfl) (by kernel_rfl) (by kernel_rfl) (fun _ _ _ h => h) (Or.inl ⟨by rfl, ?_⟩) (by assumption) ?_
                      rotate_left
                      · intro w9 hSw; (try dsimp only at hSw); go_simp; try (with_reducible rfl)
                      try simp only [Act.put, List.setIfInBounds_toArray, List.set_cons_zero, List.set_cons_succ]
                      refine wpAnyH_ready (rs := [12]) (by kernel_rfl) (by simp) ?_
                      refine AllReadyH.cons (o := { dst := some 55, op := Op.assign (Operand.tmp 67), type := 4, pos := "order.go:151", after := #[{ on := 11, ground := Ground.data }, { on := 3, ground := Ground.chain }], guard := none }) rfl (fun K hK => ?_) AllReadyH.nil
                      go_simp
                      refine hK.out _ _ ?_ (fun hHeld14 => ?_)
                      · (try dsimp only); go_keep
                      clear hK K
                      try simp only [Act.put, List.setIfInBounds_toArray, List.set_cons_zero, List.set_cons_succ]
                      refine wpAnyH_done (by kernel_rfl) ?_ _
                      go_wp2
                      go_meet
                      case rel => exact ⟨by rw [HO1k.out, hrf]; simp, HB7.out⟩
                    · skip
                      refine wp_region_held_drew (S := (fun w' => w'.cell? ⟨pa, 0, none⟩ = some (.int .i64 y.f0.f0) ∧ w'.cell? ⟨pa, 1, none⟩ = some (.int .i64 y.f0.f1.f0) ∧ w'.cell? ⟨pa, 2, none⟩ = some (.int .i64 y.f0.f1.f1) ∧ w'.cell? ⟨pa, 3, none⟩ = some (.int .i64 y.f0.f1.f2) ∧ w'.cell? ⟨pa, 4, none⟩ = some (.int .i64 y.f0.f1.f3) ∧ w'.cell? ⟨pa, 5, none⟩ = some (.bool y.f0.f1.f4) ∧ w'.cell? ⟨pa, 6, none⟩ = some (.bool y.f0.f1.f5) ∧ w'.cell? ⟨pa, 7, none⟩ = some (.int .i64 y.f0.f2) ∧ w'.cell? ⟨pa, 8, none⟩ = some (.int .i64 y.f0.f3) ∧ w'.cell? ⟨pa, 9, none⟩ = some (.int .i64 y.f1) ∧ w'.cell? ⟨pb, 0, none⟩ = some (.int .i64 x.f0.f0) ∧ w'.cell? ⟨pb, 1, none⟩ = some (.int .i64 x.f0.f1.f0) ∧ w'.cell? ⟨pb, 2, none⟩ = some (.int .i64 x.f0.f1.f1) ∧ w'.cell? ⟨pb, 3, none⟩ = some (.int .i64 x.f0.f1.f2) ∧ w'.cell? ⟨pb, 4, none⟩ = some (.int .i64 x.f0.f1.f3) ∧ w'.cell? ⟨pb, 5, none⟩ = some (.bool x.f0.f1.f4) ∧ w'.cell? ⟨pb, 6, none⟩ = some (.bool x.f0.f1.f5) ∧ w'.cell? ⟨pb, 7, none⟩ = some (.int .i64 x.f0.f2) ∧ w'.cell? ⟨pb, 8, none⟩ = some (.int .i64 x.f0.f3) ∧ w'.cell? ⟨pb, 9, none⟩ = some (.int .i64 x.f1) ∧ w'.cell? ⟨ph, 0, none⟩ = some (.slice (some ⟨g, 0, none⟩) l.length l.length) ∧ w'.cell? ⟨pl, 0, none⟩ = some (.slice (some ad) l.length c1) ∧ w'.cell? ⟨pk, 0, none⟩ = some (.int .i64 (k : Int)) ∧ w'.cell? ⟨g, i, none⟩ = some (.slice (some ⟨bi, 0, none⟩) l.length l.length) ∧ w'.cell? ⟨bi, k, none⟩ = some (.bool (hbOf out i k)))) (by kernel_rfl) ?_ (fun hHeld => ?_)
                      · (try dsimp only); go_keep
                      refine wpAnyH_take (i := 0) (oi := { dst := some 56, op := Op.load 84 (Operand.tmp 8), type := 84, pos := "order.go:151", after := #[], guard := none }) (v := ?_) rfl (by kernel_rfl) (by kernel_rfl) (by kernel_rfl) (fun _ _ _ h => h) (Or.inl ⟨by rfl, ?_⟩) (by assumption) ?_
                      rotate_left
                      · intro w9 hSw; (try dsimp only at hSw); go_simp; try (with_reducible rfl)
                      try simp only [Act.put, List.setIfInBounds_toArray, List.set_cons_zero, List.set_cons_succ]
                      refine wpAnyH_take (i := 1) (oi := { dst := some 57, op := Op.load 84 (Operand.tmp 6), type := 84, pos := "order.go:151", after := #[], guard := none }) (v := ?_) rfl (by kernel_rfl) (by kernel_rfl) (by kernel_rfl) (fun _ _ _ h => h) (Or.inl ⟨by rfl, ?_⟩) (by assumption) ?_
                      rotate_left
                      · intro w9 hSw; (try dsimp only at hSw); go_simp; try (with_reducible rfl)
                      try simp only [Act.put, List.setIfInBounds_toArray, List.set_cons_zero, List.set_cons_succ]
                      refine wpAnyH_ready (rs := [2]) (by kernel_rfl) (by simp) ?_
                      refine AllReadyH.cons (o := { dst := some 58, op := Op.call { callee := Callee.value (Operand.func 52), args := #[Operand.tmp 56, Operand.tmp 57], argTypes := #[84, 84] }, type := 4, pos := "order.go:151", after := #[{ on := 0, ground := Ground.data }, { on := 1, ground := Ground.data }], guard := none }) rfl (fun K hK => ?_) AllReadyH.nil
                      go_simp
                      (go_at_call 52; refine (rf_any y x _).mono ?_; rintro e w7 ⟨rfl, hb⟩; obtain ⟨t0, t1, t2, t3, t4, t5, t6, t7, t8, t9, t10, t11, t12, t13, t14, t15, t16, t17, t18, t19, t20, t21, t22, t23, t24⟩ := LitS.below (x := y) (y := x) (n := l.length) (k := k) (j := i) (A := some ad) (c := c1) (cg := l.length) (pw := pa) (pb := pb) (ph := ph) (pl := pl) (pk := pk) (g := g) (bj := bi) (v := hbOf out i k) hb ⟨s0, s1, s2, s3, s4, s5, s6, s7, s8, s9, s10, s11, s12, s13, s14, s15, s16, s17, s18, s19, s20, s21, s22, s23, s24⟩; have HB7 := Lib.hid ((below_drew (Below.refl w6.heap.size w6)).trans hb : Below w6.heap.size w6 w7); clear hb)
                      try go_wp2_with fail
                      refine hK.out _ _ ?_ (fun hHeld4 => ?_)
                      · (try dsimp only); go_keep
                      clear hK K
                      try simp only [Act.put, List.setIfInBounds_toArray, List.set_cons_zero, List.set_cons_succ]
                      refine wpAnyH_take (i := 3) (oi := { dst := some 59, op := Op.move (Operand.tmp 58), type := 4, pos := "order.go:151", after := #[{ on := 2, ground := Ground.data }, { on := 2, ground := Ground.chain }], guard := none }) (v := ?_) rfl (by kernel_rfl) (by kernel_rfl) (by kernel_rfl) (fun _ _ _ h => h) (Or.inl ⟨by rfl, ?_⟩) (by assumption) ?_
                      rotate_left
                      · intro w9 hSw; (try dsimp only at hSw); go_simp; try (with_reducible rfl)
                      try simp only [Act.put, List.setIfInBounds_toArray, List.set_cons_zero, List.set_cons_succ]
                      refine wpAnyH_take (i := 4) (oi := { dst := some 60, op := Op.load 81 (Operand.tmp 4), type := 81, pos := "order.go:151", after := #[{ on := 3, ground := Ground.guard }], guard := some (3, true) }) (v := ?_) rfl (by kernel_rfl) (by kernel_rfl) (by kernel_rfl) (fun _ _ _ h => h) (Or.inl ⟨by rfl, ?_⟩) (by assumption) ?_
                      rotate_left
                      · intro w9 hSw; (try dsimp only at hSw); go_simp; try (with_reducible rfl)
                      try simp only [Act.put, List.setIfInBounds_toArray, List.set_cons_zero, List.set_cons_succ]
                      refine wpAnyH_take (i := 5) (oi := { dst := some 61, op := Op.move (Operand.tmp 5), type := 3, pos := "order.go:151", after := #[{ on := 3, ground := Ground.guard }], guard := some (3, true) }) (v := ?_) rfl (by kernel_rfl) (by kernel_rfl) (by kernel_rfl) (fun _ _ _ h => h) (Or.inl ⟨by rfl, ?_⟩) (by assumption) ?_
                      rotate_left
                      · intro w9 hSw; (try dsimp only at hSw); go_simp; try (with_reducible rfl)
                      try simp only [Act.put, List.setIfInBounds_toArray, List.set_cons_zero, List.set_cons_succ]
                      refine wpAnyH_take (i := 6) (oi := { dst := some 62, op := Op.indexAddr 81 (Operand.tmp 60) (Operand.tmp 61), type := 0, pos := "order.go:151", after := #[{ on := 4, ground := Ground.data }, { on := 5, ground := Ground.data }, { on := 3, ground := Ground.guard }], guard := some (3, true) }) (v := ?_) rfl (by kernel_rfl) (by kernel_rfl) (by kernel_rfl) (fun _ _ _ h => h) (Or.inl ⟨by rfl, ?_⟩) (by assumption) ?_
                      rotate_left
                      · intro w9 hSw; (try dsimp only at hSw); go_simp; try (with_reducible rfl)
                      try simp only [Act.put, List.setIfInBounds_toArray, List.set_cons_zero, List.set_cons_succ]
                      refine wpAnyH_take (i := 7) (oi := { dst := some 63, op := Op.load 90 (Operand.tmp 62), type := 90, pos := "order.go:151", after := #[{ on := 6, ground := Ground.data }, { on := 3, ground := Ground.guard }], guard := some (3, true) }) (v := ?_) rfl (by kernel_rfl) (by kernel_rfl) (by kernel_rfl) (fun _ _ _ h => h) (Or.inl ⟨by rfl, ?_⟩) (by assumption) ?_
                      rotate_left
                      · intro w9 hSw; (try dsimp only at hSw); go_simp; try (with_reducible rfl)
                      try simp only [Act.put, List.setIfInBounds_toArray, List.set_cons_zero, List.set_cons_succ]
                      refine wpAnyH_take (i := 8) (oi := { dst := some 64, op := Op.load 3 (Operand.tmp 7), type := 3, pos := "order.go:151", after := #[{ on := 3, ground := Ground.guard }], guard := some (3, true) }) (v := ?_) rfl (by kernel_rfl) (by kernel_rfl) (by kernel_rfl) (fun _ _ _ h => h) (Or.inl ⟨by rfl, ?_⟩) (by assumption) ?_
                      rotate_left
                      · intro w9 hSw; (try dsimp only at hSw); go_simp; try (with_reducible rfl)
                      try simp only [Act.put, List.setIfInBounds_toArray, List.set_cons_zero, List.set_cons_succ]
                      refine wpAnyH_take (i := 9) (oi := { dst := some 65, op := Op.indexAddr 90 (Operand.tmp 63) (Operand.tmp 64), type := 0, pos := "order.go:151", after := #[{ on := 7, ground := Ground.data }, { on := 8, ground := Ground.data }, { on := 3, ground := Ground.guard }], guard := some (3, true) }) (v := ?_) rfl (by kernel_rfl) (by kernel_rfl) (by kernel_rfl) (fun _ _ _ h => h) (Or.inl ⟨by rfl, ?_⟩) (by assumption) ?_
                      rotate_left
                      · intro w9 hSw; (try dsimp only at hSw); go_simp; try (with_reducible rfl)
                      try simp only [Act.put, List.setIfInBounds_toArray, List.set_cons_zero, List.set_cons_succ]
                      refine wpAnyH_take (i := 10) (oi := { dst := some 66, op := Op.load 4 (Operand.tmp 65), type := 4, pos := "order.go:151", after := #[{ on := 9, ground := Ground.data }, { on := 3, ground := Ground.guard }], guard := some (3, true) }) (v := ?_) rfl (by kernel_rfl) (by kernel_rfl) (by kernel_rfl) (fun _ _ _ h => h) (Or.inl ⟨by rfl, ?_⟩) (by assumption) ?_
                      rotate_left
                      · intro w9 hSw; (try dsimp only at hSw); go_simp; try (with_reducible rfl)
                      try simp only [Act.put, List.setIfInBounds_toArray, List.set_cons_zero, List.set_cons_succ]
                      refine wpAnyH_take (i := 11) (oi := { dst := some 67, op := Op.pick (Operand.tmp 59) (Operand.tmp 66) (Operand.const (Value.bool false)), type := 4, pos := "order.go:151", after := #[{ on := 3, ground := Ground.data }, { on := 10, ground := Ground.data }], guard := none }) (v := ?_) rfl (by kernel_rfl) (by kernel_rfl) (by kernel_rfl) (fun _ _ _ h => h) (Or.inl ⟨by rfl, ?_⟩) (by assumption) ?_
                      rotate_left
                      · intro w9 hSw; (try dsimp only at hSw); go_simp; try (with_reducible rfl)
                      try simp only [Act.put, List.setIfInBounds_toArray, List.set_cons_zero, List.set_cons_succ]
                      refine wpAnyH_ready (rs := [12]) (by kernel_rfl) (by simp) ?_
                      refine AllReadyH.cons (o := { dst := some 55, op := Op.assign (Operand.tmp 67), type := 4, pos := "order.go:151", after := #[{ on := 11, ground := Ground.data }, { on := 3, ground := Ground.chain }], guard := none }) rfl (fun K hK => ?_) AllReadyH.nil
                      go_simp
                      refine hK.out _ _ ?_ (fun hHeld14 => ?_)
                      · (try dsimp only); go_keep
                      clear hK K
                      try simp only [Act.put, List.setIfInBounds_toArray, List.set_cons_zero, List.set_cons_succ]
                      refine wpAnyH_done (by kernel_rfl) ?_ _
                      go_wp2
                      go_meet
                      case rel => exact ⟨by rw [HO1k.out, hrf]; simp [hrf], HB7.out⟩
                  case rest =>
                    obtain ⟨rfl, hb7⟩ := hcut
                    obtain ⟨w7, rfl⟩ : ∃ w7 : World, w7 = wc := ⟨_, rfl⟩
                    have HB67 := Lib.hid hb7; clear hb7
                    have HB7 := Lib.hid (HB6.out.trans (HB67.out.mono HB6.out.size) : Below w4.heap.size w4 w7)
                    have HB73 := Lib.hid (HBW4.out.trans (HB7.out.mono HBW4.out.size) : Below w3.heap.size w3 w7)
                    have HK7 := Lib.hid (keyB HB67.out HK6.out); have HY7 := Lib.hid (HY6.out.below HB67.out); have HX7 := Lib.hid (HX6.out.below HB67.out)
                    have HL7 := Lib.hid (keyB HB73.out HL3.out); have HH7 := Lib.hid (keyB HB73.out HH3.out)
                    clear HK6 HY6 HX6 HL6 HH6 HB67
                    cases h1 : bo1 l out i k with
                    | true =>
                      go_wp2
                      go_ret
                      exact ⟨ret_bool (HF.out k hlt2 hrd (by rw [HBAD.out, hsk, h1]; rfl)).symm, HW.out.trans (HB73.out.mono HW.out.size)⟩
                    | false =>
                      obtain ⟨bk, r1, r2⟩ := HCELL.out k i hlt2 hlt
                      have r3 := keyB HB73.out (r2 i hlt)
                      have r4 := keyB HB73.out r1
                      clear r1 r2
                      have hk7 := HK7.out; have hl7 := HL7.out; have hh7 := HH7.out
                      go_upto_region 13 with fail
                      go_cut [68] (fun s wc => s = .bool (bo2 l out i k) ∧ wc = w7)
                      case first =>
                        obtain ⟨a0, a1, a2, a3, a4, a5, a6, a7, a8, a9⟩ := box_cells HY7.out
                        obtain ⟨b0, b1, b2, b3, b4, b5, b6, b7, b8, b9⟩ := box_cells HX7.out
                        cases hh : hbOf out k i <;> cases hp : decide (x.f0.f2 < y.f0.f3) <;> cases hq : (x.f0.f2 == 0)
                        all_goals
                          rw [hh] at r3
                          go_wp2
                          go_meet
                          case rel => exact ⟨by rw [HO2k.out, hh, hp, hq]; rfl, rfl⟩
                      case rest =>
                        obtain ⟨rfl, rfl⟩ := hcut
                        cases h2 : bo2 l out i k with
                        | true =>
                          go_wp2
                          go_ret
                          exact ⟨ret_bool (HF.out k hlt2 hrd (by rw [HBAD.out, hsk, h1, h2]; rfl)).symm, HW.out.trans (HB73.out.mono HW.out.size)⟩
                        | false =>
                          cases hh : hbOf out k i
                          · rw [hh] at r3
                            go_wp2
                            go_roundw
                            case rel => exact ⟨k + 1, by go_num, by omega, by rw [range_any, HN.out, HBAD.out, hsk, h1, h2, HO3k.out, hh]; rfl, HB7.out⟩
                            case measure => simp [intOf]; omega
                          · rw [hh] at r3
                            go_wp2_with fail
                            refine (containsLit_any l x (fun j => hbOf out j k) k (some ad) c1 l.length pb ph pl pk g _ ⟨HND.out, hlen, hlt2, Kd.C_below HC3.out HB73.out, HX7.out, HH7.out, HL7.out, HK7.out, fun j hj => by
                              obtain ⟨bj, q1, q2⟩ := HCELL.out j k hj hlt2
                              exact ⟨bj, keyB HB73.out q1, keyB HB73.out (q2 k hlt2)⟩⟩).mono ?_
                            rintro e w8 ⟨rfl, hb8⟩
                            have HB8 := Lib.hid (HB7.out.trans (hb8.mono HB7.out.size) : Below w4.heap.size w4 w8); clear hb8
                            have HB83 := Lib.hid (HBW4.out.trans (HB8.out.mono HBW4.out.size) : Below w3.heap.size w3 w8)
                            clear r3 r4 hk7 hl7 hh7
                            cases h3 : (List.range l.length).any (litP l x fun j => hbOf out j k)
                            · go_wp2
                              go_roundw
                              case rel => exact ⟨k + 1, by go_num, by omega, by rw [range_any, HN.out, HBAD.out, hsk, h1, h2, HO3k.out, hh, h3]; rfl, HB8.out⟩
                              case measure => simp [intOf]; omega
                            · go_wp2
                              go_ret
                              exact ⟨ret_bool (HF.out k hlt2 hrd (by rw [HBAD.out, hsk, h1, h2, HO3k.out, hh, h3]; rfl)).symm, HW.out.trans (HB83.out.mono HW.out.size)⟩
          · obtain rfl : k = l.length := by omega
            go_wp2
            go_roundw
            case rel => exact ⟨i + 1, by go_num, by omega, by rw [range_any, HNO.out, HRO.out, hrd, HN.out]; rfl, HBP.out⟩
            case measure => simp [intOf]; omega
    · obtain rfl : i = l.length := by omega
      go_wp2
      go_ret
      exact ⟨ret_bool (by rw [consO, HNO.out]; rfl), HW.out.trans (HBW.out.mono HW.out.size)⟩
end Go.Proofs.Ytfeempgoejnfdaa.Ord
