/- Run.Racy: what it computes, given what order.closed comes to. At most a million events. -/
import Derived.Test.YtfeempgoejnfdaaO8
namespace Go.Proofs.Ytfeempgoejnfdaa.Ord
open Go.RowKit Go.Proofs.YtfeempgoejnfdaaW.PrintWords Go.Proofs.YtfeempgoejnfdaaW.PrintLast Go.Proofs.YtfeempgoejnfdaaW.PrintMore
set_option linter.unusedVariables false
set_option linter.unusedSimpArgs false
def racyAt (l : List S76) (out : List (List Bool)) (i k : Nat) : Bool :=
  (!syncsB (rd_T76 l i).f0.f1 || !syncsB (rd_T76 l k).f0.f1) && !((rd_T76 l i).f0.f0 == (rd_T76 l k).f0.f0) && ((rd_T76 l i).f0.f1.f1 == (rd_T76 l k).f0.f1.f1) && (writesB (rd_T76 l i).f0.f1 || writesB (rd_T76 l k).f0.f1) && !((out.getD i []).getD k false) && !((out.getD k []).getD i false)
def racyB (l : List S76) (out : List (List Bool)) : Bool := (List.range l.length).any fun i => (List.range i).any fun k => racyAt l out i k
theorem range_any (p : Nat → Bool) (k : Nat) : (List.range (k + 1)).any p = ((List.range k).any p || p k) := by rw [List.range_succ, List.any_append]; simp
theorem racyB_true {l : List S76} {out : List (List Bool)} {i k : Nat} (hi : i < l.length) (hk : k < i) (h : racyAt l out i k = true) : racyB l out = true := by
  simp only [racyB, List.any_eq_true, List.mem_range]
  exact ⟨i, hi, k, hk, h⟩
theorem C_take {α : Type} {d : Kd α} {w : World} {A : Option Addr} {n m : Nat} {xs : List α} (h : d.C w A n xs) (hm : m ≤ n) : d.C w A m (xs.take m) := by
  obtain ⟨h1, h2, h3⟩ := h
  refine ⟨by rw [List.length_take]; omega, by omega, fun hp => ?_⟩
  obtain ⟨ad, e, hc⟩ := h3 (by omega)
  refine ⟨ad, e, fun j p hj => hc j p ?_⟩
  rw [List.getElem?_take] at hj
  split at hj
  · exact hj
  · cases hj
theorem rd_take (l : List S76) (i k : Nat) (h : k < i) : rd_T76 (l.take i) (k : Int) = rd_T76 l k := by
  unfold rd_T76
  simp [List.getD_eq_getElem?_getD, List.getElem?_take, h]
def RacyAt (l : List S76) (out : List (List Bool)) (w : World) (i : Nat) (wr : World) : Prop := i ≤ l.length ∧ ((List.range i).any fun i => (List.range i).any fun k => racyAt l out i k) = false ∧ Below w.heap.size w wr
def RacyIn (l : List S76) (out : List (List Bool)) (wo : World) (a : S76) (i k : Nat) (wr : World) : Prop := k ≤ i ∧ ((List.range k).any fun k => racyAt l out i k) = false ∧ Below wo.heap.size wo wr ∧ Box76 wr wo.heap.size a ∧ wo.heap.size < wr.heap.size
set_option maxRecDepth 100000 in
set_option maxHeartbeats 2000000 in
theorem racy_any (run : List (List S68)) (A : Option Addr) (c : Nat) (w : World) (F : Nat) (out : List (List Bool)) (hrun : krun.C w A run.length run) (hT : (run.map List.length).sum ≤ 1000000) (hrl : run.length ≤ 1000000)
    (hout : out.length = (nodesN allB run).length) (hgo : ∀ (i : Nat) (r : List Bool), out[i]? = some r → rowC (aheadOf (nodesN allB run)) F i = some r) : Calls Try.prog 22 #[.slice A run.length c] w (Gives (racyB (nodesN allB run) out) w) := by
  have hn := nodes_any run 48 allB act48 A c w hrun hT hrl
  have hlen : (nodesN allB run).length ≤ 1000000 := Nat.le_trans (nodesN_len _ _) hT
  have HN := Lib.hid hn; have HGO := Lib.hid hgo; have HO := Lib.hid hout; clear hn hgo hrun hout
  generalize nodesN allB run = l at *
  go_enter Try.func22, Try.ntmps22
  go_wp2_with fail
  refine HN.out.mono ?_
  rintro e w1 ⟨v, rfl, hR, hB⟩
  obtain ⟨A1, c1, rfl, hlc, hC⟩ := Kd.R_reads hR
  have HC := Lib.hid hC; have HB := Lib.hid hB; clear hC hB hR
  go_wp2_with fail
  refine (happens_any l _ A1 c1 _ F out hlen HC.out HO.out HGO.out).mono ?_
  rintro e w2 ⟨g, rfl, hB2, hrows⟩
  have HBB2 := Lib.hid (HB.out.trans (hB2.mono HB.out.size) : Below w.heap.size w w2)
  have HCC := Lib.hid (Kd.C_below HC.out hB2)
  have HGG := Lib.hid hrows.grid
  have HSQ := Lib.hid (fun (j : Nat) (r : List Bool) (hj : out[j]? = some r) => show r.length = l.length by obtain ⟨hs, _, _, h3⟩ := hrows; exact (h3 j r hj).1)
  clear hB2 hrows HC HB HGO HN
  have hlc' : l.length ≤ c1 := hlc
  go_wp2
  go_loopw [17] (fun v wr => ∃ i : Nat, v = .int .i64 i ∧ RacyAt l out w2 i wr) (fun v _ => l.length - (intOf v).toNat)
  case atStart => exact ⟨0, rfl, by omega, rfl, Below.refl _ _⟩
  case round =>
    obtain ⟨i, rfl, hi, hno, hbw⟩ := hrel
    obtain ⟨wo, rfl⟩ : ∃ wo : World, wo = wr := ⟨_, rfl⟩
    have HNO := Lib.hid hno; have HBW := Lib.hid hbw; clear hno hbw
    have HBB := Lib.hid (HBB2.out.trans (HBW.out.mono HBB2.out.size) : Below w.heap.size w wo)
    by_cases hlt : i < l.length
    · obtain ⟨ad, rfl, g0, g1, g2, g3, g4, g5, g6, g7, g8, g9⟩ := at_T76 (Kd.C_below HCC.out HBW.out) (i : Int) (by omega) (by omega)
      rw [Int.toNat_natCast] at *
      generalize hae : rd_T76 l (i : Int) = a at *
      have HA := Lib.hid hae; clear hae
      go_wp2
      clear g0 g1 g2 g3 g4 g5 g6 g7 g8 g9
      go_loopw [26] (fun v wr => ∃ k : Nat, v = .int .i64 k ∧ RacyIn l out wo a i k wr) (fun v _ => i - (intOf v).toNat)
      case atStart => exact ⟨0, rfl, by omega, rfl, (Below.refl _ _).alloc (Nat.le_refl _) _, Blk.new wo (c76 a) 84, by simp⟩
      case round =>
        obtain ⟨k, rfl, hk, hno, hbw, hbx, hsz⟩ := hrel
        have HN := Lib.hid hno; have HBK := Lib.hid hbw; have HBXA := Lib.hid hbx; clear hno hbw
        by_cases hlt2 : k < i
        · obtain ⟨ad', ead, g0, g1, g2, g3, g4, g5, g6, g7, g8, g9⟩ := at_T76 (Kd.C_below HCC.out (HBW.out.trans (HBK.out.mono HBW.out.size))) (k : Int) (by omega) (by omega)
          obtain rfl : ad = ad' := by simpa using ead
          rw [Int.toNat_natCast] at *
          clear ead
          generalize hbe : rd_T76 l (k : Int) = b at *
          have HB := Lib.hid hbe; clear hbe
          obtain ⟨ri, hri⟩ : ∃ x, out[i]? = some x := ⟨_, List.getElem?_eq_getElem (by have := HO.out; omega)⟩
          obtain ⟨rk, hrk⟩ : ∃ x, out[k]? = some x := ⟨_, List.getElem?_eq_getElem (by have := HO.out; omega)⟩
          obtain ⟨hik, hhik⟩ : ∃ x, ri[k]? = some x := ⟨_, List.getElem?_eq_getElem (by have := HSQ.out i ri hri; omega)⟩
          obtain ⟨hki, hhki⟩ : ∃ x, rk[i]? = some x := ⟨_, List.getElem?_eq_getElem (by have := HSQ.out k rk hrk; omega)⟩
          obtain ⟨bi, q1, q2⟩ := HGG.out.row i ri hri
          obtain ⟨bk, q3, q4⟩ := HGG.out.row k rk hrk
          have HG1 := Lib.hid q1; have HG2 := Lib.hid q2; have HG3 := Lib.hid q3; have HG4 := Lib.hid q4; have HRIK := Lib.hid hhik; have HRKI := Lib.hid hhki
          have HIK := Lib.hid (show (out.getD i []).getD k false = hik by simp [List.getD_eq_getElem?_getD, hri, hhik])
          have HKI := Lib.hid (show (out.getD k []).getD i false = hki by simp [List.getD_eq_getElem?_getD, hrk, hhki])
          have HBG := Lib.hid (HBW.out.trans (HBK.out.mono HBW.out.size) : Below w2.heap.size w2 wr)
          clear q1 q2 q3 q4 hhik hhki hri hrk
          obtain ⟨a0, a1, a2, a3, a4, a5, a6, a7, a8, a9⟩ := box_cells hbx
          clear hbx
          have hsz' : wo.heap.size < wr.heap.size + 1 := by omega
          go_wp2_with fail
          refine (syncs_any a.f0.f1 _).mono ?_; rintro e w3 ⟨rfl, hb3⟩; obtain ⟨hc1, hf1⟩ := bcell hb3
          have HB3 := Lib.hid (((Below.refl _ _).alloc (Nat.le_refl _) _).trans (hb3.mono (by simp)) : Below wr.heap.size wr w3)
          have hz3 : wr.heap.size < w3.heap.size := by have := hb3.size; simp at this; omega
          have hz3' : wo.heap.size < w3.heap.size := by omega
          clear hb3
          cases hsa : syncsB a.f0.f1
          · have HSY := Lib.hid (show (!syncsB a.f0.f1 || !syncsB b.f0.f1) = true by simp [hsa])
            clear hsa
            by_cases hT : a.f0.f0 = b.f0.f0
            · have hTb : (a.f0.f0 != b.f0.f0) = false := by simp [hT]
              have HX := Lib.hid (show racyAt l out i k = false by unfold racyAt; rw [HA.out, HB.out, HIK.out, HKI.out]; simp [hT]); clear hT
              go_wp2
              go_roundw
              case rel => exact ⟨k + 1, by go_num, by omega, by rw [range_any, HN.out, HX.out]; rfl, HBK.out.trans (HB3.out.mono HBK.out.size), HBXA.out.below HB3.out, Nat.lt_of_lt_of_le hsz HB3.out.size⟩
              case measure => simp [intOf]; omega
            · have hTb : (a.f0.f0 != b.f0.f0) = true := by simp [hT]
              by_cases hAt : a.f0.f1.f1 = b.f0.f1.f1
              · have hAb : (a.f0.f1.f1 == b.f0.f1.f1) = true := by simp [hAt]
                have HT := Lib.hid hT; have HAT := Lib.hid hAt; clear hT hAt
                go_wp2_with fail
                refine (writes_any a.f0.f1 _).mono ?_; rintro e w5 ⟨rfl, hb5⟩; obtain ⟨hc5, hf5⟩ := bcell hb5
                have HB5 := Lib.hid (HB3.out.trans (hb5.mono HB3.out.size) : Below wr.heap.size wr w5)
                have hz5 : wr.heap.size < w5.heap.size := Nat.lt_of_lt_of_le hz3 hb5.size
                have hz5' : wo.heap.size < w5.heap.size := by omega
                clear hb5
                cases hwa : writesB a.f0.f1
                · go_wp2_with fail
                  refine (writes_any b.f0.f1 _).mono ?_; rintro e w6 ⟨rfl, hb6⟩; obtain ⟨hc6, hf6⟩ := bcell hb6
                  have HB6 := Lib.hid (HB5.out.trans (hb6.mono HB5.out.size) : Below wr.heap.size wr w6)
                  clear hb6
                  cases hwb : writesB b.f0.f1
                  · have HX := Lib.hid (show racyAt l out i k = false by unfold racyAt; rw [HA.out, HB.out, HIK.out, HKI.out]; simp [hwa, hwb])
                    go_wp2
                    go_roundw
                    case rel => exact ⟨k + 1, by go_num, by omega, by rw [range_any, HN.out, HX.out]; rfl, HBK.out.trans (HB6.out.mono HBK.out.size), HBXA.out.below HB6.out, Nat.lt_of_lt_of_le hsz HB6.out.size⟩
                    case measure => simp [intOf]; omega
                  · have HW9 := HB6
                    have HPL := Lib.hid (show racyAt l out i k = (!hik && !hki) by unfold racyAt; rw [HA.out, HB.out, HIK.out, HKI.out]; rw [HSY.out, show (a.f0.f0 == b.f0.f0) = false from by simp [HT.out]]; simp [HAT.out, hwa, hwb])
                    have c1 := HG1.out _ (HBG.out.trans (HB6.out.mono HBG.out.size))
                    have c2 := HG2.out _ (HBG.out.trans (HB6.out.mono HBG.out.size)) k hik HRIK.out
                    have c3 := HG3.out _ (HBG.out.trans (HB6.out.mono HBG.out.size))
                    have c4 := HG4.out _ (HBG.out.trans (HB6.out.mono HBG.out.size)) i hki HRKI.out
                    clear hc1 hc5 hc6 hwa hwb
                    cases hik with
                    | true =>
                      go_wp2
                      go_roundw
                      case rel => exact ⟨k + 1, by go_num, by omega, by rw [range_any, HN.out, HPL.out]; rfl, HBK.out.trans (HW9.out.mono HBK.out.size), HBXA.out.below HW9.out, Nat.lt_of_lt_of_le hsz HW9.out.size⟩
                      case measure => simp [intOf]; omega
                    | false =>
                      cases hki with
                      | true =>
                        go_wp2
                        go_roundw
                        case rel => exact ⟨k + 1, by go_num, by omega, by rw [range_any, HN.out, HPL.out]; rfl, HBK.out.trans (HW9.out.mono HBK.out.size), HBXA.out.below HW9.out, Nat.lt_of_lt_of_le hsz HW9.out.size⟩
                        case measure => simp [intOf]; omega
                      | false =>
                        go_wp2
                        go_ret
                        exact ⟨ret_bool (racyB_true hlt hlt2 HPL.out).symm, (HBB.out.trans (HBK.out.mono HBB.out.size)).trans (HW9.out.mono (Nat.le_trans HBB.out.size HBK.out.size))⟩
                · have HW9 := HB5
                  have HPL := Lib.hid (show racyAt l out i k = (!hik && !hki) by unfold racyAt; rw [HA.out, HB.out, HIK.out, HKI.out]; rw [HSY.out, show (a.f0.f0 == b.f0.f0) = false from by simp [HT.out]]; simp [HAT.out, hwa])
                  have c1 := HG1.out _ (HBG.out.trans (HB5.out.mono HBG.out.size))
                  have c2 := HG2.out _ (HBG.out.trans (HB5.out.mono HBG.out.size)) k hik HRIK.out
                  have c3 := HG3.out _ (HBG.out.trans (HB5.out.mono HBG.out.size))
                  have c4 := HG4.out _ (HBG.out.trans (HB5.out.mono HBG.out.size)) i hki HRKI.out
                  clear hc1 hc5 hwa
                  cases hik with
                  | true =>
                    go_wp2
                    go_roundw
                    case rel => exact ⟨k + 1, by go_num, by omega, by rw [range_any, HN.out, HPL.out]; rfl, HBK.out.trans (HW9.out.mono HBK.out.size), HBXA.out.below HW9.out, Nat.lt_of_lt_of_le hsz HW9.out.size⟩
                    case measure => simp [intOf]; omega
                  | false =>
                    cases hki with
                    | true =>
                      go_wp2
                      go_roundw
                      case rel => exact ⟨k + 1, by go_num, by omega, by rw [range_any, HN.out, HPL.out]; rfl, HBK.out.trans (HW9.out.mono HBK.out.size), HBXA.out.below HW9.out, Nat.lt_of_lt_of_le hsz HW9.out.size⟩
                      case measure => simp [intOf]; omega
                    | false =>
                      go_wp2
                      go_ret
                      exact ⟨ret_bool (racyB_true hlt hlt2 HPL.out).symm, (HBB.out.trans (HBK.out.mono HBB.out.size)).trans (HW9.out.mono (Nat.le_trans HBB.out.size HBK.out.size))⟩
              · have hAb : (a.f0.f1.f1 == b.f0.f1.f1) = false := by simp [hAt]
                have HX := Lib.hid (show racyAt l out i k = false by unfold racyAt; rw [HA.out, HB.out, HIK.out, HKI.out]; simp [hAt]); clear hT hAt
                go_wp2
                go_roundw
                case rel => exact ⟨k + 1, by go_num, by omega, by rw [range_any, HN.out, HX.out]; rfl, HBK.out.trans (HB3.out.mono HBK.out.size), HBXA.out.below HB3.out, Nat.lt_of_lt_of_le hsz HB3.out.size⟩
                case measure => simp [intOf]; omega
          · go_wp2_with fail
            refine (syncs_any b.f0.f1 _).mono ?_; rintro e w4 ⟨rfl, hb4⟩; obtain ⟨hc4, hf4⟩ := bcell hb4
            have HB4 := Lib.hid (HB3.out.trans (hb4.mono HB3.out.size) : Below wr.heap.size wr w4)
            have hz4 : wr.heap.size < w4.heap.size := by have := hb4.size; omega
            have hz4' : wo.heap.size < w4.heap.size := by omega
            clear hb4
            cases hsb : syncsB b.f0.f1
            · have HSY := Lib.hid (show (!syncsB a.f0.f1 || !syncsB b.f0.f1) = true by simp [hsb])
              clear hsb hsa
              by_cases hT : a.f0.f0 = b.f0.f0
              · have hTb : (a.f0.f0 != b.f0.f0) = false := by simp [hT]
                have HX := Lib.hid (show racyAt l out i k = false by unfold racyAt; rw [HA.out, HB.out, HIK.out, HKI.out]; simp [hT]); clear hT
                go_wp2
                go_roundw
                case rel => exact ⟨k + 1, by go_num, by omega, by rw [range_any, HN.out, HX.out]; rfl, HBK.out.trans (HB4.out.mono HBK.out.size), HBXA.out.below HB4.out, Nat.lt_of_lt_of_le hsz HB4.out.size⟩
                case measure => simp [intOf]; omega
              · have hTb : (a.f0.f0 != b.f0.f0) = true := by simp [hT]
                by_cases hAt : a.f0.f1.f1 = b.f0.f1.f1
                · have hAb : (a.f0.f1.f1 == b.f0.f1.f1) = true := by simp [hAt]
                  have HT := Lib.hid hT; have HAT := Lib.hid hAt; clear hT hAt
                  go_wp2_with fail
                  refine (writes_any a.f0.f1 _).mono ?_; rintro e w5 ⟨rfl, hb5⟩; obtain ⟨hc5, hf5⟩ := bcell hb5
                  have HB5 := Lib.hid (HB4.out.trans (hb5.mono HB4.out.size) : Below wr.heap.size wr w5)
                  have hz5 : wr.heap.size < w5.heap.size := Nat.lt_of_lt_of_le hz4 hb5.size
                  have hz5' : wo.heap.size < w5.heap.size := by omega
                  clear hb5
                  cases hwa : writesB a.f0.f1
                  · go_wp2_with fail
                    refine (writes_any b.f0.f1 _).mono ?_; rintro e w6 ⟨rfl, hb6⟩; obtain ⟨hc6, hf6⟩ := bcell hb6
                    have HB6 := Lib.hid (HB5.out.trans (hb6.mono HB5.out.size) : Below wr.heap.size wr w6)
                    clear hb6
                    cases hwb : writesB b.f0.f1
                    · have HX := Lib.hid (show racyAt l out i k = false by unfold racyAt; rw [HA.out, HB.out, HIK.out, HKI.out]; simp [hwa, hwb])
                      go_wp2
                      go_roundw
                      case rel => exact ⟨k + 1, by go_num, by omega, by rw [range_any, HN.out, HX.out]; rfl, HBK.out.trans (HB6.out.mono HBK.out.size), HBXA.out.below HB6.out, Nat.lt_of_lt_of_le hsz HB6.out.size⟩
                      case measure => simp [intOf]; omega
                    · have HW9 := HB6
                      have HPL := Lib.hid (show racyAt l out i k = (!hik && !hki) by unfold racyAt; rw [HA.out, HB.out, HIK.out, HKI.out]; rw [HSY.out, show (a.f0.f0 == b.f0.f0) = false from by simp [HT.out]]; simp [HAT.out, hwa, hwb])
                      have c1 := HG1.out _ (HBG.out.trans (HB6.out.mono HBG.out.size))
                      have c2 := HG2.out _ (HBG.out.trans (HB6.out.mono HBG.out.size)) k hik HRIK.out
                      have c3 := HG3.out _ (HBG.out.trans (HB6.out.mono HBG.out.size))
                      have c4 := HG4.out _ (HBG.out.trans (HB6.out.mono HBG.out.size)) i hki HRKI.out
                      clear hc1 hc5 hc6 hwa hwb
                      cases hik with
                      | true =>
                        go_wp2
                        go_roundw
                        case rel => exact ⟨k + 1, by go_num, by omega, by rw [range_any, HN.out, HPL.out]; rfl, HBK.out.trans (HW9.out.mono HBK.out.size), HBXA.out.below HW9.out, Nat.lt_of_lt_of_le hsz HW9.out.size⟩
                        case measure => simp [intOf]; omega
                      | false =>
                        cases hki with
                        | true =>
                          go_wp2
                          go_roundw
                          case rel => exact ⟨k + 1, by go_num, by omega, by rw [range_any, HN.out, HPL.out]; rfl, HBK.out.trans (HW9.out.mono HBK.out.size), HBXA.out.below HW9.out, Nat.lt_of_lt_of_le hsz HW9.out.size⟩
                          case measure => simp [intOf]; omega
                        | false =>
                          go_wp2
                          go_ret
                          exact ⟨ret_bool (racyB_true hlt hlt2 HPL.out).symm, (HBB.out.trans (HBK.out.mono HBB.out.size)).trans (HW9.out.mono (Nat.le_trans HBB.out.size HBK.out.size))⟩
                  · have HW9 := HB5
                    have HPL := Lib.hid (show racyAt l out i k = (!hik && !hki) by unfold racyAt; rw [HA.out, HB.out, HIK.out, HKI.out]; rw [HSY.out, show (a.f0.f0 == b.f0.f0) = false from by simp [HT.out]]; simp [HAT.out, hwa])
                    have c1 := HG1.out _ (HBG.out.trans (HB5.out.mono HBG.out.size))
                    have c2 := HG2.out _ (HBG.out.trans (HB5.out.mono HBG.out.size)) k hik HRIK.out
                    have c3 := HG3.out _ (HBG.out.trans (HB5.out.mono HBG.out.size))
                    have c4 := HG4.out _ (HBG.out.trans (HB5.out.mono HBG.out.size)) i hki HRKI.out
                    clear hc1 hc5 hwa
                    cases hik with
                    | true =>
                      go_wp2
                      go_roundw
                      case rel => exact ⟨k + 1, by go_num, by omega, by rw [range_any, HN.out, HPL.out]; rfl, HBK.out.trans (HW9.out.mono HBK.out.size), HBXA.out.below HW9.out, Nat.lt_of_lt_of_le hsz HW9.out.size⟩
                      case measure => simp [intOf]; omega
                    | false =>
                      cases hki with
                      | true =>
                        go_wp2
                        go_roundw
                        case rel => exact ⟨k + 1, by go_num, by omega, by rw [range_any, HN.out, HPL.out]; rfl, HBK.out.trans (HW9.out.mono HBK.out.size), HBXA.out.below HW9.out, Nat.lt_of_lt_of_le hsz HW9.out.size⟩
                        case measure => simp [intOf]; omega
                      | false =>
                        go_wp2
                        go_ret
                        exact ⟨ret_bool (racyB_true hlt hlt2 HPL.out).symm, (HBB.out.trans (HBK.out.mono HBB.out.size)).trans (HW9.out.mono (Nat.le_trans HBB.out.size HBK.out.size))⟩
                · have hAb : (a.f0.f1.f1 == b.f0.f1.f1) = false := by simp [hAt]
                  have HX := Lib.hid (show racyAt l out i k = false by unfold racyAt; rw [HA.out, HB.out, HIK.out, HKI.out]; simp [hAt]); clear hT hAt
                  go_wp2
                  go_roundw
                  case rel => exact ⟨k + 1, by go_num, by omega, by rw [range_any, HN.out, HX.out]; rfl, HBK.out.trans (HB4.out.mono HBK.out.size), HBXA.out.below HB4.out, Nat.lt_of_lt_of_le hsz HB4.out.size⟩
                  case measure => simp [intOf]; omega
            · have HX := Lib.hid (show racyAt l out i k = false by unfold racyAt; rw [HA.out, HB.out, HIK.out, HKI.out]; simp [hsa, hsb])
              go_wp2
              go_roundw
              case rel => exact ⟨k + 1, by go_num, by omega, by rw [range_any, HN.out, HX.out]; rfl, HBK.out.trans (HB4.out.mono HBK.out.size), HBXA.out.below HB4.out, Nat.lt_of_lt_of_le hsz HB4.out.size⟩
              case measure => simp [intOf]; omega
        · obtain rfl : k = i := by omega
          go_wp2
          go_roundw
          case rel => exact ⟨k + 1, by go_num, by omega, by rw [range_any, HNO.out, HN.out]; rfl, HBW.out.trans (HBK.out.mono HBW.out.size)⟩
          case measure => simp [intOf]; omega
    · obtain rfl : i = l.length := by omega
      go_wp2
      go_ret
      exact ⟨ret_bool (by rw [racyB, HNO.out]), HBB.out⟩
end Go.Proofs.Ytfeempgoejnfdaa.Ord
