/- The reference's Racy: what it computes. At most a million events. -/
import Derived.Test.YtfeempgoejnfdaaH5
import Derived.Test.YtfeempgoejnfdaaO9
namespace Go.Proofs.Ytfeempgoejnfdaa.Ord
open Go.RowKit Go.Proofs.YtfeempgoejnfdaaW.PrintWords Go.Proofs.YtfeempgoejnfdaaW.PrintLast Go.Proofs.YtfeempgoejnfdaaW.PrintMore
set_option linter.unusedVariables false
set_option linter.unusedSimpArgs false
def racyR (l : List S76) (out : List (List Bool)) (i k : Nat) : Bool :=
  (i != k) && !((rd_T76 l i).f0.f0 == (rd_T76 l k).f0.f0) && ((rd_T76 l i).f0.f1.f1 == (rd_T76 l k).f0.f1.f1) && (writesB (rd_T76 l i).f0.f1 || writesB (rd_T76 l k).f0.f1) && !(syncsB (rd_T76 l i).f0.f1 && syncsB (rd_T76 l k).f0.f1) && !((out.getD i []).getD k false) && !((out.getD k []).getD i false)
def racyRB (l : List S76) (out : List (List Bool)) : Bool := (List.range l.length).any fun i => (List.range l.length).any fun k => racyR l out i k
theorem racyRB_true {l : List S76} {out : List (List Bool)} {i k : Nat} (hi : i < l.length) (hk : k < l.length) (h : racyR l out i k = true) : racyRB l out = true := by
  simp only [racyRB, List.any_eq_true, List.mem_range]
  exact ⟨i, hi, k, hk, h⟩
theorem Mat.grid {B : Nat} {w : World} {g n : Nat} {bs : List Nat} {rows : List (List Bool)} (h : Mat B w g n bs rows) : Grid (fun W => Below w.heap.size w W) g n rows := by
  refine ⟨bs.map (hdr n), fun W hW => Blk.below h.outer hW h.outer.lt, fun j r hj => ?_⟩
  have hj' : j < bs.length := by rw [h.len]; exact (List.getElem?_eq_some_iff.1 hj).1
  have hb : bs[j]? = some bs[j] := List.getElem?_eq_getElem hj'
  obtain ⟨h1, h2⟩ := h.row j _ r hb hj
  exact ⟨h2, bs[j], by simp [hb], fun W hW => Blk.below h1 hW h1.lt⟩
set_option maxRecDepth 100000 in
set_option maxHeartbeats 4000000 in
theorem refRacy_any (run : List (List S68)) (A : Option Addr) (c : Nat) (w : World) (hrun : krun.C w A run.length run) (hT : (run.map List.length).sum ≤ 1000000) (hrl : run.length ≤ 1000000) :
    Calls Try.prog 23 #[.slice A run.length c] w (Gives (racyRB (nodesN allB run) (aheadC (nodesN allB run))) w) := by
  have hn : Calls Try.prog 56 #[.slice A run.length c, .bool false] w (RefNodesGives (nodesN allB run) w) := refNodes_any run false A c w hrun hT hrl
  have hlen : (nodesN allB run).length ≤ 1000000 := Nat.le_trans (nodesN_len _ _) hT
  have HN0 := Lib.hid hn; clear hn hrun
  generalize nodesN allB run = l at *
  have HO := Lib.hid (aheadC_sq l)
  go_enter Try.func23, Try.ntmps23
  go_wp2_with fail
  refine HN0.out.mono ?_
  rintro e w1 ⟨v, rfl, hR, hB⟩
  obtain ⟨A1, c1, rfl, hlc, hC⟩ := Kd.R_reads hR
  have HC := Lib.hid hC; have HB1 := Lib.hid hB; clear hC hB hR HN0
  go_wp2_with fail
  refine (ahead_any l A1 c1 _ hlen HC.out).mono ?_
  rintro e w2 ⟨g, bs, rfl, hB2, hM⟩
  have HBB2 := Lib.hid (HB1.out.trans (hB2.mono HB1.out.size) : Below w.heap.size w w2)
  have HCC := Lib.hid (Kd.C_below HC.out hB2)
  have HGG := Lib.hid hM.grid
  clear hB2 hM HC HB1
  generalize aheadC l = out at *
  go_wp2
  go_loopw [15] (fun v wr => ∃ i : Nat, v = .int .i64 i ∧ i ≤ l.length ∧ ((List.range i).any fun i => (List.range l.length).any fun k => racyR l out i k) = false ∧ Below w2.heap.size w2 wr) (fun v _ => l.length - (intOf v).toNat)
  case atStart => exact ⟨0, rfl, by omega, rfl, Below.refl _ _⟩
  case round =>
    obtain ⟨i, rfl, hi, hno, hbw⟩ := hrel
    obtain ⟨wo, rfl⟩ : ∃ wo : World, wo = wr := ⟨_, rfl⟩
    have HNO := Lib.hid hno; have HBW := Lib.hid hbw; clear hno hbw
    have HBB := Lib.hid (HBB2.out.trans (HBW.out.mono HBB2.out.size) : Below w.heap.size w wo)
    by_cases hlt : i < l.length
    · obtain ⟨ad, rfl, g0, g1, g2, g3, g4, g5, g6, g7, g8, g9⟩ := at_T76 (Kd.C_below HCC.out HBW.out) (i : Int) (by omega) (by omega)
      rw [Int.toNat_natCast] at *
      generalize hae : rd_T76 l (i : Int) = a at *
      have HA := Lib.hid hae; clear hae
      go_wp2
      clear g0 g1 g2 g3 g4 g5 g6 g7 g8 g9
      go_loopw [22] (fun v wr => ∃ k : Nat, v = .int .i64 k ∧ k ≤ l.length ∧ ((List.range k).any fun k => racyR l out i k) = false ∧ Below wo.heap.size wo wr ∧ Bx wr wo.heap.size a) (fun v _ => l.length - (intOf v).toNat)
      case atStart => exact ⟨0, rfl, by omega, rfl, (Below.refl _ _).alloc (Nat.le_refl _) _, Blk.new wo (c76 a) 76⟩
      case round =>
        obtain ⟨k, rfl, hk, hno, hbw, hbx⟩ := hrel
        have HN := Lib.hid hno; have HBK := Lib.hid hbw; have HBXA := Lib.hid hbx; clear hno hbw
        by_cases hlt2 : k < l.length
        · obtain ⟨ad', ead, g0, g1, g2, g3, g4, g5, g6, g7, g8, g9⟩ := at_T76 (Kd.C_below HCC.out (HBW.out.trans (HBK.out.mono HBW.out.size))) (k : Int) (by omega) (by omega)
          obtain rfl : ad = ad' := by simpa using ead
          rw [Int.toNat_natCast] at *
          clear ead
          generalize hbe : rd_T76 l (k : Int) = b at *
          have HB := Lib.hid hbe; clear hbe
          obtain ⟨ri, hri⟩ : ∃ x, out[i]? = some x := ⟨_, List.getElem?_eq_getElem (by have := HO.out.1; omega)⟩
          obtain ⟨rk, hrk⟩ : ∃ x, out[k]? = some x := ⟨_, List.getElem?_eq_getElem (by have := HO.out.1; omega)⟩
          obtain ⟨hik, hhik⟩ : ∃ x, ri[k]? = some x := ⟨_, List.getElem?_eq_getElem (by have := HO.out.2 ri (List.mem_of_getElem? hri); omega)⟩
          obtain ⟨hki, hhki⟩ : ∃ x, rk[i]? = some x := ⟨_, List.getElem?_eq_getElem (by have := HO.out.2 rk (List.mem_of_getElem? hrk); omega)⟩
          obtain ⟨bi, q1, q2⟩ := HGG.out.row i ri hri
          obtain ⟨bk, q3, q4⟩ := HGG.out.row k rk hrk
          have HG1 := Lib.hid q1; have HG2 := Lib.hid q2; have HG3 := Lib.hid q3; have HG4 := Lib.hid q4; have HRIK := Lib.hid hhik; have HRKI := Lib.hid hhki
          have HIK := Lib.hid (show (out.getD i []).getD k false = hik by simp [List.getD_eq_getElem?_getD, hri, hhik])
          have HKI := Lib.hid (show (out.getD k []).getD i false = hki by simp [List.getD_eq_getElem?_getD, hrk, hhki])
          have HBG := Lib.hid (HBW.out.trans (HBK.out.mono HBW.out.size) : Below w2.heap.size w2 wr)
          clear q1 q2 q3 q4 hhik hhki hri hrk
          obtain ⟨a0, a1, a2, a3, a4, a5, a6, a7, a8, a9⟩ := bx_cells hbx
          have hbxl := hbx.lt
          clear hbx
          have hsz' : wo.heap.size < wr.heap.size + 1 := by omega
          by_cases hek : i = k
          · have hgd : ((i : Int) != (k : Int)) = false := by simp [hek]
            have hgd' : ((i : Int) == (k : Int)) = true := by simp [hek]
            have HX := Lib.hid (show racyR l out i k = false by unfold racyR; rw [HA.out, HB.out, HIK.out, HKI.out]; simp [hek])
            go_wp2
            go_roundw
            case rel => exact ⟨k + 1, by go_num, by omega, by rw [range_any, HN.out, HX.out]; rfl, HBK.out.trans (((Below.refl _ _).alloc (Nat.le_refl _) _ : Below wr.heap.size wr _).mono HBK.out.size), Blk.below HBXA.out ((Below.refl _ _).alloc (Nat.le_refl _) _ : Below wr.heap.size wr _) HBXA.out.lt⟩
            case measure => simp [intOf]; omega
          · have hgd : ((i : Int) != (k : Int)) = true := by simp; omega
            have hgd' : ((i : Int) == (k : Int)) = false := by simp; omega
            have HNE := Lib.hid (show (i != k) = true by simpa using hek); clear hek
            cases hT : (a.f0.f0 == b.f0.f0)
            · have hTb : (a.f0.f0 != b.f0.f0) = true := by rw [bne, hT]; rfl
              cases hAt : (a.f0.f1.f1 == b.f0.f1.f1)
              · skip
                have HX := Lib.hid (show racyR l out i k = false by unfold racyR; rw [HA.out, HB.out, HIK.out, HKI.out]; simp [hAt])
                go_wp2
                go_roundw
                case rel => exact ⟨k + 1, by go_num, by omega, by rw [range_any, HN.out, HX.out]; rfl, HBK.out.trans (((Below.refl _ _).alloc (Nat.le_refl _) _ : Below wr.heap.size wr _).mono HBK.out.size), Blk.below HBXA.out ((Below.refl _ _).alloc (Nat.le_refl _) _ : Below wr.heap.size wr _) HBXA.out.lt⟩
                case measure => simp [intOf]; omega
              · have HTT := Lib.hid hT; have HAT := Lib.hid hAt
                go_wp2_with fail
                refine (refWrites_any a _).mono ?_; rintro e w5 ⟨rfl, hb9⟩; obtain ⟨hcw5, hfw5⟩ := bcell hb9
                have HBw5 := Lib.hid (((Below.refl _ _).alloc (Nat.le_refl _) _).trans (hb9.mono (by simp)) : Below wr.heap.size wr w5)
                have hzw5 : wr.heap.size < w5.heap.size := by have h9 := hb9.size; simp at h9; omega
                have hyw5 : wo.heap.size < w5.heap.size := by omega
                clear hb9
                cases hwa : writesB a.f0.f1
                · go_wp2_with fail
                  refine (refWrites_any b _).mono ?_; rintro e w6 ⟨rfl, hb9⟩; obtain ⟨hcw6, hfw6⟩ := bcell hb9
                  have HBw6 := Lib.hid (HBw5.out.trans (hb9.mono HBw5.out.size) : Below wr.heap.size wr w6)
                  have hzw6 : wr.heap.size < w6.heap.size := by have h9 := hb9.size; have h8 := hzw5; omega
                  have hyw6 : wo.heap.size < w6.heap.size := by omega
                  clear hb9
                  cases hwb : writesB b.f0.f1
                  · have HX := Lib.hid (show racyR l out i k = false by unfold racyR; rw [HA.out, HB.out, HIK.out, HKI.out]; simp [hwa, hwb])
                    go_wp2
                    go_roundw
                    case rel => exact ⟨k + 1, by go_num, by omega, by rw [range_any, HN.out, HX.out]; rfl, HBK.out.trans (HBw6.out.mono HBK.out.size), Blk.below HBXA.out HBw6.out HBXA.out.lt⟩
                    case measure => simp [intOf]; omega
                  · go_wp2_with fail
                    refine (refSynced_any a _).mono ?_; rintro e w7 ⟨rfl, hb9⟩; obtain ⟨hcw7, hfw7⟩ := bcell hb9
                    have HBw7 := Lib.hid (HBw6.out.trans (hb9.mono HBw6.out.size) : Below wr.heap.size wr w7)
                    have hzw7 : wr.heap.size < w7.heap.size := by have h9 := hb9.size; have h8 := hzw6; omega
                    have hyw7 : wo.heap.size < w7.heap.size := by omega
                    clear hb9
                    cases hsa : syncsB a.f0.f1
                    · have HPL := Lib.hid (show racyR l out i k = (!hik && !hki) by unfold racyR; rw [HA.out, HB.out, HIK.out, HKI.out, HNE.out, HTT.out, HAT.out]; simp [hwa, hwb, hsa])
                      have c1 := HG1.out _ (HBG.out.trans (HBw7.out.mono HBG.out.size))
                      have c2 := HG2.out _ (HBG.out.trans (HBw7.out.mono HBG.out.size)) k hik HRIK.out
                      have c3 := HG3.out _ (HBG.out.trans (HBw7.out.mono HBG.out.size))
                      have c4 := HG4.out _ (HBG.out.trans (HBw7.out.mono HBG.out.size)) i hki HRKI.out
                      clear hcw5 hcw6 hcw7
                      cases hik with
                      | true =>
                        go_wp2
                        go_roundw
                        case rel => exact ⟨k + 1, by go_num, by omega, by rw [range_any, HN.out, HPL.out]; rfl, HBK.out.trans (HBw7.out.mono HBK.out.size), Blk.below HBXA.out HBw7.out HBXA.out.lt⟩
                        case measure => simp [intOf]; omega
                      | false =>
                        cases hki with
                        | true =>
                          go_wp2
                          go_roundw
                          case rel => exact ⟨k + 1, by go_num, by omega, by rw [range_any, HN.out, HPL.out]; rfl, HBK.out.trans (HBw7.out.mono HBK.out.size), Blk.below HBXA.out HBw7.out HBXA.out.lt⟩
                          case measure => simp [intOf]; omega
                        | false =>
                          go_wp2
                          go_ret
                          exact ⟨ret_bool (racyRB_true hlt hlt2 HPL.out).symm, (HBB.out.trans (HBK.out.mono HBB.out.size)).trans (HBw7.out.mono (Nat.le_trans HBB.out.size HBK.out.size))⟩
                    · go_wp2_with fail
                      refine (refSynced_any b _).mono ?_; rintro e w8 ⟨rfl, hb9⟩; obtain ⟨hcw8, hfw8⟩ := bcell hb9
                      have HBw8 := Lib.hid (HBw7.out.trans (hb9.mono HBw7.out.size) : Below wr.heap.size wr w8)
                      have hzw8 : wr.heap.size < w8.heap.size := by have h9 := hb9.size; have h8 := hzw7; omega
                      have hyw8 : wo.heap.size < w8.heap.size := by omega
                      clear hb9
                      cases hsb : syncsB b.f0.f1
                      · have HPL := Lib.hid (show racyR l out i k = (!hik && !hki) by unfold racyR; rw [HA.out, HB.out, HIK.out, HKI.out, HNE.out, HTT.out, HAT.out]; simp [hwa, hwb, hsa, hsb])
                        have c1 := HG1.out _ (HBG.out.trans (HBw8.out.mono HBG.out.size))
                        have c2 := HG2.out _ (HBG.out.trans (HBw8.out.mono HBG.out.size)) k hik HRIK.out
                        have c3 := HG3.out _ (HBG.out.trans (HBw8.out.mono HBG.out.size))
                        have c4 := HG4.out _ (HBG.out.trans (HBw8.out.mono HBG.out.size)) i hki HRKI.out
                        clear hcw5 hcw6 hcw7 hcw8
                        cases hik with
                        | true =>
                          go_wp2
                          go_roundw
                          case rel => exact ⟨k + 1, by go_num, by omega, by rw [range_any, HN.out, HPL.out]; rfl, HBK.out.trans (HBw8.out.mono HBK.out.size), Blk.below HBXA.out HBw8.out HBXA.out.lt⟩
                          case measure => simp [intOf]; omega
                        | false =>
                          cases hki with
                          | true =>
                            go_wp2
                            go_roundw
                            case rel => exact ⟨k + 1, by go_num, by omega, by rw [range_any, HN.out, HPL.out]; rfl, HBK.out.trans (HBw8.out.mono HBK.out.size), Blk.below HBXA.out HBw8.out HBXA.out.lt⟩
                            case measure => simp [intOf]; omega
                          | false =>
                            go_wp2
                            go_ret
                            exact ⟨ret_bool (racyRB_true hlt hlt2 HPL.out).symm, (HBB.out.trans (HBK.out.mono HBB.out.size)).trans (HBw8.out.mono (Nat.le_trans HBB.out.size HBK.out.size))⟩
                      · have HX := Lib.hid (show racyR l out i k = false by unfold racyR; rw [HA.out, HB.out, HIK.out, HKI.out]; simp [hsa, hsb])
                        go_wp2
                        go_roundw
                        case rel => exact ⟨k + 1, by go_num, by omega, by rw [range_any, HN.out, HX.out]; rfl, HBK.out.trans (HBw8.out.mono HBK.out.size), Blk.below HBXA.out HBw8.out HBXA.out.lt⟩
                        case measure => simp [intOf]; omega
                · go_wp2_with fail
                  refine (refSynced_any a _).mono ?_; rintro e w7 ⟨rfl, hb9⟩; obtain ⟨hcw7, hfw7⟩ := bcell hb9
                  have HBw7 := Lib.hid (HBw5.out.trans (hb9.mono HBw5.out.size) : Below wr.heap.size wr w7)
                  have hzw7 : wr.heap.size < w7.heap.size := by have h9 := hb9.size; have h8 := hzw5; omega
                  have hyw7 : wo.heap.size < w7.heap.size := by omega
                  clear hb9
                  cases hsa : syncsB a.f0.f1
                  · have HPL := Lib.hid (show racyR l out i k = (!hik && !hki) by unfold racyR; rw [HA.out, HB.out, HIK.out, HKI.out, HNE.out, HTT.out, HAT.out]; simp [hwa, hsa])
                    have c1 := HG1.out _ (HBG.out.trans (HBw7.out.mono HBG.out.size))
                    have c2 := HG2.out _ (HBG.out.trans (HBw7.out.mono HBG.out.size)) k hik HRIK.out
                    have c3 := HG3.out _ (HBG.out.trans (HBw7.out.mono HBG.out.size))
                    have c4 := HG4.out _ (HBG.out.trans (HBw7.out.mono HBG.out.size)) i hki HRKI.out
                    clear hcw5 hcw7
                    cases hik with
                    | true =>
                      go_wp2
                      go_roundw
                      case rel => exact ⟨k + 1, by go_num, by omega, by rw [range_any, HN.out, HPL.out]; rfl, HBK.out.trans (HBw7.out.mono HBK.out.size), Blk.below HBXA.out HBw7.out HBXA.out.lt⟩
                      case measure => simp [intOf]; omega
                    | false =>
                      cases hki with
                      | true =>
                        go_wp2
                        go_roundw
                        case rel => exact ⟨k + 1, by go_num, by omega, by rw [range_any, HN.out, HPL.out]; rfl, HBK.out.trans (HBw7.out.mono HBK.out.size), Blk.below HBXA.out HBw7.out HBXA.out.lt⟩
                        case measure => simp [intOf]; omega
                      | false =>
                        go_wp2
                        go_ret
                        exact ⟨ret_bool (racyRB_true hlt hlt2 HPL.out).symm, (HBB.out.trans (HBK.out.mono HBB.out.size)).trans (HBw7.out.mono (Nat.le_trans HBB.out.size HBK.out.size))⟩
                  · go_wp2_with fail
                    refine (refSynced_any b _).mono ?_; rintro e w8 ⟨rfl, hb9⟩; obtain ⟨hcw8, hfw8⟩ := bcell hb9
                    have HBw8 := Lib.hid (HBw7.out.trans (hb9.mono HBw7.out.size) : Below wr.heap.size wr w8)
                    have hzw8 : wr.heap.size < w8.heap.size := by have h9 := hb9.size; have h8 := hzw7; omega
                    have hyw8 : wo.heap.size < w8.heap.size := by omega
                    clear hb9
                    cases hsb : syncsB b.f0.f1
                    · have HPL := Lib.hid (show racyR l out i k = (!hik && !hki) by unfold racyR; rw [HA.out, HB.out, HIK.out, HKI.out, HNE.out, HTT.out, HAT.out]; simp [hwa, hsa, hsb])
                      have c1 := HG1.out _ (HBG.out.trans (HBw8.out.mono HBG.out.size))
                      have c2 := HG2.out _ (HBG.out.trans (HBw8.out.mono HBG.out.size)) k hik HRIK.out
                      have c3 := HG3.out _ (HBG.out.trans (HBw8.out.mono HBG.out.size))
                      have c4 := HG4.out _ (HBG.out.trans (HBw8.out.mono HBG.out.size)) i hki HRKI.out
                      clear hcw5 hcw7 hcw8
                      cases hik with
                      | true =>
                        go_wp2
                        go_roundw
                        case rel => exact ⟨k + 1, by go_num, by omega, by rw [range_any, HN.out, HPL.out]; rfl, HBK.out.trans (HBw8.out.mono HBK.out.size), Blk.below HBXA.out HBw8.out HBXA.out.lt⟩
                        case measure => simp [intOf]; omega
                      | false =>
                        cases hki with
                        | true =>
                          go_wp2
                          go_roundw
                          case rel => exact ⟨k + 1, by go_num, by omega, by rw [range_any, HN.out, HPL.out]; rfl, HBK.out.trans (HBw8.out.mono HBK.out.size), Blk.below HBXA.out HBw8.out HBXA.out.lt⟩
                          case measure => simp [intOf]; omega
                        | false =>
                          go_wp2
                          go_ret
                          exact ⟨ret_bool (racyRB_true hlt hlt2 HPL.out).symm, (HBB.out.trans (HBK.out.mono HBB.out.size)).trans (HBw8.out.mono (Nat.le_trans HBB.out.size HBK.out.size))⟩
                    · have HX := Lib.hid (show racyR l out i k = false by unfold racyR; rw [HA.out, HB.out, HIK.out, HKI.out]; simp [hsa, hsb])
                      go_wp2
                      go_roundw
                      case rel => exact ⟨k + 1, by go_num, by omega, by rw [range_any, HN.out, HX.out]; rfl, HBK.out.trans (HBw8.out.mono HBK.out.size), Blk.below HBXA.out HBw8.out HBXA.out.lt⟩
                      case measure => simp [intOf]; omega
            · have hTb : (a.f0.f0 != b.f0.f0) = false := by rw [bne, hT]; rfl
              have HX := Lib.hid (show racyR l out i k = false by unfold racyR; rw [HA.out, HB.out, HIK.out, HKI.out]; simp [hT])
              go_wp2
              go_roundw
              case rel => exact ⟨k + 1, by go_num, by omega, by rw [range_any, HN.out, HX.out]; rfl, HBK.out.trans (((Below.refl _ _).alloc (Nat.le_refl _) _ : Below wr.heap.size wr _).mono HBK.out.size), Blk.below HBXA.out ((Below.refl _ _).alloc (Nat.le_refl _) _ : Below wr.heap.size wr _) HBXA.out.lt⟩
              case measure => simp [intOf]; omega
        · obtain rfl : k = l.length := by omega
          go_wp2
          go_roundw
          case rel => exact ⟨i + 1, by go_num, by omega, by rw [range_any, HNO.out, HN.out]; rfl, HBW.out.trans (HBK.out.mono HBW.out.size)⟩
          case measure => simp [intOf]; omega
    · obtain rfl : i = l.length := by omega
      go_wp2
      go_ret
      exact ⟨ret_bool HNO.out.symm, HBB.out⟩
end Go.Proofs.Ytfeempgoejnfdaa.Ord
