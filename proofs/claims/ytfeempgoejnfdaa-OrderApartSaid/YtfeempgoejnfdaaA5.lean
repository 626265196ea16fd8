/- order's Apart: it answers apartR of the lock events' nodes. Ids of their own, none negative, at most a million events. -/
import Derived.Test.YtfeempgoejnfdaaA4
namespace Go.Proofs.Ytfeempgoejnfdaa.Ord
open Go.RowKit Go.Maps Go.Proofs.YtfeempgoejnfdaaW.PrintWords Go.Proofs.YtfeempgoejnfdaaW.PrintLast Go.Proofs.YtfeempgoejnfdaaW.PrintMore
set_option linter.unusedVariables false
set_option linter.unusedSimpArgs false
theorem ownsMap_block {H : Type} {P : Program} {k : TypeId} {R : Value → Option (DataW H × List MemPlace)} {w w' : World} {b n : Nat} {D : DataW H} (h : w.ownsMap P k R b n D) (hm : w'.heap[b]? = w.heap[b]?) : w'.ownsMap P k R b n D := by
  obtain ⟨es, clock, hb, r⟩ := h
  exact ⟨es, clock, hm.trans hb, r⟩
theorem map_apart {H : Type} {P : Program} {k : TypeId} {R : Value → Option (DataW H × List MemPlace)} {w : World} {b n : Nat} {D : DataW H} (h : w.ownsMap P k R b n D) {a : Addr} {u : Value} (ha : w.cell? a = some u) : a.block ≠ b := by
  obtain ⟨es, clock, hb, r⟩ := h
  intro e
  simp [World.cell?, e, hb] at ha
def ApartAt (L : List S76) (w w2 : World) (mb i : Nat) (wr : World) : Prop :=
  i ≤ L.length ∧ ((List.range i).all fun i => !badA (lastAt (L.take i) (atN (rd_T76 L i))) (rd_T76 L i)) = true ∧ Below w.heap.size w wr ∧ w2.heap.size ≤ wr.heap.size ∧ (∀ b, b < w2.heap.size → b ≠ mb → wr.heap[b]? = w2.heap[b]?) ∧ ∃ (n : Nat) (D : DataW Value), n ≤ i ∧ wr.ownsMap Try.prog 3 heldElem mb n D ∧ LastD D (L.take i)
theorem range_all (p : Nat → Bool) (k : Nat) : (List.range (k + 1)).all p = ((List.range k).all p && p k) := by rw [List.range_succ, List.all_append]; simp
theorem apartO_false {L : List S76} {i : Nat} (hi : i < L.length) (h : badA (lastAt (L.take i) (atN (rd_T76 L i))) (rd_T76 L i) = true) : apartO L = false := by
  rw [apartO, List.all_eq_false]
  exact ⟨i, List.mem_range.2 hi, by rw [h]; simp⟩
set_option maxRecDepth 100000 in
set_option maxHeartbeats 4000000 in
theorem orderApart_walk (run : List (List S68)) (A : Option Addr) (c : Nat) (w : World) (hrun : krun.C w A run.length run) (hT : (run.map List.length).sum ≤ 1000000) (hrl : run.length ≤ 1000000)
    (hid : ∀ x, x ∈ nodesN lockB run → 0 ≤ idN x ∧ idN x ≤ 9223372036854775807) (hone : (nodesN lockB run).Pairwise (fun x y => idN x ≠ idN y)) (hat : ∀ x, x ∈ nodesN lockB run → (Lit.int .i64 (atN x)).wf = true) :
    Calls Try.prog 38 #[.slice A run.length c] w (Gives (apartR (nodesN lockB run)) w) := by
  have hlen : (nodesN lockB run).length ≤ 1000000 := Nat.le_trans (nodesN_len _ _) hT
  have HB0 := Lib.hid ((Below.refl w.heap.size w).alloc (Nat.le_refl _) (.map #[] 0))
  have HN := Lib.hid (nodes_any run 87 lockB act87 A c _ (Kd.C_below hrun HB0.out) hT hrl)
  have HID := Lib.hid hid; have HONE := Lib.hid hone; have HAT := Lib.hid hat; clear hid hone hat hrun
  generalize nodesN lockB run = l at *
  have hmm := @run_makeMap Try.prog
  go_enter Try.func38, Try.ntmps38
  go_wp2_with fail
  refine HN.out.mono ?_
  rintro e w1 ⟨v, rfl, hR, hB⟩
  have hz : (w.alloc (.map #[] 0)).heap.size = w.heap.size + 1 := by simp
  have HB1 := Lib.hid hB; have HR := Lib.hid hR; clear hB hR HN
  have HM1 := Lib.hid (ownsMap_block (World.ownsMap_made (H := Value) w Try.prog 3 heldElem) (HB1.out.block w.heap.size (by rw [hz]; omega)))
  go_wp2_with fail
  refine (sort_any l HID.out HONE.out hlen _ w1 v HR.out).mono ?_
  rintro e w2 ⟨rfl, hB2, L, A2, c2, hperm, hpw, rfl, hC⟩
  have HM2 := Lib.hid (ownsMap_block HM1.out (hB2.block w.heap.size (by rw [hz]; omega)))
  have HB2 := Lib.hid (HB0.out.trans ((HB1.out.mono (by rw [hz]; omega)).trans (hB2.mono (by rw [hz]; omega))) : Below w.heap.size w w2)
  have HC := Lib.hid hC
  have HSAME := Lib.hid (apart_same hperm hpw)
  have HATL := Lib.hid (fun x (hx : x ∈ L) => HAT.out x (hperm.mem_iff.1 hx))
  have hLl : L.length ≤ 1000000 := by rw [hperm.length_eq]; exact hlen
  clear hB2 hC HM1 HR HB0 HB1 HID HONE HAT hz hperm hpw
  go_wp2
  go_loopw [16] (fun v wr => ∃ i : Nat, v = .int .i64 i ∧ ApartAt L w w2 w.heap.size i wr) (fun v _ => L.length - (intOf v).toNat)
  case atStart => exact ⟨0, rfl, by omega, rfl, HB2.out, Nat.le_refl _, fun b _ _ => rfl, 0, _, Nat.le_refl _, HM2.out, lastD_nil⟩
  case round =>
    obtain ⟨i, rfl, hi, hno, hbw, hsz, hfr, n, D, hn, hown, hld⟩ := hrel
    have HNO := Lib.hid hno; have HBW := Lib.hid hbw; have HFR := Lib.hid hfr; have HOWN := Lib.hid hown; have HLD := Lib.hid hld; clear hno hbw hfr hown hld
    by_cases hlt : i < L.length
    · obtain ⟨ad, rfl, g0, g1, g2, g3, g4, g5, g6, g7, g8, g9⟩ := at_T76 HC.out (i : Int) (by omega) (by omega)
      rw [Int.toNat_natCast] at *
      have hmv : ∀ {a : Addr} {u : Value}, w2.cell? a = some u → wr.cell? a = some u := fun {a u} h => by
        have h1 := map_apart HM2.out h
        have h2 := World.block_lt_of_cell? w2 _ h
        rw [← h]
        exact World.cell?_of_block (HFR.out _ h2 h1)
      replace g0 := hmv g0; replace g1 := hmv g1; replace g2 := hmv g2; replace g3 := hmv g3; replace g4 := hmv g4; replace g5 := hmv g5; replace g6 := hmv g6; replace g7 := hmv g7; replace g8 := hmv g8; replace g9 := hmv g9
      clear hmv
      have hmem : rd_T76 L i ∈ L := by rw [rd_get hlt]; exact List.getElem_mem hlt
      have HSN := Lib.hid (show L.take (i + 1) = L.take i ++ [rd_T76 L i] by rw [rd_get hlt]; exact List.take_succ_eq_append_getElem hlt)
      have HWF := Lib.hid (show (Lit.int .i64 (rd_T76 L i).f0.f1.f1).wf = true from HATL.out _ hmem)
      have HPUT := Lib.hid (lastD_put HLD.out HOWN.out.isMap (rd_T76 L i))
      have HBD := Lib.hid (show badA (lastAt (L.take i) (atN (rd_T76 L i))) (rd_T76 L i) = badA (lastAt (L.take i) (rd_T76 L i).f0.f1.f1) (rd_T76 L i) from rfl)
      have hnmax : n < maxLen := by unfold maxLen; omega
      clear hmem
      have HSTEP := Lib.hid (fun (h : (!badA (lastAt (L.take i) (atN (rd_T76 L i))) (rd_T76 L i)) = true) => (show ((List.range (i + 1)).all fun i => !badA (lastAt (L.take i) (atN (rd_T76 L i))) (rd_T76 L i)) = true by rw [range_all, HNO.out, h]; rfl))
      have HBX0 := Lib.hid (fun h => @apartO_false L i hlt h)
      generalize rd_T76 L (i : Int) = x at *
      have hs : (Instr.lookup 140 (.map (some w.heap.size)) (.int .i64 x.f0.f1.f1) true).run Try.prog (wr.alloc (.cells #[.int .i64 x.f0.f0, .int .i64 x.f0.f1.f0, .int .i64 x.f0.f1.f1, .int .i64 x.f0.f1.f2, .int .i64 x.f0.f1.f3, .bool x.f0.f1.f4, .bool x.f0.f1.f5, .int .i64 x.f0.f2, .int .i64 x.f0.f3, .int .i64 x.f1] 84)) = .ok (.tuple #[v68 (((lastAt (L.take i) x.f0.f1.f1).map (·.f0)).getD z68), .bool (lastAt (L.take i) x.f0.f1.f1).isSome]) (wr.alloc (.cells #[.int .i64 x.f0.f0, .int .i64 x.f0.f1.f0, .int .i64 x.f0.f1.f1, .int .i64 x.f0.f1.f2, .int .i64 x.f0.f1.f3, .bool x.f0.f1.f4, .bool x.f0.f1.f5, .int .i64 x.f0.f2, .int .i64 x.f0.f3, .int .i64 x.f1] 84)) := last_is (HOWN.out.alloc _) HLD.out x.f0.f1.f1 HWF.out
      have HOW9 := Lib.hid (fun o => (HOWN.out.alloc (.cells #[.int .i64 x.f0.f0, .int .i64 x.f0.f1.f0, .int .i64 x.f0.f1.f1, .int .i64 x.f0.f1.f2, .int .i64 x.f0.f1.f3, .bool x.f0.f1.f4, .bool x.f0.f1.f5, .int .i64 x.f0.f2, .int .i64 x.f0.f3, .int .i64 x.f1] 84)).alloc o)
      have HA0 := Lib.hid (fun o => ((Below.refl wr.heap.size wr).alloc (Nat.le_refl _) (.cells #[.int .i64 x.f0.f0, .int .i64 x.f0.f1.f0, .int .i64 x.f0.f1.f1, .int .i64 x.f0.f1.f2, .int .i64 x.f0.f1.f3, .bool x.f0.f1.f4, .bool x.f0.f1.f5, .int .i64 x.f0.f2, .int .i64 x.f0.f3, .int .i64 x.f1] 84)).alloc (by simp) o)
      cases hla : lastAt (L.take i) x.f0.f1.f1 with
      | none =>
        rw [hla] at hs HBD
        simp only [Option.map_none, Option.getD_none, Option.isSome_none] at hs
        have HOW9 := Lib.hid (HOW9.out (.cells #[.int .i64 z68.f0, .int .i64 z68.f1.f0, .int .i64 z68.f1.f1, .int .i64 z68.f1.f2, .int .i64 z68.f1.f3, .bool z68.f1.f4, .bool z68.f1.f5, .int .i64 z68.f2, .int .i64 z68.f3] 68))
        have HA := Lib.hid (HA0.out (.cells #[.int .i64 z68.f0, .int .i64 z68.f1.f0, .int .i64 z68.f1.f1, .int .i64 z68.f1.f2, .int .i64 z68.f1.f3, .bool z68.f1.f4, .bool z68.f1.f5, .int .i64 z68.f2, .int .i64 z68.f3] 68)); clear HA0
        cases hk : (x.f0.f1.f0 == 6)
        · have HBA := Lib.hid (show (!badA (lastAt (L.take i) (atN x)) x) = true by rw [HBD.out]; simp [badA, hk])
          go_wp2_with (at_mapUpdate; go_must (refine wpList_mapUpdate_own _ rfl _ _ _ 140 rfl 3 68 (int_keyed Try.underlying3) Try.underlying140 _ w.heap.size n D rfl HOW9.out hnmax _ _ _ rfl rfl (keyOf_int_mk Try.underlying3 HWF.out) _ [] rfl ?_); intro w9 hown8 hg9; have HOWN9 := Lib.hid hown8; have HG9 := Lib.hid hg9; clear hown8 hg9)
          go_roundw
          case rel =>
            refine ⟨i + 1, by go_num, by omega, HSTEP.out HBA.out, (HBW.out.trans (HA.out.mono HBW.out.size)).grown HG9.out (Nat.le_trans HBW.out.size HA.out.size) (fun k hk => by injection hk with hk; omega), Nat.le_trans hsz (Nat.le_trans HA.out.size HG9.out.size), fun b hb hne => ?_, n + 1, _, by omega, HOWN9.out, ?_⟩
            · rw [HG9.out.block b (Nat.lt_of_lt_of_le hb (Nat.le_trans hsz HA.out.size)) (by intro h; injection h with h; omega), HA.out.block b (by omega)]
              exact HFR.out b hb hne
            · rw [HSN.out]
              exact HPUT.out
          case measure => simp [intOf]; omega
        · have HBA := Lib.hid (show badA (lastAt (L.take i) (atN x)) x = true by rw [HBD.out]; simp [badA, hk])
          go_wp2
          go_ret
          refine ⟨ret_bool ?_, HBW.out.trans (HA.out.mono HBW.out.size)⟩
          rw [← HSAME.out]
          exact (HBX0.out HBA.out).symm
      | some q =>
        rw [hla] at hs HBD
        simp only [Option.map_some, Option.getD_some, Option.isSome_some] at hs
        have HQ := Lib.hid (show badA (some q) x = ((q.f0.f0 != x.f0.f0) && ((q.f0.f1.f2 != 0) || (x.f0.f1.f0 == 6))) from rfl)
        generalize q.f0 = y at *
        have HOW9 := Lib.hid (HOW9.out (.cells #[.int .i64 y.f0, .int .i64 y.f1.f0, .int .i64 y.f1.f1, .int .i64 y.f1.f2, .int .i64 y.f1.f3, .bool y.f1.f4, .bool y.f1.f5, .int .i64 y.f2, .int .i64 y.f3] 68))
        have HA := Lib.hid (HA0.out (.cells #[.int .i64 y.f0, .int .i64 y.f1.f0, .int .i64 y.f1.f1, .int .i64 y.f1.f2, .int .i64 y.f1.f3, .bool y.f1.f4, .bool y.f1.f5, .int .i64 y.f2, .int .i64 y.f3] 68)); clear HA0
        cases hv : (y.f1.f2 != 0) <;> cases ht : (y.f0 != x.f0.f0) <;> cases hk : (x.f0.f1.f0 == 6)
        case true.true.true =>
          have HBA := Lib.hid (show badA (lastAt (L.take i) (atN x)) x = true by rw [HBD.out, HQ.out, hv, ht]; rfl)
          go_wp2
          go_ret
          refine ⟨ret_bool ?_, HBW.out.trans (HA.out.mono HBW.out.size)⟩
          rw [← HSAME.out]
          exact (HBX0.out HBA.out).symm
        case true.true.false =>
          have HBA := Lib.hid (show badA (lastAt (L.take i) (atN x)) x = true by rw [HBD.out, HQ.out, hv, ht]; rfl)
          go_wp2
          go_ret
          refine ⟨ret_bool ?_, HBW.out.trans (HA.out.mono HBW.out.size)⟩
          rw [← HSAME.out]
          exact (HBX0.out HBA.out).symm
        case false.true.true =>
          have HBA := Lib.hid (show badA (lastAt (L.take i) (atN x)) x = true by rw [HBD.out, HQ.out, hv, ht, hk]; rfl)
          go_wp2
          go_ret
          refine ⟨ret_bool ?_, HBW.out.trans (HA.out.mono HBW.out.size)⟩
          rw [← HSAME.out]
          exact (HBX0.out HBA.out).symm
        all_goals
          have HBA := Lib.hid (show (!badA (lastAt (L.take i) (atN x)) x) = true by rw [HBD.out, HQ.out]; simp [hv, ht, hk])
          go_wp2_with (at_mapUpdate; go_must (refine wpList_mapUpdate_own _ rfl _ _ _ 140 rfl 3 68 (int_keyed Try.underlying3) Try.underlying140 _ w.heap.size n D rfl HOW9.out hnmax _ _ _ rfl rfl (keyOf_int_mk Try.underlying3 HWF.out) _ [] rfl ?_); intro w9 hown8 hg9; have HOWN9 := Lib.hid hown8; have HG9 := Lib.hid hg9; clear hown8 hg9)
          go_roundw
          case rel =>
            refine ⟨i + 1, by go_num, by omega, HSTEP.out HBA.out, (HBW.out.trans (HA.out.mono HBW.out.size)).grown HG9.out (Nat.le_trans HBW.out.size HA.out.size) (fun k hk => by injection hk with hk; omega), Nat.le_trans hsz (Nat.le_trans HA.out.size HG9.out.size), fun b hb hne => ?_, n + 1, _, by omega, HOWN9.out, ?_⟩
            · rw [HG9.out.block b (Nat.lt_of_lt_of_le hb (Nat.le_trans hsz HA.out.size)) (by intro h; injection h with h; omega), HA.out.block b (by omega)]
              exact HFR.out b hb hne
            · rw [HSN.out]
              exact HPUT.out
          case measure => simp [intOf]; omega
    · obtain rfl : i = L.length := by omega
      go_wp2
      go_ret
      exact ⟨ret_bool (by rw [← HSAME.out, apartO, HNO.out]), HBW.out⟩
end Go.Proofs.Ytfeempgoejnfdaa.Ord
