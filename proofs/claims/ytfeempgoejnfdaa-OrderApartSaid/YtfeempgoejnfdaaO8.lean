/- Run.Serial, Run.Coherent, Run.Synced, Run.happens: what they compute, given what the search comes to. At most a million events. -/
import Derived.Test.YtfeempgoejnfdaaO7
namespace Go.Proofs.Ytfeempgoejnfdaa.Ord
open Go.RowKit Go.Proofs.YtfeempgoejnfdaaW.PrintWords Go.Proofs.YtfeempgoejnfdaaW.PrintLast Go.Proofs.YtfeempgoejnfdaaW.PrintMore
set_option linter.unusedVariables false
set_option linter.unusedSimpArgs false
def relF : Nat → S76 → S76 → Bool
  | 50 => poAtB
  | 51 => poB
  | 52 => rfB
  | 53 => coB
  | 54 => frB
  | 94 => relB
  | _ => fun _ _ => false
theorem rel50 : RelAt 50 (relF 50) := ⟨enters_of Try.func50 (by kernel_rfl) rfl, poAt_any⟩
theorem rel51 : RelAt 51 (relF 51) := ⟨enters_of Try.func51 (by kernel_rfl) rfl, po_any⟩
theorem rel52 : RelAt 52 (relF 52) := ⟨enters_of Try.func52 (by kernel_rfl) rfl, rf_any⟩
theorem rel53 : RelAt 53 (relF 53) := ⟨enters_of Try.func53 (by kernel_rfl) rfl, co_any⟩
theorem rel54 : RelAt 54 (relF 54) := ⟨enters_of Try.func54 (by kernel_rfl) rfl, fr_any⟩
theorem rel94 : RelAt 94 (relF 94) := ⟨enters_of Try.func94 (by kernel_rfl) rfl, rel_any⟩
def allB (_ : S54) : Bool := true
theorem act48 : ActAt 48 allB := ⟨enters_of Try.func48 (by kernel_rfl) rfl, every_any⟩
theorem act60 : ActAt 60 syncsB := ⟨enters_of Try.func60 (by kernel_rfl) rfl, syncs_any⟩
theorem fn_lit (w : World) (fs : List Nat) (t : Nat) (h : fs.length ≤ 1000) : kfn.C (w.alloc (.cells (fs.map fnV).toArray t)) (some ⟨w.heap.size, 0, none⟩) fs.length fs := by
  refine ⟨rfl, by omega, fun _ => ⟨_, rfl, fun j p hj => ⟨[fnV p], rfl, rfl, fun i u hu => ?_⟩⟩⟩
  cases i with
  | zero =>
    have hu' : fnV p = u := by simpa using hu
    subst hu'
    have h1 : Blk (w.alloc (.cells (fs.map fnV).toArray t)) w.heap.size (fs.map fnV) t := Blk.new _ _ _
    have h2 := h1.cell (j := j) (v := fnV p) (by simp [hj])
    have h3 : (⟨w.heap.size, 0, none⟩ : Addr).add (j * kfn.sz + 0) = ⟨w.heap.size, j, none⟩ := by
      show (⟨w.heap.size, 0, none⟩ : Addr).add (j * 1 + 0) = _
      rw [Nat.mul_one, Nat.add_zero]; exact add_plain _ _
    rw [h3]; exact h2
  | succ i => simp at hu
def matrixOf (p : S54 → Bool) (fs : List Nat) (run : List (List S68)) : List (List Bool) := joinRows (nodesN p run) fs relF (nodesN p run).length
theorem joinRows_len (list : List S76) (fs : List Nat) (rel : Nat → S76 → S76 → Bool) (k : Nat) : (joinRows list fs rel k).length = k := by simp [joinRows]
theorem joinRows_sq (list : List S76) (fs : List Nat) (rel : Nat → S76 → S76 → Bool) (k : Nat) (r : List Bool) (h : r ∈ joinRows list fs rel k) : r.length = list.length := by
  simp only [joinRows, List.mem_map] at h
  obtain ⟨i, _, rfl⟩ := h
  simp [rowJ]
/-- graph.cyclic of what order.join made. -/
theorem cyclic_of (list : List S76) (fs : List Nat) (hmax : list.length ≤ 1000000) (F G g : Nat) (b : Bool) (w : World) (B : Nat) (hG : Rows B w g list.length (joinRows list fs relF list.length))
    (hgo : goC (joinRows list fs relF list.length) F G 0 (List.replicate list.length 0) = some b) : Calls Try.prog 55 #[.slice (some ⟨g, 0, none⟩) list.length list.length] w (Gives b w) := by
  have hl := joinRows_len list fs relF list.length
  have h := cyclic_any (joinRows list fs relF list.length) (fun r hr => by rw [hl]; exact joinRows_sq _ _ _ _ r hr) (by omega) F G g b w (by rw [hl]; exact hG.grid) (by rw [hl]; exact hgo)
  rwa [hl] at h
theorem serial_any (run : List (List S68)) (A : Option Addr) (c : Nat) (w : World) (F G : Nat) (b : Bool) (hrun : krun.C w A run.length run) (hT : (run.map List.length).sum ≤ 1000000) (hrl : run.length ≤ 1000000)
    (hgo : goC (matrixOf allB [51, 52, 53, 54] run) F G 0 (List.replicate (nodesN allB run).length 0) = some b) : Calls Try.prog 19 #[.slice A run.length c] w (Gives (!b) w) := by
  have hn := nodes_any run 48 allB act48 A c w hrun hT hrl
  have hlen : (nodesN allB run).length ≤ 1000000 := Nat.le_trans (nodesN_len _ _) hT
  have HN := Lib.hid hn; have HGO := Lib.hid hgo; clear hn hgo hrun
  unfold matrixOf at HGO
  generalize nodesN allB run = l at *
  go_enter Try.func19, Try.ntmps19
  go_wp2_with fail
  refine HN.out.mono ?_
  rintro e w1 ⟨v, rfl, hR, hB⟩
  obtain ⟨A1, c1, rfl, hlc, hC⟩ := Kd.R_reads hR
  have HC := Lib.hid hC; have HB := Lib.hid hB; clear hC hB hR
  go_wp2_with fail
  refine (join_any l [51, 52, 53, 54] relF ?_ A1 _ c1 4 _ hlen (fn_lit w1 [51, 52, 53, 54] 85 (by decide)) (Kd.C_below HC.out ((Below.refl _ _).alloc (Nat.le_refl _) _))).mono ?_
  · intro f hf
    simp only [List.mem_cons, List.not_mem_nil, or_false] at hf
    rcases hf with rfl | rfl | rfl | rfl
    · exact rel51
    · exact rel52
    · exact rel53
    · exact rel54
  rintro e w2 ⟨g, rfl, hB2, hrows⟩
  have HB2 := Lib.hid (HB.out.trans ((((Below.refl w1.heap.size w1).alloc (Nat.le_refl _) _).trans (hB2.mono (by simp))).mono HB.out.size) : Below w.heap.size w w2)
  have HR2 := Lib.hid hrows; clear hB2 hrows
  go_wp2_with fail
  refine (cyclic_of l [51, 52, 53, 54] hlen F G g b w2 _ HR2.out HGO.out).mono ?_
  rintro e w3 ⟨rfl, hB3⟩
  have HB3 := Lib.hid (HB2.out.trans (hB3.mono HB2.out.size)); clear hB3
  go_wp2
  go_ret
  exact ⟨rfl, HB3.out⟩
theorem coherent_any (run : List (List S68)) (A : Option Addr) (c : Nat) (w : World) (F G : Nat) (b : Bool) (hrun : krun.C w A run.length run) (hT : (run.map List.length).sum ≤ 1000000) (hrl : run.length ≤ 1000000)
    (hgo : goC (matrixOf allB [50, 52, 53, 54] run) F G 0 (List.replicate (nodesN allB run).length 0) = some b) : Calls Try.prog 16 #[.slice A run.length c] w (Gives (!b) w) := by
  have hn := nodes_any run 48 allB act48 A c w hrun hT hrl
  have hlen : (nodesN allB run).length ≤ 1000000 := Nat.le_trans (nodesN_len _ _) hT
  have HN := Lib.hid hn; have HGO := Lib.hid hgo; clear hn hgo hrun
  unfold matrixOf at HGO
  generalize nodesN allB run = l at *
  go_enter Try.func16, Try.ntmps16
  go_wp2_with fail
  refine HN.out.mono ?_
  rintro e w1 ⟨v, rfl, hR, hB⟩
  obtain ⟨A1, c1, rfl, hlc, hC⟩ := Kd.R_reads hR
  have HC := Lib.hid hC; have HB := Lib.hid hB; clear hC hB hR
  go_wp2_with fail
  refine (join_any l [50, 52, 53, 54] relF ?_ A1 _ c1 4 _ hlen (fn_lit w1 [50, 52, 53, 54] 85 (by decide)) (Kd.C_below HC.out ((Below.refl _ _).alloc (Nat.le_refl _) _))).mono ?_
  · intro f hf
    simp only [List.mem_cons, List.not_mem_nil, or_false] at hf
    rcases hf with rfl | rfl | rfl | rfl
    · exact rel50
    · exact rel52
    · exact rel53
    · exact rel54
  rintro e w2 ⟨g, rfl, hB2, hrows⟩
  have HB2 := Lib.hid (HB.out.trans ((((Below.refl w1.heap.size w1).alloc (Nat.le_refl _) _).trans (hB2.mono (by simp))).mono HB.out.size) : Below w.heap.size w w2)
  have HR2 := Lib.hid hrows; clear hB2 hrows
  go_wp2_with fail
  refine (cyclic_of l [50, 52, 53, 54] hlen F G g b w2 _ HR2.out HGO.out).mono ?_
  rintro e w3 ⟨rfl, hB3⟩
  have HB3 := Lib.hid (HB2.out.trans (hB3.mono HB2.out.size)); clear hB3
  go_wp2
  go_ret
  exact ⟨rfl, HB3.out⟩
theorem synced_any (run : List (List S68)) (A : Option Addr) (c : Nat) (w : World) (F G : Nat) (b : Bool) (hrun : krun.C w A run.length run) (hT : (run.map List.length).sum ≤ 1000000) (hrl : run.length ≤ 1000000)
    (hgo : goC (matrixOf syncsB [51, 52, 53, 54] run) F G 0 (List.replicate (nodesN syncsB run).length 0) = some b) : Calls Try.prog 18 #[.slice A run.length c] w (Gives (!b) w) := by
  have hn := nodes_any run 60 syncsB act60 A c w hrun hT hrl
  have hlen : (nodesN syncsB run).length ≤ 1000000 := Nat.le_trans (nodesN_len _ _) hT
  have HN := Lib.hid hn; have HGO := Lib.hid hgo; clear hn hgo hrun
  unfold matrixOf at HGO
  generalize nodesN syncsB run = l at *
  go_enter Try.func18, Try.ntmps18
  go_wp2_with fail
  refine HN.out.mono ?_
  rintro e w1 ⟨v, rfl, hR, hB⟩
  obtain ⟨A1, c1, rfl, hlc, hC⟩ := Kd.R_reads hR
  have HC := Lib.hid hC; have HB := Lib.hid hB; clear hC hB hR
  go_wp2_with fail
  refine (join_any l [51, 52, 53, 54] relF ?_ A1 _ c1 4 _ hlen (fn_lit w1 [51, 52, 53, 54] 85 (by decide)) (Kd.C_below HC.out ((Below.refl _ _).alloc (Nat.le_refl _) _))).mono ?_
  · intro f hf
    simp only [List.mem_cons, List.not_mem_nil, or_false] at hf
    rcases hf with rfl | rfl | rfl | rfl
    · exact rel51
    · exact rel52
    · exact rel53
    · exact rel54
  rintro e w2 ⟨g, rfl, hB2, hrows⟩
  have HB2 := Lib.hid (HB.out.trans ((((Below.refl w1.heap.size w1).alloc (Nat.le_refl _) _).trans (hB2.mono (by simp))).mono HB.out.size) : Below w.heap.size w w2)
  have HR2 := Lib.hid hrows; clear hB2 hrows
  go_wp2_with fail
  refine (cyclic_of l [51, 52, 53, 54] hlen F G g b w2 _ HR2.out HGO.out).mono ?_
  rintro e w3 ⟨rfl, hB3⟩
  have HB3 := Lib.hid (HB2.out.trans (hB3.mono HB2.out.size)); clear hB3
  go_wp2
  go_ret
  exact ⟨rfl, HB3.out⟩
/-- The pairs that happen one ahead of the other, as order.happens makes them. -/
def aheadOf (l : List S76) : List (List Bool) := joinRows l [51, 94] relF l.length
/-- graph.closed of what order.join made. -/
theorem closed_of (l : List S76) (hmax : l.length ≤ 1000000) (F g : Nat) (out : List (List Bool)) (w : World) (B : Nat) (hG : Rows B w g l.length (aheadOf l)) (hout : out.length = l.length)
    (hgo : ∀ (i : Nat) (r : List Bool), out[i]? = some r → rowC (aheadOf l) F i = some r) : Calls Try.prog 95 #[.slice (some ⟨g, 0, none⟩) l.length l.length] w (ClosedGives out l.length w) := by
  have hl : (aheadOf l).length = l.length := joinRows_len l [51, 94] relF l.length
  have h := closed_any (aheadOf l) out (fun r hr => by rw [hl]; exact joinRows_sq _ _ _ _ r hr) (by omega) F g w (by rw [hl]; exact hG.grid) (by rw [hl]; exact hout) hgo
  rwa [hl] at h
theorem happens_any (l : List S76) (V : Value) (A : Option Addr) (c : Nat) (w : World) (F : Nat) (out : List (List Bool)) (hlen : l.length ≤ 1000000) (hC : k76.C w A l.length l)
    (hout : out.length = l.length) (hgo : ∀ (i : Nat) (r : List Bool), out[i]? = some r → rowC (aheadOf l) F i = some r) : Calls Try.prog 61 #[V, .slice A l.length c] w (ClosedGives out l.length w) := by
  have HC := Lib.hid hC; have HGO := Lib.hid hgo; have HO := Lib.hid hout; clear hC hgo hout
  go_enter Try.func61, Try.ntmps61
  go_wp2_with fail
  refine (join_any l [51, 94] relF ?_ A _ c 2 _ hlen (fn_lit w [51, 94] 85 (by decide)) (Kd.C_below HC.out ((Below.refl _ _).alloc (Nat.le_refl _) _))).mono ?_
  · intro f hf
    simp only [List.mem_cons, List.not_mem_nil, or_false] at hf
    rcases hf with rfl | rfl
    · exact rel51
    · exact rel94
  rintro e w2 ⟨g, rfl, hB2, hrows⟩
  have HB2 := Lib.hid (((Below.refl w.heap.size w).alloc (Nat.le_refl _) _).trans (hB2.mono (by simp)) : Below w.heap.size w w2)
  have HR2 := Lib.hid hrows; clear hB2 hrows
  go_wp2_with fail
  refine (closed_of l hlen F g out w2 _ HR2.out HO.out HGO.out).mono ?_
  rintro e w3 ⟨g3, rfl, hB3, hR3⟩
  have HB3 := Lib.hid (HB2.out.trans (hB3.mono HB2.out.size)); clear hB3
  have HR3 := Lib.hid hR3; clear hR3
  go_wp2
  go_ret
  refine ⟨g3, rfl, HB3.out, ?_⟩
  obtain ⟨hs, h1, h2, h3⟩ := HR3.out
  refine ⟨hs, h1, h2, fun j r hj => ?_⟩
  obtain ⟨q1, b, q2, q3, q4, q5⟩ := h3 j r hj
  exact ⟨q1, b, q2, q3, q4, Nat.le_trans HB2.out.size q5⟩
end Go.Proofs.Ytfeempgoejnfdaa.Ord
