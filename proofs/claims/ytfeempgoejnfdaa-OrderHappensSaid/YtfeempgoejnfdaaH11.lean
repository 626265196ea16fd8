/- The function literal of order's Consistent: what it computes. No node stands twice. -/
import Derived.Test.YtfeempgoejnfdaaH10
namespace Go.Proofs.Ytfeempgoejnfdaa.Ord
open Go.RowKit Go.Proofs.YtfeempgoejnfdaaW.PrintWords Go.Proofs.YtfeempgoejnfdaaW.PrintLast Go.Proofs.YtfeempgoejnfdaaW.PrintMore
set_option linter.unusedVariables false
set_option linter.unusedSimpArgs false
/-- The cells that the literal reads. -/
def LitS (x y : S76) (n k j : Nat) (A : Option Addr) (c cg : Nat) (pw pb ph pl pk g bj : Nat) (v : Bool) (W : World) : Prop := W.cell? ⟨pw, 0, none⟩ = some (.int .i64 x.f0.f0) ∧ W.cell? ⟨pw, 1, none⟩ = some (.int .i64 x.f0.f1.f0) ∧ W.cell? ⟨pw, 2, none⟩ = some (.int .i64 x.f0.f1.f1) ∧ W.cell? ⟨pw, 3, none⟩ = some (.int .i64 x.f0.f1.f2) ∧ W.cell? ⟨pw, 4, none⟩ = some (.int .i64 x.f0.f1.f3) ∧ W.cell? ⟨pw, 5, none⟩ = some (.bool x.f0.f1.f4) ∧ W.cell? ⟨pw, 6, none⟩ = some (.bool x.f0.f1.f5) ∧ W.cell? ⟨pw, 7, none⟩ = some (.int .i64 x.f0.f2) ∧ W.cell? ⟨pw, 8, none⟩ = some (.int .i64 x.f0.f3) ∧ W.cell? ⟨pw, 9, none⟩ = some (.int .i64 x.f1) ∧ W.cell? ⟨pb, 0, none⟩ = some (.int .i64 y.f0.f0) ∧ W.cell? ⟨pb, 1, none⟩ = some (.int .i64 y.f0.f1.f0) ∧ W.cell? ⟨pb, 2, none⟩ = some (.int .i64 y.f0.f1.f1) ∧ W.cell? ⟨pb, 3, none⟩ = some (.int .i64 y.f0.f1.f2) ∧ W.cell? ⟨pb, 4, none⟩ = some (.int .i64 y.f0.f1.f3) ∧ W.cell? ⟨pb, 5, none⟩ = some (.bool y.f0.f1.f4) ∧ W.cell? ⟨pb, 6, none⟩ = some (.bool y.f0.f1.f5) ∧ W.cell? ⟨pb, 7, none⟩ = some (.int .i64 y.f0.f2) ∧ W.cell? ⟨pb, 8, none⟩ = some (.int .i64 y.f0.f3) ∧ W.cell? ⟨pb, 9, none⟩ = some (.int .i64 y.f1) ∧ W.cell? ⟨ph, 0, none⟩ = some (.slice (some ⟨g, 0, none⟩) n cg) ∧ W.cell? ⟨pl, 0, none⟩ = some (.slice A n c) ∧ W.cell? ⟨pk, 0, none⟩ = some (.int .i64 (k : Int)) ∧ W.cell? ⟨g, j, none⟩ = some (.slice (some ⟨bj, 0, none⟩) n n) ∧ W.cell? ⟨bj, k, none⟩ = some (.bool v)
theorem LitS.below {x y : S76} {n k j : Nat} {A : Option Addr} {c cg pw pb ph pl pk g bj : Nat} {v : Bool} {W W1 : World} (hb : Below W.heap.size W W1) (h : LitS x y n k j A c cg pw pb ph pl pk g bj v W) : LitS x y n k j A c cg pw pb ph pl pk g bj v W1 := by
  have key : ∀ {a : Addr} {u : Value}, W.cell? a = some u → W1.cell? a = some u := fun {a u} ha => by rw [hb.cell (World.block_lt_of_cell? W _ ha)]; exact ha
  unfold LitS at *
  obtain ⟨h0, h1, h2, h3, h4, h5, h6, h7, h8, h9, h10, h11, h12, h13, h14, h15, h16, h17, h18, h19, h20, h21, h22, h23, h24⟩ := h
  exact ⟨key h0, key h1, key h2, key h3, key h4, key h5, key h6, key h7, key h8, key h9, key h10, key h11, key h12, key h13, key h14, key h15, key h16, key h17, key h18, key h19, key h20, key h21, key h22, key h23, key h24⟩
set_option maxRecDepth 100000 in
set_option maxHeartbeats 4000000 in
theorem lit65_any (l : List S76) (hn : l.Nodup) (hlen : l.length ≤ 1000000) (x y : S76) (k j : Nat) (v : Bool) (hx : l[j]? = some x) (hk : k < l.length) (A : Option Addr) (c cg : Nat) (pb ph pl pk g bj : Nat) (w : World) (hC : k76.C w A l.length l)
    (hy : Box76 w pb y) (hh : w.cell? ⟨ph, 0, none⟩ = some (.slice (some ⟨g, 0, none⟩) l.length cg)) (hl : w.cell? ⟨pl, 0, none⟩ = some (.slice A l.length c)) (hkk : w.cell? ⟨pk, 0, none⟩ = some (.int .i64 (k : Int)))
    (hr : w.cell? ⟨g, j, none⟩ = some (.slice (some ⟨bj, 0, none⟩) l.length l.length)) (hv : w.cell? ⟨bj, k, none⟩ = some (.bool v)) :
    Calls Try.prog 65 #[v76 x, .pointer (some ⟨pb, 0, none⟩), .pointer (some ⟨ph, 0, none⟩), .pointer (some ⟨pl, 0, none⟩), .pointer (some ⟨pk, 0, none⟩)] w (Gives (rfB x y && v) w) := by
  have hj : j < l.length := (List.getElem?_eq_some_iff.1 hx).1
  have HX := Lib.hid (List.mem_of_getElem? hx); have HXE := Lib.hid hx; have HN := Lib.hid hn
  have HS0 : LitS x y l.length k j A c cg w.heap.size pb ph pl pk g bj v (w.alloc (.cells #[.int .i64 x.f0.f0, .int .i64 x.f0.f1.f0, .int .i64 x.f0.f1.f1, .int .i64 x.f0.f1.f2, .int .i64 x.f0.f1.f3, .bool x.f0.f1.f4, .bool x.f0.f1.f5, .int .i64 x.f0.f2, .int .i64 x.f0.f3, .int .i64 x.f1] 84)) := by
    have key : ∀ {a : Addr} {u : Value}, w.cell? a = some u → (w.alloc (.cells (c76 x).toArray 84)).cell? a = some u := fun {a u} ha => by rw [((Below.refl w.heap.size w).alloc (Nat.le_refl _) _).cell (World.block_lt_of_cell? w _ ha)]; exact ha
    obtain ⟨a0, a1, a2, a3, a4, a5, a6, a7, a8, a9⟩ := box_cells (Blk.new w (c76 x) 84)
    obtain ⟨b0, b1, b2, b3, b4, b5, b6, b7, b8, b9⟩ := box_cells hy
    exact ⟨a0, a1, a2, a3, a4, a5, a6, a7, a8, a9, key b0, key b1, key b2, key b3, key b4, key b5, key b6, key b7, key b8, key b9, key hh, key hl, key hkk, key hr, key hv⟩
  have HB0 := Lib.hid ((Below.refl w.heap.size w).alloc (Nat.le_refl _) (.cells (c76 x).toArray 84))
  have HC0 := Lib.hid hC
  clear hx hn hy hh hl hkk hr hv hC
  go_enter Try.func65, Try.ntmps65
  obtain ⟨s0, s1, s2, s3, s4, s5, s6, s7, s8, s9, s10, s11, s12, s13, s14, s15, s16, s17, s18, s19, s20, s21, s22, s23, s24⟩ := HS0
  go_wp2
  have HD0 := Lib.hid (below_drew HB0.out)
  cases hrf : rfB x y
  · 
    refine wp_region_held_drew (S := (fun w' => w'.cell? ⟨w.heap.size, 0, none⟩ = some (.int .i64 x.f0.f0) ∧ w'.cell? ⟨w.heap.size, 1, none⟩ = some (.int .i64 x.f0.f1.f0) ∧ w'.cell? ⟨w.heap.size, 2, none⟩ = some (.int .i64 x.f0.f1.f1) ∧ w'.cell? ⟨w.heap.size, 3, none⟩ = some (.int .i64 x.f0.f1.f2) ∧ w'.cell? ⟨w.heap.size, 4, none⟩ = some (.int .i64 x.f0.f1.f3) ∧ w'.cell? ⟨w.heap.size, 5, none⟩ = some (.bool x.f0.f1.f4) ∧ w'.cell? ⟨w.heap.size, 6, none⟩ = some (.bool x.f0.f1.f5) ∧ w'.cell? ⟨w.heap.size, 7, none⟩ = some (.int .i64 x.f0.f2) ∧ w'.cell? ⟨w.heap.size, 8, none⟩ = some (.int .i64 x.f0.f3) ∧ w'.cell? ⟨w.heap.size, 9, none⟩ = some (.int .i64 x.f1) ∧ w'.cell? ⟨pb, 0, none⟩ = some (.int .i64 y.f0.f0) ∧ w'.cell? ⟨pb, 1, none⟩ = some (.int .i64 y.f0.f1.f0) ∧ w'.cell? ⟨pb, 2, none⟩ = some (.int .i64 y.f0.f1.f1) ∧ w'.cell? ⟨pb, 3, none⟩ = some (.int .i64 y.f0.f1.f2) ∧ w'.cell? ⟨pb, 4, none⟩ = some (.int .i64 y.f0.f1.f3) ∧ w'.cell? ⟨pb, 5, none⟩ = some (.bool y.f0.f1.f4) ∧ w'.cell? ⟨pb, 6, none⟩ = some (.bool y.f0.f1.f5) ∧ w'.cell? ⟨pb, 7, none⟩ = some (.int .i64 y.f0.f2) ∧ w'.cell? ⟨pb, 8, none⟩ = some (.int .i64 y.f0.f3) ∧ w'.cell? ⟨pb, 9, none⟩ = some (.int .i64 y.f1) ∧ w'.cell? ⟨ph, 0, none⟩ = some (.slice (some ⟨g, 0, none⟩) l.length cg) ∧ w'.cell? ⟨pl, 0, none⟩ = some (.slice A l.length c) ∧ w'.cell? ⟨pk, 0, none⟩ = some (.int .i64 (k : Int)) ∧ w'.cell? ⟨g, j, none⟩ = some (.slice (some ⟨bj, 0, none⟩) l.length l.length) ∧ w'.cell? ⟨bj, k, none⟩ = some (.bool v))) (by kernel_rfl) ?_ (fun hHeld => ?_)
    · (try dsimp only); go_keep
    refine wpAnyH_take (i := 0) (oi := { dst := some 7, op := Op.load 84 (Operand.tmp 5), type := 84, pos := "order.go:155", after := #[], guard := none }) (v := ?_) rfl (by kernel_rfl) (by kernel_rfl) (by kernel_rfl) (fun _ _ _ h => h) (Or.inl ⟨by rfl, ?_⟩) (by assumption) ?_
    rotate_left
    · intro w9 hSw; (try dsimp only at hSw); go_simp; try (with_reducible rfl)
    try simp only [Act.put, List.setIfInBounds_toArray, List.set_cons_zero, List.set_cons_succ]
    refine wpAnyH_take (i := 1) (oi := { dst := some 8, op := Op.load 84 (Operand.tmp 1), type := 84, pos := "order.go:155", after := #[], guard := none }) (v := ?_) rfl (by kernel_rfl) (by kernel_rfl) (by kernel_rfl) (fun _ _ _ h => h) (Or.inl ⟨by rfl, ?_⟩) (by assumption) ?_
    rotate_left
    · intro w9 hSw; (try dsimp only at hSw); go_simp; try (with_reducible rfl)
    try simp only [Act.put, List.setIfInBounds_toArray, List.set_cons_zero, List.set_cons_succ]
    refine wpAnyH_ready (rs := [2]) (by kernel_rfl) (by simp) ?_
    refine AllReadyH.cons (o := { dst := some 9, op := Op.call { callee := Callee.value (Operand.func 52), args := #[Operand.tmp 7, Operand.tmp 8], argTypes := #[84, 84] }, type := 4, pos := "order.go:155", after := #[{ on := 0, ground := Ground.data }, { on := 1, ground := Ground.data }], guard := none }) rfl (fun K hK => ?_) AllReadyH.nil
    go_simp
    (go_at_call 52; refine (rf_any x y _).mono ?_; rintro e w4 ⟨rfl, hb⟩; obtain ⟨t0, t1, t2, t3, t4, t5, t6, t7, t8, t9, t10, t11, t12, t13, t14, t15, t16, t17, t18, t19, t20, t21, t22, t23, t24⟩ := LitS.below (x := x) (y := y) (n := l.length) (k := k) (j := j) (A := A) (c := c) (cg := cg) (pw := w.heap.size) (pb := pb) (ph := ph) (pl := pl) (pk := pk) (g := g) (bj := bj) (v := v) hb ⟨s0, s1, s2, s3, s4, s5, s6, s7, s8, s9, s10, s11, s12, s13, s14, s15, s16, s17, s18, s19, s20, s21, s22, s23, s24⟩; have HB4 := Lib.hid (HD0.out.trans (hb.mono HD0.out.size) : Below w.heap.size w w4); clear hb)
    try go_wp2_with fail
    refine hK.out _ _ ?_ (fun hHeld4 => ?_)
    · (try dsimp only); go_keep
    clear hK K
    try simp only [Act.put, List.setIfInBounds_toArray, List.set_cons_zero, List.set_cons_succ]
    refine wpAnyH_take (i := 3) (oi := { dst := some 10, op := Op.move (Operand.tmp 9), type := 4, pos := "order.go:155", after := #[{ on := 2, ground := Ground.data }, { on := 2, ground := Ground.chain }], guard := none }) (v := ?_) rfl (by kernel_rfl) (by kernel_rfl) (by kernel_rfl) (fun _ _ _ h => h) (Or.inl ⟨by rfl, ?_⟩) (by assumption) ?_
    rotate_left
    · intro w9 hSw; (try dsimp only at hSw); go_simp; try (with_reducible rfl)
    try simp only [Act.put, List.setIfInBounds_toArray, List.set_cons_zero, List.set_cons_succ]
    refine wpAnyH_take (i := 4) (oi := { dst := some 11, op := Op.load 81 (Operand.tmp 2), type := 81, pos := "order.go:155", after := #[{ on := 3, ground := Ground.guard }], guard := some (3, true) }) (v := undef) rfl (by kernel_rfl) (by kernel_rfl) (by kernel_rfl) (fun _ _ _ h => h) (Or.inr ⟨by rfl, rfl⟩) (by assumption) ?_
    try simp only [Act.put, List.setIfInBounds_toArray, List.set_cons_zero, List.set_cons_succ]
    refine wpAnyH_take (i := 5) (oi := { dst := some 12, op := Op.load 77 (Operand.tmp 3), type := 77, pos := "order.go:155", after := #[{ on := 3, ground := Ground.guard }], guard := some (3, true) }) (v := undef) rfl (by kernel_rfl) (by kernel_rfl) (by kernel_rfl) (fun _ _ _ h => h) (Or.inr ⟨by rfl, rfl⟩) (by assumption) ?_
    try simp only [Act.put, List.setIfInBounds_toArray, List.set_cons_zero, List.set_cons_succ]
    refine wpAnyH_take (i := 6) (oi := { dst := some 13, op := Op.load 84 (Operand.tmp 5), type := 84, pos := "order.go:155", after := #[{ on := 3, ground := Ground.guard }], guard := some (3, true) }) (v := undef) rfl (by kernel_rfl) (by kernel_rfl) (by kernel_rfl) (fun _ _ _ h => h) (Or.inr ⟨by rfl, rfl⟩) (by assumption) ?_
    try simp only [Act.put, List.setIfInBounds_toArray, List.set_cons_zero, List.set_cons_succ]
    refine wpAnyH_take (i := 7) (oi := { dst := some 14, op := Op.call { callee := Callee.value (Operand.func 66), args := #[Operand.tmp 12, Operand.tmp 13], argTypes := #[77, 84] }, type := 3, pos := "order.go:155", after := #[{ on := 5, ground := Ground.data }, { on := 6, ground := Ground.data }, { on := 3, ground := Ground.chain }, { on := 3, ground := Ground.guard }], guard := some (3, true) }) (v := undef) rfl (by kernel_rfl) (by kernel_rfl) (by kernel_rfl) (fun _ _ _ h => h) (Or.inr ⟨by rfl, rfl⟩) (by assumption) ?_
    try simp only [Act.put, List.setIfInBounds_toArray, List.set_cons_zero, List.set_cons_succ]
    refine wpAnyH_take (i := 8) (oi := { dst := some 15, op := Op.indexAddr 81 (Operand.tmp 11) (Operand.tmp 14), type := 0, pos := "order.go:155", after := #[{ on := 4, ground := Ground.data }, { on := 7, ground := Ground.data }, { on := 3, ground := Ground.guard }], guard := some (3, true) }) (v := undef) rfl (by kernel_rfl) (by kernel_rfl) (by kernel_rfl) (fun _ _ _ h => h) (Or.inr ⟨by rfl, rfl⟩) (by assumption) ?_
    try simp only [Act.put, List.setIfInBounds_toArray, List.set_cons_zero, List.set_cons_succ]
    refine wpAnyH_take (i := 9) (oi := { dst := some 16, op := Op.load 90 (Operand.tmp 15), type := 90, pos := "order.go:155", after := #[{ on := 8, ground := Ground.data }, { on := 3, ground := Ground.guard }], guard := some (3, true) }) (v := undef) rfl (by kernel_rfl) (by kernel_rfl) (by kernel_rfl) (fun _ _ _ h => h) (Or.inr ⟨by rfl, rfl⟩) (by assumption) ?_
    try simp only [Act.put, List.setIfInBounds_toArray, List.set_cons_zero, List.set_cons_succ]
    refine wpAnyH_take (i := 10) (oi := { dst := some 17, op := Op.load 3 (Operand.tmp 4), type := 3, pos := "order.go:155", after := #[{ on := 3, ground := Ground.guard }], guard := some (3, true) }) (v := undef) rfl (by kernel_rfl) (by kernel_rfl) (by kernel_rfl) (fun _ _ _ h => h) (Or.inr ⟨by rfl, rfl⟩) (by assumption) ?_
    try simp only [Act.put, List.setIfInBounds_toArray, List.set_cons_zero, List.set_cons_succ]
    refine wpAnyH_take (i := 11) (oi := { dst := some 18, op := Op.indexAddr 90 (Operand.tmp 16) (Operand.tmp 17), type := 0, pos := "order.go:155", after := #[{ on := 9, ground := Ground.data }, { on := 10, ground := Ground.data }, { on := 3, ground := Ground.guard }], guard := some (3, true) }) (v := undef) rfl (by kernel_rfl) (by kernel_rfl) (by kernel_rfl) (fun _ _ _ h => h) (Or.inr ⟨by rfl, rfl⟩) (by assumption) ?_
    try simp only [Act.put, List.setIfInBounds_toArray, List.set_cons_zero, List.set_cons_succ]
    refine wpAnyH_take (i := 12) (oi := { dst := some 19, op := Op.load 4 (Operand.tmp 18), type := 4, pos := "order.go:155", after := #[{ on := 11, ground := Ground.data }, { on := 3, ground := Ground.guard }], guard := some (3, true) }) (v := undef) rfl (by kernel_rfl) (by kernel_rfl) (by kernel_rfl) (fun _ _ _ h => h) (Or.inr ⟨by rfl, rfl⟩) (by assumption) ?_
    try simp only [Act.put, List.setIfInBounds_toArray, List.set_cons_zero, List.set_cons_succ]
    refine wpAnyH_take (i := 13) (oi := { dst := some 20, op := Op.pick (Operand.tmp 10) (Operand.tmp 19) (Operand.const (Value.bool false)), type := 4, pos := "order.go:155", after := #[{ on := 3, ground := Ground.data }, { on := 12, ground := Ground.data }], guard := none }) (v := ?_) rfl (by kernel_rfl) (by kernel_rfl) (by kernel_rfl) (fun _ _ _ h => h) (Or.inl ⟨by rfl, ?_⟩) (by assumption) ?_
    rotate_left
    · intro w9 hSw; (try dsimp only at hSw); go_simp; try (with_reducible rfl)
    try simp only [Act.put, List.setIfInBounds_toArray, List.set_cons_zero, List.set_cons_succ]
    refine wpAnyH_ready (rs := [14]) (by kernel_rfl) (by simp) ?_
    refine AllReadyH.cons (o := { dst := some 6, op := Op.assign (Operand.tmp 20), type := 4, pos := "order.go:155", after := #[{ on := 13, ground := Ground.data }, { on := 7, ground := Ground.chain }, { on := 0, ground := Ground.phase }, { on := 1, ground := Ground.phase }, { on := 2, ground := Ground.phase }, { on := 3, ground := Ground.phase }, { on := 4, ground := Ground.phase }, { on := 5, ground := Ground.phase }, { on := 6, ground := Ground.phase }, { on := 7, ground := Ground.phase }, { on := 8, ground := Ground.phase }, { on := 9, ground := Ground.phase }, { on := 10, ground := Ground.phase }, { on := 11, ground := Ground.phase }, { on := 12, ground := Ground.phase }, { on := 13, ground := Ground.phase }], guard := none }) rfl (fun K hK => ?_) AllReadyH.nil
    go_simp
    refine hK.out _ _ ?_ (fun hHeld16 => ?_)
    · (try dsimp only); go_keep
    clear hK K
    try simp only [Act.put, List.setIfInBounds_toArray, List.set_cons_zero, List.set_cons_succ]
    refine wpAnyH_done (by kernel_rfl) ?_ _
    have HR := HB4
    go_wp2
    go_ret
    exact ⟨ret_bool (by simp [hrf]), HR.out⟩
  · 
    refine wp_region_held_drew (S := (fun w' => w'.cell? ⟨w.heap.size, 0, none⟩ = some (.int .i64 x.f0.f0) ∧ w'.cell? ⟨w.heap.size, 1, none⟩ = some (.int .i64 x.f0.f1.f0) ∧ w'.cell? ⟨w.heap.size, 2, none⟩ = some (.int .i64 x.f0.f1.f1) ∧ w'.cell? ⟨w.heap.size, 3, none⟩ = some (.int .i64 x.f0.f1.f2) ∧ w'.cell? ⟨w.heap.size, 4, none⟩ = some (.int .i64 x.f0.f1.f3) ∧ w'.cell? ⟨w.heap.size, 5, none⟩ = some (.bool x.f0.f1.f4) ∧ w'.cell? ⟨w.heap.size, 6, none⟩ = some (.bool x.f0.f1.f5) ∧ w'.cell? ⟨w.heap.size, 7, none⟩ = some (.int .i64 x.f0.f2) ∧ w'.cell? ⟨w.heap.size, 8, none⟩ = some (.int .i64 x.f0.f3) ∧ w'.cell? ⟨w.heap.size, 9, none⟩ = some (.int .i64 x.f1) ∧ w'.cell? ⟨pb, 0, none⟩ = some (.int .i64 y.f0.f0) ∧ w'.cell? ⟨pb, 1, none⟩ = some (.int .i64 y.f0.f1.f0) ∧ w'.cell? ⟨pb, 2, none⟩ = some (.int .i64 y.f0.f1.f1) ∧ w'.cell? ⟨pb, 3, none⟩ = some (.int .i64 y.f0.f1.f2) ∧ w'.cell? ⟨pb, 4, none⟩ = some (.int .i64 y.f0.f1.f3) ∧ w'.cell? ⟨pb, 5, none⟩ = some (.bool y.f0.f1.f4) ∧ w'.cell? ⟨pb, 6, none⟩ = some (.bool y.f0.f1.f5) ∧ w'.cell? ⟨pb, 7, none⟩ = some (.int .i64 y.f0.f2) ∧ w'.cell? ⟨pb, 8, none⟩ = some (.int .i64 y.f0.f3) ∧ w'.cell? ⟨pb, 9, none⟩ = some (.int .i64 y.f1) ∧ w'.cell? ⟨ph, 0, none⟩ = some (.slice (some ⟨g, 0, none⟩) l.length cg) ∧ w'.cell? ⟨pl, 0, none⟩ = some (.slice A l.length c) ∧ w'.cell? ⟨pk, 0, none⟩ = some (.int .i64 (k : Int)) ∧ w'.cell? ⟨g, j, none⟩ = some (.slice (some ⟨bj, 0, none⟩) l.length l.length) ∧ w'.cell? ⟨bj, k, none⟩ = some (.bool v))) (by kernel_rfl) ?_ (fun hHeld => ?_)
    · (try dsimp only); go_keep
    refine wpAnyH_take (i := 0) (oi := { dst := some 7, op := Op.load 84 (Operand.tmp 5), type := 84, pos := "order.go:155", after := #[], guard := none }) (v := ?_) rfl (by kernel_rfl) (by kernel_rfl) (by kernel_rfl) (fun _ _ _ h => h) (Or.inl ⟨by rfl, ?_⟩) (by assumption) ?_
    rotate_left
    · intro w9 hSw; (try dsimp only at hSw); go_simp; try (with_reducible rfl)
    try simp only [Act.put, List.setIfInBounds_toArray, List.set_cons_zero, List.set_cons_succ]
    refine wpAnyH_take (i := 1) (oi := { dst := some 8, op := Op.load 84 (Operand.tmp 1), type := 84, pos := "order.go:155", after := #[], guard := none }) (v := ?_) rfl (by kernel_rfl) (by kernel_rfl) (by kernel_rfl) (fun _ _ _ h => h) (Or.inl ⟨by rfl, ?_⟩) (by assumption) ?_
    rotate_left
    · intro w9 hSw; (try dsimp only at hSw); go_simp; try (with_reducible rfl)
    try simp only [Act.put, List.setIfInBounds_toArray, List.set_cons_zero, List.set_cons_succ]
    refine wpAnyH_ready (rs := [2]) (by kernel_rfl) (by simp) ?_
    refine AllReadyH.cons (o := { dst := some 9, op := Op.call { callee := Callee.value (Operand.func 52), args := #[Operand.tmp 7, Operand.tmp 8], argTypes := #[84, 84] }, type := 4, pos := "order.go:155", after := #[{ on := 0, ground := Ground.data }, { on := 1, ground := Ground.data }], guard := none }) rfl (fun K hK => ?_) AllReadyH.nil
    go_simp
    (go_at_call 52; refine (rf_any x y _).mono ?_; rintro e w4 ⟨rfl, hb⟩; obtain ⟨t0, t1, t2, t3, t4, t5, t6, t7, t8, t9, t10, t11, t12, t13, t14, t15, t16, t17, t18, t19, t20, t21, t22, t23, t24⟩ := LitS.below (x := x) (y := y) (n := l.length) (k := k) (j := j) (A := A) (c := c) (cg := cg) (pw := w.heap.size) (pb := pb) (ph := ph) (pl := pl) (pk := pk) (g := g) (bj := bj) (v := v) hb ⟨s0, s1, s2, s3, s4, s5, s6, s7, s8, s9, s10, s11, s12, s13, s14, s15, s16, s17, s18, s19, s20, s21, s22, s23, s24⟩; have HB4 := Lib.hid (HD0.out.trans (hb.mono HD0.out.size) : Below w.heap.size w w4); clear hb)
    try go_wp2_with fail
    refine hK.out _ _ ?_ (fun hHeld4 => ?_)
    · (try dsimp only); go_keep
    clear hK K
    try simp only [Act.put, List.setIfInBounds_toArray, List.set_cons_zero, List.set_cons_succ]
    refine wpAnyH_take (i := 3) (oi := { dst := some 10, op := Op.move (Operand.tmp 9), type := 4, pos := "order.go:155", after := #[{ on := 2, ground := Ground.data }, { on := 2, ground := Ground.chain }], guard := none }) (v := ?_) rfl (by kernel_rfl) (by kernel_rfl) (by kernel_rfl) (fun _ _ _ h => h) (Or.inl ⟨by rfl, ?_⟩) (by assumption) ?_
    rotate_left
    · intro w9 hSw; (try dsimp only at hSw); go_simp; try (with_reducible rfl)
    try simp only [Act.put, List.setIfInBounds_toArray, List.set_cons_zero, List.set_cons_succ]
    refine wpAnyH_take (i := 4) (oi := { dst := some 11, op := Op.load 81 (Operand.tmp 2), type := 81, pos := "order.go:155", after := #[{ on := 3, ground := Ground.guard }], guard := some (3, true) }) (v := ?_) rfl (by kernel_rfl) (by kernel_rfl) (by kernel_rfl) (fun _ _ _ h => h) (Or.inl ⟨by rfl, ?_⟩) (by assumption) ?_
    rotate_left
    · intro w9 hSw; (try dsimp only at hSw); go_simp; try (with_reducible rfl)
    try simp only [Act.put, List.setIfInBounds_toArray, List.set_cons_zero, List.set_cons_succ]
    refine wpAnyH_take (i := 5) (oi := { dst := some 12, op := Op.load 77 (Operand.tmp 3), type := 77, pos := "order.go:155", after := #[{ on := 3, ground := Ground.guard }], guard := some (3, true) }) (v := ?_) rfl (by kernel_rfl) (by kernel_rfl) (by kernel_rfl) (fun _ _ _ h => h) (Or.inl ⟨by rfl, ?_⟩) (by assumption) ?_
    rotate_left
    · intro w9 hSw; (try dsimp only at hSw); go_simp; try (with_reducible rfl)
    try simp only [Act.put, List.setIfInBounds_toArray, List.set_cons_zero, List.set_cons_succ]
    refine wpAnyH_take (i := 6) (oi := { dst := some 13, op := Op.load 84 (Operand.tmp 5), type := 84, pos := "order.go:155", after := #[{ on := 3, ground := Ground.guard }], guard := some (3, true) }) (v := ?_) rfl (by kernel_rfl) (by kernel_rfl) (by kernel_rfl) (fun _ _ _ h => h) (Or.inl ⟨by rfl, ?_⟩) (by assumption) ?_
    rotate_left
    · intro w9 hSw; (try dsimp only at hSw); go_simp; try (with_reducible rfl)
    try simp only [Act.put, List.setIfInBounds_toArray, List.set_cons_zero, List.set_cons_succ]
    refine wpAnyH_take (i := 10) (oi := { dst := some 17, op := Op.load 3 (Operand.tmp 4), type := 3, pos := "order.go:155", after := #[{ on := 3, ground := Ground.guard }], guard := some (3, true) }) (v := ?_) rfl (by kernel_rfl) (by kernel_rfl) (by kernel_rfl) (fun _ _ _ h => h) (Or.inl ⟨by rfl, ?_⟩) (by assumption) ?_
    rotate_left
    · intro w9 hSw; (try dsimp only at hSw); go_simp; try (with_reducible rfl)
    try simp only [Act.put, List.setIfInBounds_toArray, List.set_cons_zero, List.set_cons_succ]
    refine wpAnyH_ready (rs := [7]) (by kernel_rfl) (by simp) ?_
    refine AllReadyH.cons (o := { dst := some 14, op := Op.call { callee := Callee.value (Operand.func 66), args := #[Operand.tmp 12, Operand.tmp 13], argTypes := #[77, 84] }, type := 3, pos := "order.go:155", after := #[{ on := 5, ground := Ground.data }, { on := 6, ground := Ground.data }, { on := 3, ground := Ground.chain }, { on := 3, ground := Ground.guard }], guard := some (3, true) }) rfl (fun K hK => ?_) AllReadyH.nil
    go_simp
    (go_at_call 66; refine (index_any l x HX.out A c w4 (by omega) (Kd.C_below HC0.out HB4.out)).mono ?_; rintro e w5 ⟨⟨j', rfl, hj', _⟩, hb⟩; obtain rfl : j = j' := first_place HN.out HXE.out hj'; obtain ⟨u0, u1, u2, u3, u4, u5, u6, u7, u8, u9, u10, u11, u12, u13, u14, u15, u16, u17, u18, u19, u20, u21, u22, u23, u24⟩ := LitS.below (x := x) (y := y) (n := l.length) (k := k) (j := j) (A := A) (c := c) (cg := cg) (pw := w.heap.size) (pb := pb) (ph := ph) (pl := pl) (pk := pk) (g := g) (bj := bj) (v := v) hb ⟨t0, t1, t2, t3, t4, t5, t6, t7, t8, t9, t10, t11, t12, t13, t14, t15, t16, t17, t18, t19, t20, t21, t22, t23, t24⟩; have HB5 := Lib.hid (HB4.out.trans (hb.mono HB4.out.size) : Below w.heap.size w w5); clear hb hj' )
    try go_wp2_with fail
    refine hK.out _ _ ?_ (fun hHeld9 => ?_)
    · (try dsimp only); go_keep
    clear hK K
    try simp only [Act.put, List.setIfInBounds_toArray, List.set_cons_zero, List.set_cons_succ]
    refine wpAnyH_take (i := 8) (oi := { dst := some 15, op := Op.indexAddr 81 (Operand.tmp 11) (Operand.tmp 14), type := 0, pos := "order.go:155", after := #[{ on := 4, ground := Ground.data }, { on := 7, ground := Ground.data }, { on := 3, ground := Ground.guard }], guard := some (3, true) }) (v := ?_) rfl (by kernel_rfl) (by kernel_rfl) (by kernel_rfl) (fun _ _ _ h => h) (Or.inl ⟨by rfl, ?_⟩) (by assumption) ?_
    rotate_left
    · intro w9 hSw; (try dsimp only at hSw); go_simp; try (with_reducible rfl)
    try simp only [Act.put, List.setIfInBounds_toArray, List.set_cons_zero, List.set_cons_succ]
    refine wpAnyH_take (i := 9) (oi := { dst := some 16, op := Op.load 90 (Operand.tmp 15), type := 90, pos := "order.go:155", after := #[{ on := 8, ground := Ground.data }, { on := 3, ground := Ground.guard }], guard := some (3, true) }) (v := ?_) rfl (by kernel_rfl) (by kernel_rfl) (by kernel_rfl) (fun _ _ _ h => h) (Or.inl ⟨by rfl, ?_⟩) (by assumption) ?_
    rotate_left
    · intro w9 hSw; (try dsimp only at hSw); go_simp; try (with_reducible rfl)
    try simp only [Act.put, List.setIfInBounds_toArray, List.set_cons_zero, List.set_cons_succ]
    refine wpAnyH_take (i := 11) (oi := { dst := some 18, op := Op.indexAddr 90 (Operand.tmp 16) (Operand.tmp 17), type := 0, pos := "order.go:155", after := #[{ on := 9, ground := Ground.data }, { on := 10, ground := Ground.data }, { on := 3, ground := Ground.guard }], guard := some (3, true) }) (v := ?_) rfl (by kernel_rfl) (by kernel_rfl) (by kernel_rfl) (fun _ _ _ h => h) (Or.inl ⟨by rfl, ?_⟩) (by assumption) ?_
    rotate_left
    · intro w9 hSw; (try dsimp only at hSw); go_simp; try (with_reducible rfl)
    try simp only [Act.put, List.setIfInBounds_toArray, List.set_cons_zero, List.set_cons_succ]
    refine wpAnyH_take (i := 12) (oi := { dst := some 19, op := Op.load 4 (Operand.tmp 18), type := 4, pos := "order.go:155", after := #[{ on := 11, ground := Ground.data }, { on := 3, ground := Ground.guard }], guard := some (3, true) }) (v := ?_) rfl (by kernel_rfl) (by kernel_rfl) (by kernel_rfl) (fun _ _ _ h => h) (Or.inl ⟨by rfl, ?_⟩) (by assumption) ?_
    rotate_left
    · intro w9 hSw; (try dsimp only at hSw); go_simp; try (with_reducible rfl)
    try simp only [Act.put, List.setIfInBounds_toArray, List.set_cons_zero, List.set_cons_succ]
    refine wpAnyH_take (i := 13) (oi := { dst := some 20, op := Op.pick (Operand.tmp 10) (Operand.tmp 19) (Operand.const (Value.bool false)), type := 4, pos := "order.go:155", after := #[{ on := 3, ground := Ground.data }, { on := 12, ground := Ground.data }], guard := none }) (v := ?_) rfl (by kernel_rfl) (by kernel_rfl) (by kernel_rfl) (fun _ _ _ h => h) (Or.inl ⟨by rfl, ?_⟩) (by assumption) ?_
    rotate_left
    · intro w9 hSw; (try dsimp only at hSw); go_simp; try (with_reducible rfl)
    try simp only [Act.put, List.setIfInBounds_toArray, List.set_cons_zero, List.set_cons_succ]
    refine wpAnyH_ready (rs := [14]) (by kernel_rfl) (by simp) ?_
    refine AllReadyH.cons (o := { dst := some 6, op := Op.assign (Operand.tmp 20), type := 4, pos := "order.go:155", after := #[{ on := 13, ground := Ground.data }, { on := 7, ground := Ground.chain }, { on := 0, ground := Ground.phase }, { on := 1, ground := Ground.phase }, { on := 2, ground := Ground.phase }, { on := 3, ground := Ground.phase }, { on := 4, ground := Ground.phase }, { on := 5, ground := Ground.phase }, { on := 6, ground := Ground.phase }, { on := 7, ground := Ground.phase }, { on := 8, ground := Ground.phase }, { on := 9, ground := Ground.phase }, { on := 10, ground := Ground.phase }, { on := 11, ground := Ground.phase }, { on := 12, ground := Ground.phase }, { on := 13, ground := Ground.phase }], guard := none }) rfl (fun K hK => ?_) AllReadyH.nil
    go_simp
    refine hK.out _ _ ?_ (fun hHeld16 => ?_)
    · (try dsimp only); go_keep
    clear hK K
    try simp only [Act.put, List.setIfInBounds_toArray, List.set_cons_zero, List.set_cons_succ]
    refine wpAnyH_done (by kernel_rfl) ?_ _
    have HR := HB5
    go_wp2
    go_ret
    exact ⟨ret_bool (by simp [hrf]), HR.out⟩
end Go.Proofs.Ytfeempgoejnfdaa.Ord
