/- lines.rows: the walk. -/
import Derived.Test.YtkjghjffdjjedaaDoorRws
import Derived.Lib.Hide
import Derived.Maps.AppendAt
set_option linter.unusedVariables false
set_option linter.unusedSimpArgs false
namespace Go.Proofs.YtkjghjffdjjedaaDoor.Enc
open Go Go.RowKit Go.Lib Go.Proofs Go.Shelf Go.Proofs.YtkjghjffdjjedaaDoorW.PrintWords Go.Proofs.YtkjghjffdjjedaaDoorW.PrintLast
attribute [local go_sem] Oper.semAt_some
/-- between two rounds of rows -/
structure RI (B n0 : Nat) (w : World) (pre : List Sh) (W : World) : Prop where
  out : ∃ v rows, Boxed W (B + 2) 27 v ∧ Rws n0 W v rows ∧ ∀ rest, goR (pre.map (·.1) ++ rest) 0 [] = goR rest pre.length rows
  r1 : Boxed W B 27 (.slice none 0 0)
  r2 : Boxed W (B + 1) 38 .nilIface
  num : Boxed W (B + 3) 3 (.int .i64 pre.length)
  below : Below B w W
/-- a round of rows has found a line that is none -/
structure RX (B : Nat) (w : World) (c : Code) (pre : List Sh) (W : World) : Prop where
  ret : c = .ret
  bad : ∀ rest, goR (pre.map (·.1) ++ rest) 0 [] = .inr pre.length
  r1 : Boxed W B 27 (.slice none 0 0)
  r2 : ∃ g, B ≤ g ∧ Boxed W (B + 1) 38 (.iface 50 (.pointer (some ⟨g, 0, none⟩))) ∧ W.heap[g]? = some (.cells #[.int .i64 pre.length, .iface 22 (.int .i64 20)] 55 (0, 0))
  below : Below B w W
/-- what rows answers -/
def RowsRes (w : World) (s : ByteArray) (e : Ending) (w' : World) : Prop := match rowsF s with
  | .inl rows => ∃ v, e = .returned (.tuple #[v, .nilIface]) ∧ Rws w.heap.size w' v rows
  | .inr n => ∃ g, w.heap.size ≤ g ∧ e = .returned (.tuple #[.slice none 0 0, .iface 50 (.pointer (some ⟨g, 0, none⟩))]) ∧ w'.heap[g]? = some (.cells #[.int .i64 n, .iface 22 (.int .i64 20)] 55 (0, 0))
theorem lines_call (s : ByteArray) (w : World) : Calls Tryd.prog 32 #[.string s] w fun e w' => e = .returned (.func (.func 49) #[] #[.pointer (some ⟨w.heap.size, 0, none⟩)]) ∧ w' = w.alloc (.cells #[.string s] 9) := by
  have hu9 := Tryd.underlying9
  go_enter Tryd.func32, Tryd.ntmps32
  go_wp2_with fail
  go_ret
  exact ⟨rfl, rfl⟩
theorem boxed_drew {W : World} {b : Nat} {t : TypeId} {v : Value} (h : Boxed W b t v) : Boxed W.drew b t v := h
theorem hs_drew {W : World} {g : Nat} {x : Option Obj} (h : W.heap[g]? = x) : W.drew.heap[g]? = x := h
theorem hs_set {W : World} {g b : Nat} {x : Option Obj} (v : Value) (h : W.heap[g]? = x) (hne : b ≠ g) : (W.setCell ⟨b, 0, none⟩ v).heap[g]? = x := (Below.heap_setCell _ _ _ _ (fun e => by simp only at e; omega)).trans h
theorem hs_new {W : World} {g : Nat} {o : Obj} (h : W.heap.size = g) : (W.alloc o).heap[g]? = some o := by subst h; exact World.alloc_heap_new W o
theorem infoS : (Tryd.prog.info? 9).map (fun i => (i.zero, i.size, i.bytes)) = some (some (.string ⟨#[]⟩), 1, 16) := by kernel_rfl
theorem infoR : (Tryd.prog.info? 35).map (fun i => (i.zero, i.size, i.bytes)) = some (some (.slice none 0 0), 1, 24) := by kernel_rfl
/-- on the way to a return: the two answers' boxes, and maybe a new block -/
structure Ph (B : Nat) (w w3 : World) (u0 u1 : Value) (g : Option Obj) (W : World) : Prop where
  keeps : KeepsOthers w3 W
  b0 : Boxed W B 27 u0
  b1 : Boxed W (B + 1) 38 u1
  ob : ∀ o, g = some o → W.heap[w3.heap.size]? = some o
  no : g = none → W.heap.size = w3.heap.size
  sz : w3.heap.size ≤ W.heap.size
  lo : B + 1 < w3.heap.size
  be : Below B w W
theorem Ph.start {B : Nat} {w w3 : World} {u0 u1 : Value} (h0 : Boxed w3 B 27 u0) (h1 : Boxed w3 (B + 1) 38 u1) (hb : Below B w w3) : Ph B w w3 u0 u1 none w3 :=
  ⟨KeepsOthers.refl _, h0, h1, fun o e => (by cases e), fun _ => rfl, Nat.le_refl _, h1.lt, hb⟩
theorem Ph.set0 {B : Nat} {w w3 W : World} {v0 u1 : Value} {g : Option Obj} (h : Ph B w w3 v0 u1 g W) (u0 : Value) : Ph B w w3 u0 u1 g (W.setCell ⟨B, 0, none⟩ u0) :=
  ⟨h.keeps.trans (KeepsOthers.setCell _ _ _), h.b0.set _, h.b1.other (by omega) _, fun o e => hs_set _ (h.ob o e) (by have := h.lo; omega), fun e => by rw [World.size_setCell]; exact h.no e, by rw [World.size_setCell]; exact h.sz, h.lo, h.be.setCell (p := ⟨B, 0, none⟩) (Nat.le_refl _) _⟩
theorem Ph.set1 {B : Nat} {w w3 W : World} {u0 v1 : Value} {g : Option Obj} (h : Ph B w w3 u0 v1 g W) (u1 : Value) : Ph B w w3 u0 u1 g (W.setCell ⟨B + 1, 0, none⟩ u1) :=
  ⟨h.keeps.trans (KeepsOthers.setCell _ _ _), h.b0.other (by omega) _, h.b1.set _, fun o e => hs_set _ (h.ob o e) (by have := h.lo; omega), fun e => by rw [World.size_setCell]; exact h.no e, by rw [World.size_setCell]; exact h.sz, h.lo, h.be.setCell (p := ⟨B + 1, 0, none⟩) (Nat.le_succ _) _⟩
theorem Ph.new {B : Nat} {w w3 W : World} {u0 u1 : Value} (h : Ph B w w3 u0 u1 none W) (o : Obj) : Ph B w w3 u0 u1 (some o) (W.alloc o) :=
  ⟨h.keeps.trans (KeepsOthers.alloc _ _), h.b0.alloc _, h.b1.alloc _, fun o' e => by cases e; exact hs_new (h.no rfl), fun e => (by cases e), by rw [World.size_alloc]; have := h.sz; omega, h.lo, h.be.alloc (by have := h.sz; have := h.lo; omega) _⟩
theorem Ph.drew {B : Nat} {w w3 W : World} {u0 u1 : Value} {g : Option Obj} (h : Ph B w w3 u0 u1 g W) : Ph B w w3 u0 u1 g W.drew :=
  ⟨h.keeps.trans (KeepsOthers.drew _), h.b0, h.b1, h.ob, h.no, h.sz, h.lo, h.be.drew⟩
theorem Ph.fin {B n : Nat} {k : Int} {w W0 w3 W : World} {c : Code} {pre : List Sh} (h : Ph B w w3 (.slice none 0 0) (.iface 50 (.pointer (some ⟨w3.heap.size, 0, none⟩))) (some (.cells #[.int .i64 k, .iface 22 (.int .i64 20)] 55 (0, 0))) W) (hn : ((pre.length : Nat) : Int) = k)
    (hk : KeepsFrom n W0 w3) (hc : c = .ret) (hbad : ∀ rest, goR (pre.map (·.1) ++ rest) 0 [] = .inr pre.length) : KeepsFrom n W0 W ∧ RX B w c pre W :=
  ⟨hk.trans (h.keeps.from _), hc, hbad, h.b0, ⟨w3.heap.size, by have := h.lo; omega, h.b1, by rw [hn]; exact h.ob _ rfl⟩, h.be⟩
theorem goR_length : ∀ (ls : List ByteArray) (n : Nat) (acc rows : List (List ByteArray)), goR ls n acc = .inl rows → rows.length = acc.length + ls.length := by
  intro ls
  induction ls with
  | nil => intro n acc rows h; simp only [goR, Sum.inl.injEq] at h; subst h; rfl
  | cons l ls ih =>
    intro n acc rows h
    unfold goR at h
    split at h
    · have := ih _ _ _ h; simp at this ⊢; omega
    · cases h
theorem linesN_length : ∀ (m : Nat) (s : ByteArray), (linesN m s).length ≤ m := by
  intro m
  induction m with
  | zero => intro s; exact Nat.le_refl _
  | succ m ih =>
    intro s
    unfold linesN
    split
    · simp
    · split
      · simp
      · simpa using ih _
theorem sizes_get (l : List ByteArray) (j : Nat) : (l.getD j ByteArray.empty).size ≤ sizes l := by
  induction l generalizing j with
  | nil => simp
  | cons p l ih =>
    rw [sizes_cons]
    cases j with
    | zero => simp
    | succ j => have := ih j; simp only [List.getD_cons_succ]; omega
theorem comma_length (t : ByteArray) : (commaB t).length = countB t ⟨#[44]⟩ + 1 := splitB_all ⟨#[44]⟩ (Nat.le_refl 1) 0 _ t rfl
theorem comma_le (t : ByteArray) : (commaB t).length ≤ t.size + 1 := by rw [comma_length]; have := countB_le ⟨#[44]⟩ (Nat.le_refl 1) t.size t (Nat.le_refl _); omega
theorem split_comma (t : ByteArray) (m : Int) (w : World) (hs : t.size < 4294967281) (hm : w.cell? ⟨4, 0, none⟩ = some (.int .i64 m)) :
    Calls Tryd.prog 34 #[.string t, .string ⟨#[44]⟩] w fun e w' => e = .returned (.slice (some ⟨w.heap.size, 0, none⟩) (commaB t).length (commaB t).length) ∧ w' = w.alloc (.cells ((commaB t).map Value.string).toArray 9) := by
  rw [comma_length]
  exact Tryd.strings_Split t ⟨#[44]⟩ m w hs hm (Nat.le_refl 1)
theorem own_mono {W : World} {b b' : Nat} {e : TypeId} {s n : Nat} {v : Value} {xs : List Value} (h : W.ownsRow b e s v n xs) (hb : b' ≤ b) : W.ownsRow b' e s v n xs := by
  refine ⟨h.1, ?_⟩
  rcases h.2 with h2 | ⟨g, cap, cur, hv, hg, r⟩
  · exact .inl h2
  · exact .inr ⟨g, cap, cur, hv, Nat.le_trans hb hg, r⟩
theorem Rws.mono {b b' : Nat} {W : World} {v : Value} {rows : List (List ByteArray)} (h : Rws b W v rows) (hb : b' ≤ b) : Rws b' W v rows := by
  obtain ⟨hs, h1, h2, h3⟩ := h
  exact ⟨hs, h1, own_mono h2 hb, fun i h r hi hq => own_mono (h3 i h r hi hq) hb⟩
theorem Rws.form {b : Nat} {W : World} {v : Value} {rows : List (List ByteArray)} (h : Rws b W v rows) : ∃ A n c, v = .slice A n c := by
  obtain ⟨hs, h1, h2, h3⟩ := h
  rcases h2.2 with ⟨hv, _⟩ | ⟨g, cap, cur, hv, _⟩
  · exact ⟨_, _, _, hv⟩
  · exact ⟨_, _, _, hv⟩
theorem app_low {W W' : World} {o : Obj} {n0 e s n : Nat} {v : Value} {xs : List Value} (h : W.ownsRow n0 e s v n xs) (hg : (W.alloc o).grownBy W' v.ownBlock) {k : Nat} (hk : k < n0) (hl : k < W.heap.size) : W'.heap[k]? = W.heap[k]? :=
  (hg.block k (by simp; omega) (fun e => by have := (h.lt k e.symm).1; omega)).trans (Below.heap_alloc _ _ _ (by omega))
theorem app_box {W W' : World} {o : Obj} {n0 e s n : Nat} {v : Value} {xs : List Value} (h : W.ownsRow n0 e s v n xs) (hg : (W.alloc o).grownBy W' v.ownBlock) {k : Nat} {t : TypeId} {u : Value} (hb : Boxed W k t u) (hk : k < n0) : Boxed W' k t u :=
  (app_low h hg hk hb.lt).trans hb
theorem own_form {W : World} {n0 e s n : Nat} {v : Value} {xs : List Value} (h : W.ownsRow n0 e s v n xs) : ∃ A k c, v = .slice A k c := by
  rcases h.2 with ⟨hv, _⟩ | ⟨g, cap, cur, hv, _⟩
  · exact ⟨_, _, _, hv⟩
  · exact ⟨_, _, _, hv⟩
theorem ri_snoc {B n : Nat} {k : Int} {w W wr w4 : World} {pre : List Sh} {x : Sh} {v v' hv : Value} {rows : List (List ByteArray)} {r : List ByteArray} {hs : List Value} {o : Obj}
    (g1 : Boxed wr (B + 2) 27 v) (h1 : hs.length = rows.length) (h2 : wr.ownsRow (B + 5) 35 1 v rows.length hs)
    (h3 : ∀ (i : Nat) (h : Value) (r : List ByteArray), hs[i]? = some h → rows[i]? = some r → wr.ownsRow (B + 5) 9 1 h r.length (r.map Value.string)) (hw : wr.ownsRow (B + 5) 9 1 hv r.length (r.map Value.string))
    (h0 : ∀ rest, goR (pre.map (·.1) ++ rest) 0 [] = goR rest pre.length rows) (hr : rowL x.1 = some r)
    (g4 : Boxed wr B 27 (.slice none 0 0)) (g5 : Boxed wr (B + 1) 38 .nilIface) (g6 : Boxed wr (B + 3) 3 (.int .i64 k)) (hk : (((pre ++ [x]).length : Nat) : Int) = k)
    (hbw : Below B w wr) (kf : KeepsFrom n W wr) (gk : KpBox (B + 4) W wr) (h45 : B + 4 < wr.heap.size) (hBw : B ≤ wr.heap.size)
    (hown : w4.ownsRow (B + 5) 35 1 v' (rows.length + 1) (hs ++ [hv])) (hg : (wr.alloc o).grownBy w4 v.ownBlock) :
    KeepsFrom n W (w4.setCell ⟨B + 2, 0, none⟩ v') ∧ KpBox (B + 4) W (w4.setCell ⟨B + 2, 0, none⟩ v') ∧ RI B (B + 5) w (pre ++ [x]) (w4.setCell ⟨B + 2, 0, none⟩ v') := by
  have bx : ∀ {q t u}, Boxed wr q t u → q < B + 5 → Boxed w4 q t u := fun hb hq => app_box h2 hg hb hq
  refine ⟨kf.trans (KeepsFrom.trans ⟨?_, ?_⟩ ((KeepsOthers.setCell _ _ _).from _)), ?_, ?_, (bx g4 (by omega)).other (by omega) _, (bx g5 (by omega)).other (by omega) _, ?_, ?_⟩
  · exact Nat.le_trans (by simp) hg.size
  · intro q ob _ hq hc
    refine (hg.block q ?_ ?_).trans ((Below.heap_alloc _ _ _ ?_).trans hq)
    · have := (Array.getElem?_eq_some_iff.1 hq).1; simp; omega
    · intro e
      rcases h2.2 with ⟨rfl, _⟩ | ⟨g, cap, cur, rfl, _, hgc, _⟩
      · simp [Value.ownBlock] at e
      · simp only [Value.ownBlock, Option.some.injEq] at e
        subst e
        rw [hgc] at hq; cases hq; cases hc
    · have := (Array.getElem?_eq_some_iff.1 hq).1; omega
  · show _ = _
    rw [hs_set (x := w4.heap[B + 4]?) v' rfl (by omega), app_low h2 hg (by omega) h45]; exact gk
  · refine ⟨v', rows ++ [r], (bx g1 (by omega)).set _, ?_, fun rest => ?_⟩
    · exact (Rws.snoc h1 (h2.alloc o) (fun i h q hi hq => (h3 i h q hi hq).alloc o) (hw.alloc o) hown hg).set (by omega) 0 v'
    · rw [List.map_append, List.append_assoc, h0]
      simp [goR, hr]
  · rw [hk]; exact (bx g6 (by omega)).other (by omega) _
  · exact ((hbw.alloc hBw o).grown hg (by have := hBw; simp; omega) (fun q hq => by have := (h2.lt q hq).1; omega)).setCell (p := ⟨B + 2, 0, none⟩) (by simp) _
set_option maxHeartbeats 4000000 in
set_option maxRecDepth 100000 in
theorem rows_walk (s : ByteArray) (m : Int) (w : World) (hs : s.size < 4294967281) (hm : w.cell? ⟨4, 0, none⟩ = some (.int .i64 m)) :
    Calls Tryd.prog 25 #[.string s] w fun e w' => RowsRes w s e w' ∧ Below w.heap.size w w' := by
  refine (callsIn_wide (n := 4)).1 ?_
  refine callsIn_of_wp_marks Tryd.func25 rfl trivial ?_ rfl
  simp only [Tryd.ntmps25, List.size_toArray, List.length_cons, List.length_nil, Nat.reduceAdd, Nat.reduceSub, Array.replicate_succ, Array.replicate_zero, List.push_toArray, List.append_toArray, List.nil_append, List.cons_append]
  gi_wp2_with (refine ⟨trivial, ?_⟩; gi_at_call 32; refine (callsIn_wide.2 (lines_call s _)).mono ?_; rintro e w' ⟨rfl, rfl⟩)
  obtain ⟨W0, hW0⟩ : ∃ W0, W0 = (((((w.alloc (Obj.cells #[Value.slice none 0 0] 27)).alloc (Obj.cells #[Value.nilIface] 38)).alloc (Obj.cells #[Value.slice none 0 0] 27)).alloc (Obj.cells #[Value.int IntKind.i64 0] 3)).alloc (Obj.cells #[Value.string s] 9)) := ⟨_, rfl⟩
  rw [← hW0]
  obtain ⟨B, hB⟩ : ∃ B, B = w.heap.size := ⟨_, rfl⟩
  have hz0 : W0.heap.size = B + 5 := by rw [hW0, hB]; simp
  have hb2 : Boxed W0 B 27 (.slice none 0 0) := by rw [hW0, hB]; exact ((((Boxed.new w 27 _).alloc _).alloc _).alloc _).alloc _
  have hb3 : Boxed W0 (B + 1) 38 .nilIface := by
    have h := ((((Boxed.new (w.alloc (Obj.cells #[Value.slice none 0 0] 27)) 38 .nilIface).alloc (Obj.cells #[Value.slice none 0 0] 27)).alloc (Obj.cells #[Value.int IntKind.i64 0] 3)).alloc (Obj.cells #[Value.string s] 9))
    rw [World.size_alloc, ← hB] at h; rw [hW0]; exact h
  have hb4 : Boxed W0 (B + 2) 27 (.slice none 0 0) := by
    have h := (((Boxed.new ((w.alloc (Obj.cells #[Value.slice none 0 0] 27)).alloc (Obj.cells #[Value.nilIface] 38)) 27 (.slice none 0 0)).alloc (Obj.cells #[Value.int IntKind.i64 0] 3)).alloc (Obj.cells #[Value.string s] 9))
    rw [World.size_alloc, World.size_alloc, ← hB] at h; rw [hW0]; exact h
  have hb5 : Boxed W0 (B + 3) 3 (.int .i64 0) := by
    have h := ((Boxed.new (((w.alloc (Obj.cells #[Value.slice none 0 0] 27)).alloc (Obj.cells #[Value.nilIface] 38)).alloc (Obj.cells #[Value.slice none 0 0] 27)) 3 (.int .i64 0)).alloc (Obj.cells #[Value.string s] 9))
    rw [World.size_alloc, World.size_alloc, World.size_alloc, ← hB] at h; rw [hW0]; exact h
  have hb6 : Boxed W0 (B + 4) 9 (.string s) := by
    have h := (Boxed.new ((((w.alloc (Obj.cells #[Value.slice none 0 0] 27)).alloc (Obj.cells #[Value.nilIface] 38)).alloc (Obj.cells #[Value.slice none 0 0] 27)).alloc (Obj.cells #[Value.int IntKind.i64 0] 3)) 9 (.string s))
    rw [World.size_alloc, World.size_alloc, World.size_alloc, World.size_alloc, ← hB] at h; rw [hW0]; exact h
  have hBw : Below B w W0 := by
    rw [hW0, hB]; exact ((((((Below.refl _ w).alloc (Nat.le_refl _) _).alloc (by simp) _).alloc (by simp; omega) _).alloc (by simp; omega) _).alloc (by simp; omega) _)
  rw [← hB]
  clear hW0
  have HB := Lib.hid hB
  clear hB
  simp only [Nat.add_assoc, Nat.reduceAdd]
  refine wpIn_rangeFunc_box rfl (by omega) (gf := 49) (lb := #[.pointer (some ⟨B + 4, 0, none⟩)]) rfl trivial (enters_of Tryd.func49 (by kernel_rfl) rfl) (B + 4) (by omega) (lines_box (B + 4) s W0 hb6 hs)
    (fun h k => k.trans h) (fun W l o o' hl h _ _ => World.putObj_heap_other (by omega)) (Below.refl _ _) (fun _ => rfl)
    (RI B (B + 5) w) (fun c pre W => RX B w c pre W) ?own ?ownx ?box ?start
    (fun x a' _ => a' = { tmps := #[.string s, undef, .pointer (some ⟨B, 0, none⟩), .pointer (some ⟨B + 1, 0, none⟩), .pointer (some ⟨B + 2, 0, none⟩), .pointer (some ⟨B + 3, 0, none⟩), .string x.1, undef, undef, undef, undef, undef, undef, undef, .string s, .func (.func 49) #[] #[.pointer (some ⟨B + 4, 0, none⟩)], .string x.1, undef, undef, undef, undef, undef, undef, undef, undef, undef, undef, undef, undef, undef, undef, undef, undef, undef, undef, undef, undef, undef, undef, undef, undef, undef, undef, undef, undef, undef, undef, undef, undef, undef, undef, undef, undef, undef, undef, undef, undef, undef, undef, undef], defers := [] }) (fun _ _ _ _ _ _ hs _ _ => hs) ?assign ?body ?done ?stop
  case own =>
    rintro pre X Y row ⟨⟨v, rows, h1, h2, h3⟩, h4, h5, h6, h7⟩ hg hr
    have hr' : ∀ r, row = some r → ∃ o : Obj, X.heap[r]? = some o ∧ o.isCells = false := fun r e => (hr r e).2
    have bx : ∀ {B' t u}, Boxed X B' t u → Boxed Y B' t u := fun hb => hb.kept hg (fun e => by obtain ⟨o, ho, hc⟩ := hr' _ e.symm; rw [show X.heap[_]? = _ from hb] at ho; cases ho; cases hc)
    exact ⟨⟨v, rows, bx h1, h2.own hg hr', h3⟩, bx h4, bx h5, bx h6, (ownFrom_below (β := Unit) (n₀ := B) (w₀ := w) (by rw [HB.out]; exact Nat.le_refl _) (by omega)) () X Y row h7 hg hr⟩
  case ownx =>
    rintro c pre X Y row ⟨h1, h2, h3, ⟨g, hg0, h4, h5⟩, h6⟩ hg hr
    have hr' : ∀ r, row = some r → ∃ o : Obj, X.heap[r]? = some o ∧ o.isCells = false := fun r e => (hr r e).2
    have bx : ∀ {B' t u}, Boxed X B' t u → Boxed Y B' t u := fun hb => hb.kept hg (fun e => by obtain ⟨o, ho, hc⟩ := hr' _ e.symm; rw [show X.heap[_]? = _ from hb] at ho; cases ho; cases hc)
    have h5' : Y.heap[g]? = some (.cells #[.int .i64 pre.length, .iface 22 (.int .i64 20)] 55 (0, 0)) :=
      (hg.block g (Array.getElem?_eq_some_iff.1 h5).1 (fun e => by obtain ⟨o, ho, hc⟩ := hr' _ e.symm; rw [h5] at ho; cases ho; cases hc)).trans h5
    exact ⟨h1, h2, bx h3, ⟨g, hg0, bx h4, h5'⟩, (ownFrom_below (β := Unit) (n₀ := B) (w₀ := w) (by rw [HB.out]; exact Nat.le_refl _) (by omega)) () X Y row h6 hg hr⟩
  case box =>
    rintro pre X u ⟨⟨v, rows, h1, h2, h3⟩, h4, h5, h6, h7⟩
    exact ⟨⟨v, rows, h1.other (by omega) u, h2.set (by omega) 0 u, h3⟩, h4.other (by omega) u, h5.other (by omega) u, h6.other (by omega) u, h7.setCell (p := ⟨B + 4, 0, none⟩) (by simp) u⟩
  case start => exact ⟨⟨_, [], hb4, Rws.nil _ _, fun rest => rfl⟩, hb2, hb3, hb5, hBw⟩
  case assign =>
    intro l pre x W K hi hK
    gi_wp2
    exact hK _ _ (KeepsFrom.refl _ _) rfl hi rfl
  case body =>
    rintro l pre x a' W hl hr ⟨⟨v, rows, h1, h2, h3⟩, h4, h5, h6, h7⟩ rfl hlt
    have hpl : pre.length < 4294967281 := by have h := linesN_length s.size s; unfold linesB at hlt; omega
    have hwr : IntKind.i64.wrap ((pre.length : Int) + 1) = ((pre.length + 1 : Nat) : Int) := by rw [IntKind.wrap_i64]; omega
    have c6 := h6.cell
    have f6 := h6.frozen
    obtain ⟨xs, hxs⟩ := x
    have hcs : (cutLf xs).size ≤ xs.size := by
      have e : (cutLf xs).size = (Lib.trimSuffix xs.data.toList [10]).length := by simp [cutLf, ByteArray.size]
      rw [e]
      unfold Lib.trimSuffix
      split
      · rw [List.length_take]; have e2 : xs.data.toList.length = xs.size := by simp
        omega
      · simp
    have hcut : ∀ k W', CallsIn (Fence.wide.inRound l) k Tryd.prog 33 #[.string xs, .string ⟨#[10]⟩] W' fun e w' => e = .returned (.tuple #[.string (cutLf xs), .bool (Lib.hasSuffix xs.data.toList [10])]) ∧ w' = W' := fun k W' => CallsIn.inRound l (callsIn_wide.2 (cut_lf xs W' (by omega)))
    have HCS := Lib.hid hcs
    clear hcs
    gi_wp2_with (refine ⟨trivial, ?_⟩; gi_at_call 33; refine (hcut _ _).mono ?_; rintro e w' ⟨rfl, hw'⟩; rw [hw']; clear hw' w')
    refine ⟨trivial, ?_⟩
    obtain ⟨W1, hW1⟩ : ∃ W1, W1 = W.setCell ⟨B + 3, 0, none⟩ (.int .i64 ((pre.length : Int) + 1)) := ⟨_, rfl⟩
    rw [← hW1]
    have g1 : Boxed W1 (B + 2) 27 v := by rw [hW1]; exact h1.other (by omega) _
    have g2 : Rws (B + 5) W1 v rows := by rw [hW1]; exact h2.set (by omega) 0 _
    have g4 : Boxed W1 B 27 (.slice none 0 0) := by rw [hW1]; exact h4.other (by omega) _
    have g5 : Boxed W1 (B + 1) 38 .nilIface := by rw [hW1]; exact h5.other (by omega) _
    have g6 : Boxed W1 (B + 3) 3 (.int .i64 ((pre.length : Int) + 1)) := by rw [hW1]; exact h6.set _
    have g7 : Below B w W1 := by rw [hW1]; exact h7.setCell (p := ⟨B + 3, 0, none⟩) (by simp) _
    have gk : KpBox (B + 4) W W1 := by rw [hW1]; exact Below.heap_setCell _ _ _ _ (fun e => by simp only at e; omega)
    have gf : KeepsFrom W0.heap.size W W1 := by rw [hW1]; exact (KeepsOthers.setCell _ _ _).from _
    have g8 : W1.cell? ⟨4, 0, none⟩ = some (.int .i64 m) := (g7.cell (p := ⟨4, 0, none⟩) (by rw [HB.out]; exact World.block_lt_of_cell? w _ hm)).trans hm
    have hz1 : W0.heap.size ≤ W1.heap.size := by have := h1.lt; have h8 := g6.lt; have h9 := (Array.getElem?_eq_some_iff.1 hr.choose_spec).1; have := gf.size; omega
    clear h1 h2 h4 h5 h6 h7 c6 f6
    have hps := comma_le (cutLf xs)
    have hcs2 := HCS.out
    have hpz : sizes (commaB (cutLf xs)) ≤ (cutLf xs).size := splitB_sizes _ _ _
    have hrl : rowL xs = if hasSuffix xs.data.toList [10] then fldsF (commaB (cutLf xs)) else none := rfl
    refine (CallsIn.inRound l (callsIn_wide.2 (split_comma (cutLf xs) m W1 (by omega) g8))).mono ?_
    rintro e w2 ⟨rfl, hw2⟩
    generalize hpse : commaB (cutLf xs) = ps at *
    generalize hasSuffix xs.data.toList [10] = wh at *
    obtain ⟨nb, hnb⟩ : ∃ nb, nb = W1.heap.size := ⟨_, rfl⟩
    rw [← hnb]
    have hz2 : w2.heap.size = nb + 1 := by rw [hw2, hnb]; simp
    have hc2 : ∀ j, j < ps.length → w2.cell? ⟨nb, j, none⟩ = some (.string (ps.getD j ByteArray.empty)) := fun j hj => by
      rw [hw2, hnb, World.cell?, heap_alloc_new]
      simp [hj]
    have hb2' : Below nb W1 w2 := by rw [hw2, hnb]; exact (Below.refl _ _).alloc (Nat.le_refl _) _
    have HNB := Lib.hid hnb
    clear hnb
    have HW2 := Lib.hid hw2
    have HC2 := Lib.hid hc2
    have HB2 := Lib.hid hb2'
    have HPSE := Lib.hid hpse
    have HRL := Lib.hid hrl
    have HW1 := Lib.hid hW1
    clear hw2 hc2 hb2' hpse hrl hW1
    gi_wp2
    gi_loopw [9, 27] (fun r i wr => ∃ j acc, j ≤ ps.length ∧ i = .int .i64 j ∧ fldsF ps = (fldsF (ps.drop j)).map (acc ++ ·) ∧ acc.length = j ∧ wr.ownsRow (nb + 1) 9 1 r j (acc.map Value.string) ∧ Below (nb + 1) w2 wr) (fun r i _ => ps.length - (RowKit.intOf i).toNat)
    case atStart => exact ⟨0, [], Nat.zero_le _, rfl, by rw [List.drop_zero]; cases fldsF ps <;> simp, rfl, World.ownsRow_nil _ _ _ _, Below.refl _ _⟩
    case round =>
      obtain ⟨j, acc, hj, rfl, hfl, hal, hrow, hbe⟩ := hrel
      by_cases hjl : j < ps.length
      · have hcj := (hbe.cell (p := ⟨nb, j, none⟩) (by simp)).trans (HC2.out j hjl)
        have hpz2 := sizes_get ps j
        have hdr : ps.drop j = ps.getD j ByteArray.empty :: ps.drop (j + 1) := by
          rw [List.drop_eq_getElem_cons hjl, List.getD_eq_getElem?_getD, List.getElem?_eq_getElem hjl]; rfl
        rw [hdr] at hfl
        generalize ps.getD j ByteArray.empty = p at *
        have hji : (j : Int) < (ps.length : Int) := by omega
        have hg4 : wr.cell? ⟨4, 0, none⟩ = some (.int .i64 m) := by
          have hlt4 : 4 < W1.heap.size := World.block_lt_of_cell? W1 _ g8
          have e1 := (HB2.out.cell (p := ⟨4, 0, none⟩) (by rw [HNB.out]; exact hlt4)).trans g8
          exact (hbe.cell (p := ⟨4, 0, none⟩) (by simp only; rw [HNB.out]; omega)).trans e1
        have hfw := fun k => CallsIn.inRound (F := Fence.wide) (n := k) l (callsIn_wide.2 (field_walk p m wr (by omega) hg4))
        have HFL := Lib.hid hfl
        have HBE := Lib.hid hbe
        have HDR := Lib.hid hdr
        clear hfl hbe hdr
        gi_wp2_with (refine ⟨trivial, ?_⟩; gi_at_call 35; refine (hfw _).mono ?_)
        rintro e w3 ⟨hF, hB3⟩
        have hrow3 := own_move hrow (fun k hk => hB3.block _ (own_lt hrow k hk))
        have hbe3 : Below (nb + 1) w2 w3 := HBE.out.trans (hB3.mono (by have := HBE.out.size; omega))
        clear hrow
        unfold FRes at hF
        cases hff : fieldF p with
        | none =>
          rw [hff] at hF
          dsimp only at hF
          subst hF
          have hBB : Below nb W1 w3 := HB2.out.trans (hbe3.mono (by omega))
          have bx : ∀ {b' t u}, Boxed W1 b' t u → Boxed w3 b' t u := fun hb => (hBB.block _ (by rw [HNB.out]; exact hb.lt)).trans hb
          have k4 := bx g4
          have k5 := bx g5
          have k6 := bx g6
          have c4 := k4.cell
          have c5 := k5.cell
          have c6 := k6.cell
          have f4 := k4.frozen
          have f5 := k5.frozen
          have hBB2 : Below B W1 w3 := hBB.mono (by have := g6.lt; have := HNB.out; omega)
          have HR3 := Lib.hid hrow3
          have HBE3 := Lib.hid hbe3
          have HB3 := Lib.hid hB3
          have HBB := Lib.hid hBB
          have K4 := Lib.hid k4
          have K5 := Lib.hid k5
          have K6 := Lib.hid k6
          have HBB2 := Lib.hid hBB2
          clear hrow3 hbe3 hB3 hBB k4 k5 k6 hBB2
          have lB0 := K4.out.lt
          have lB1 := K5.out.lt
          have lB3 := K6.out.lt
          have hmix : Tryd.prog.follows .mixedOrders = true := by kernel_rfl
          have hu55 := Tryd.underlying55
          have hu50 := Tryd.underlying50
          gi_wp2
          have hfn : fldsF ps = none := by rw [HFL.out, fldsF, hff]; rfl
          have hrn : rowL xs = none := by rw [HRL.out, hfn]; cases wh <;> rfl
          have hbad : ∀ rest, goR ((pre ++ [(⟨xs, hxs⟩ : Sh)]).map (·.1) ++ rest) 0 [] = .inr (pre ++ [(⟨xs, hxs⟩ : Sh)]).length := fun rest => by
            rw [List.map_append, List.append_assoc, h3]
            simp [goR, hrn]
          have hlp : (((pre ++ [(⟨xs, hxs⟩ : Sh)]).length : Nat) : Int) = (pre.length : Int) + 1 := by simp
          have kf3 : KeepsFrom W0.heap.size W1 w3 := ⟨HBB.out.size, fun k o _ h0 _ => (HBB.out.block k (by rw [HNB.out]; exact (Array.getElem?_eq_some_iff.1 h0).1)).trans h0⟩
          have kf := gf.trans kf3
          have hbw3 : Below B w w3 := g7.trans HBB2.out
          have HFN := Lib.hid hfn
          have HRN := Lib.hid hrn
          have HBAD := Lib.hid hbad
          have HLP := Lib.hid hlp
          have KF3 := Lib.hid kf3
          have KF := Lib.hid kf
          have HBW3 := Lib.hid hbw3
          clear hfn hrn hbad hlp kf3 kf hbw3
          gi_region_with_o (fail)
          all_goals clear c4 c5 c6 f4 f5
          all_goals gi_wp2
          all_goals refine Ph.fin (k := (pre.length : Int) + 1) ?_ HLP.out KF.out rfl HBAD.out
          all_goals ((repeat' first | with_reducible refine Ph.new ?_ _ | with_reducible refine Ph.drew ?_ | with_reducible refine Ph.set1 (v1 := .nilIface) ?_ _ | with_reducible refine Ph.set0 (v0 := .slice none 0 0) ?_ _); with_reducible exact Ph.start K4.out K5.out HBW3.out)
        | some t =>
          rw [hff] at hF
          dsimp only at hF
          subst hF
          obtain ⟨i0, hi0, hz0', hz1', hz2'⟩ := info_parts infoS
          have HBE3 := Lib.hid hbe3
          have HB3 := Lib.hid hB3
          clear hbe3 hB3
          gi_wp2_with (gi_at_builtin; refine wpListIn_append_own _ rfl _ _ 35 rfl (nb + 1) 9 i0 (.string ⟨#[]⟩) 1 16 Tryd.underlying35 hi0 hz0' hz1' hz2' rfl (by decide) _ _ _ rfl (hrow3.alloc _) ⟨w3.heap.size, 0, none⟩ 1 1 [.string ⟨t.toArray⟩] rfl rfl (cell_one_new _ _ _) (by simp [Value.oneCell']) (by unfold maxLen; omega) (by omega) (by have := HBE3.out.size; simp; omega) ?_; intro v' w4 hown4 hgrow4 _)
          exact ⟨⟨j + 1, acc ++ [⟨t.toArray⟩], hjl, by simp, by rw [HFL.out, fldsF, hff]; cases fldsF (ps.drop (j + 1)) <;> simp, by simp [hal], by simpa using hown4, (HBE3.out.alloc (by have := HBE3.out.size; omega) _).grown hgrow4 (by have := HBE3.out.size; simp; omega) (fun k hk => (hrow3.lt k hk).1)⟩, by simp [RowKit.intOf]; omega⟩
      · obtain rfl : j = ps.length := by omega
        have hfl2 : fldsF ps = some acc := by rw [hfl, List.drop_length]; simp [fldsF]
        have hBB : Below nb W1 wr := HB2.out.trans (hbe.mono (by omega))
        have bx : ∀ {b' t u}, Boxed W1 b' t u → Boxed wr b' t u := fun hb => (hBB.block _ (by rw [HNB.out]; exact hb.lt)).trans hb
        have hji : ¬ (ps.length : Int) < (ps.length : Int) := by omega
        have k1 := bx g1
        have k4 := bx g4
        have k5 := bx g5
        have k6 := bx g6
        have c1 := k1.cell
        have c4 := k4.cell
        have c5 := k5.cell
        have c6 := k6.cell
        have f1 := k1.frozen
        have f4 := k4.frozen
        have f5 := k5.frozen
        have hBB2 : Below B W1 wr := hBB.mono (by have := g6.lt; have := HNB.out; omega)
        have hlp : (((pre ++ [(⟨xs, hxs⟩ : Sh)]).length : Nat) : Int) = (pre.length : Int) + 1 := by simp
        have kf3 : KeepsFrom W0.heap.size W1 wr := ⟨hBB.size, fun k o _ h0 _ => (hBB.block k (by rw [HNB.out]; exact (Array.getElem?_eq_some_iff.1 h0).1)).trans h0⟩
        have kf := gf.trans kf3
        have hbw3 : Below B w wr := g7.trans hBB2
        have HFL := Lib.hid hfl
        have HFL2 := Lib.hid hfl2
        have HBE := Lib.hid hbe
        have HBB := Lib.hid hBB
        have K1 := Lib.hid k1
        have K4 := Lib.hid k4
        have K5 := Lib.hid k5
        have K6 := Lib.hid k6
        have HBB2 := Lib.hid hBB2
        have HLP := Lib.hid hlp
        have KF3 := Lib.hid kf3
        have KF := Lib.hid kf
        have HBW3 := Lib.hid hbw3
        clear hfl hfl2 hbe hBB k1 k4 k5 k6 hBB2 hlp kf3 kf hbw3
        have lB0 := K4.out.lt
        have lB1 := K5.out.lt
        have lB3 := K6.out.lt
        have hmix : Tryd.prog.follows .mixedOrders = true := by kernel_rfl
        have hu55 := Tryd.underlying55
        have hu50 := Tryd.underlying50
        cases wh with
        | false =>
          have hrn : rowL xs = none := by rw [HRL.out]; rfl
          have hbad : ∀ rest, goR ((pre ++ [(⟨xs, hxs⟩ : Sh)]).map (·.1) ++ rest) 0 [] = .inr (pre ++ [(⟨xs, hxs⟩ : Sh)]).length := fun rest => by
            rw [List.map_append, List.append_assoc, h3]
            simp [goR, hrn]
          have HRN := Lib.hid hrn
          have HBAD := Lib.hid hbad
          clear hrn hbad
          gi_wp2
          gi_region_with_o (fail)
          all_goals clear c1 c4 c5 c6 f1 f4 f5
          all_goals gi_wp2
          all_goals refine Ph.fin (k := (pre.length : Int) + 1) ?_ HLP.out KF.out rfl HBAD.out
          all_goals ((repeat' first | with_reducible refine Ph.new ?_ _ | with_reducible refine Ph.drew ?_ | with_reducible refine Ph.set1 (v1 := .nilIface) ?_ _ | with_reducible refine Ph.set0 (v0 := .slice none 0 0) ?_ _); with_reducible exact Ph.start K4.out K5.out HBW3.out)
        | true =>
          have hrs : rowL xs = some acc := by rw [HRL.out]; exact HFL2.out
          obtain ⟨hs, q1, q2, q3⟩ := g2.same (fun k _ hk => HBB.out.block k (by rw [HNB.out]; exact hk))
          obtain ⟨i0, hi0, hz0', hz1', hz2'⟩ := info_parts infoR
          have hrow5 : wr.ownsRow (B + 5) 9 1 u9 acc.length (acc.map Value.string) := by rw [hal]; exact own_mono hrow (by have := HNB.out; omega)
          have q1l : rows.length ≤ pre.length := by
            have e := goR_length _ _ _ _ ((h3 []).trans (show goR [] pre.length rows = .inl rows from rfl))
            simp at e; omega
          obtain ⟨A9, n9, c9, hu9⟩ := own_form hrow5
          subst hu9
          obtain ⟨A8, n8, c8, hu8⟩ := own_form q2
          subst hu8
          have Q3 := Lib.hid q3
          clear q3
          gi_wp2_with (gi_at_builtin; refine wpListIn_append_own _ rfl _ _ 27 rfl (B + 5) 35 i0 (.slice none 0 0) 1 24 Tryd.underlying27 hi0 hz0' hz1' hz2' rfl (by decide) _ _ _ rfl (q2.alloc _) ⟨wr.heap.size, 0, none⟩ 1 1 [.slice A9 n9 c9] rfl rfl (cell_one_new _ _ _) (by simp [Value.oneCell']) (by unfold maxLen; omega) (by omega) (by simp; omega) ?_; intro v' w4 hown4 hgrow4 _; have d1 := (app_box q2 hgrow4 K1.out (by omega)).cell; have d2 := (app_box q2 hgrow4 K1.out (by omega)).frozen; obtain ⟨A4, n4, c4, rfl⟩ := own_form hown4; have GR := Lib.hid hgrow4; clear hgrow4)
          exact ri_snoc K1.out q1 q2 Q3.out hrow5 h3 hrs K4.out K5.out K6.out HLP.out HBW3.out (by rw [← hz0]; exact KF.out) ((HBB.out.block _ (by rw [HNB.out]; omega)).trans gk) (by have := HBB.out.size; omega) (by omega) hown4 GR.out
  case done =>
    rintro D xs W hD hxs ⟨⟨v, rows, h1, h2, h3⟩, h4, h5, h6, h7⟩ hK
    have hres : rowsF s = .inl rows := by have := h3 []; rw [List.append_nil, hxs] at this; exact this
    have c1 := h1.cell
    have c2 := h4.cell
    have c3 := h5.cell
    have f2 := h4.frozen
    have f3 := h5.frozen
    obtain ⟨Av, nv, cv, rfl⟩ := h2.form
    have hD' : D ≠ B ∧ D ≠ B + 1 := by omega
    obtain ⟨W2, hW2⟩ : ∃ W2, W2 = (W.setCell ⟨B, 0, none⟩ (.slice Av nv cv)).setCell ⟨B + 1, 0, none⟩ .nilIface := ⟨_, rfl⟩
    have hK2 : W2.heap[D]? = some (.deferred (some [])) := by
      rw [hW2]
      exact ((Below.heap_setCell _ _ _ _ (fun e => by simp only at e; omega)).trans (Below.heap_setCell _ _ _ _ (fun e => by simp only at e; omega))).trans hK
    have k1 : Boxed W2 B 27 (.slice Av nv cv) := by rw [hW2]; exact (h4.set _).other (by omega) _
    have k2 : Boxed W2 (B + 1) 38 .nilIface := by rw [hW2]; exact (h5.other (by omega) _).set _
    have k3 : Rws (B + 5) W2 (.slice Av nv cv) rows := by rw [hW2]; exact (h2.set (by omega) 0 _).set (by omega) 0 _
    have k4 : Below B w W2 := by rw [hW2]; exact (h7.setCell (p := ⟨B, 0, none⟩) (Nat.le_refl _) _).setCell (p := ⟨B + 1, 0, none⟩) (by simp) _
    have hp := grownBy_putObj' W2 D (.deferred none)
    have hpr : ∀ r, some D = some r → ∃ o : Obj, W2.heap[r]? = some o ∧ o.isCells = false := fun r e => by cases e; exact ⟨_, hK2, rfl⟩
    have q1 := cell_kept k1.cell hp hpr
    have q2 := cell_kept k2.cell hp hpr
    have q3 := k3.own hp hpr
    have q4 : Below B w (W2.putObj D (.deferred none)) := k4.trans (belowK_b (w := w) (by rw [HB.out]; exact Nat.le_refl _) W2 D _ _ (by rw [← HB.out]; omega) hK2 rfl rfl)
    gi_wp2
    rw [← hW2]
    refine ⟨by simp, .inl ⟨_, _, rfl, run_takeDeferred hK2, ?_⟩⟩
    refine ⟨.tuple #[.slice Av nv cv, .nilIface], ?_, ?_, ?_⟩
    · simp [results, Tryd.f25, go_sem, q1, q2]
    · unfold RowsRes
      rw [hres]
      exact ⟨_, rfl, q3.mono (by rw [← HB.out]; omega)⟩
    · rw [← HB.out]; exact q4
  case stop =>
    rintro D c pre W hD hSp ⟨rfl, hbad, h3, ⟨g, hg, h4, h5⟩, h6⟩ hK
    obtain ⟨rest, hrest⟩ := hSp
    have hres : rowsF s = .inr pre.length := by have := hbad rest; rw [hrest] at this; exact this
    have hp := grownBy_putObj' W D (.deferred none)
    have hpr : ∀ r, some D = some r → ∃ o : Obj, W.heap[r]? = some o ∧ o.isCells = false := fun r e => by cases e; exact ⟨_, hK, rfl⟩
    have q1 := cell_kept h3.cell hp hpr
    have q2 := cell_kept h4.cell hp hpr
    have hgD : g ≠ D := fun e => by subst e; rw [h5] at hK; cases hK
    have q3 : (W.putObj D (.deferred none)).heap[g]? = some (.cells #[.int .i64 pre.length, .iface 22 (.int .i64 20)] 55 (0, 0)) := (World.putObj_heap_other (by omega)).trans h5
    have q4 : Below B w (W.putObj D (.deferred none)) := h6.trans (belowK_b (w := w) (by rw [HB.out]; exact Nat.le_refl _) W D _ _ (by rw [← HB.out]; omega) hK rfl rfl)
    gi_wp2
    refine ⟨by simp, .inl ⟨_, _, rfl, run_takeDeferred hK, ?_⟩⟩
    refine ⟨.tuple #[.slice none 0 0, .iface 50 (.pointer (some ⟨g, 0, none⟩))], ?_, ?_, ?_⟩
    · simp [results, Tryd.f25, go_sem, q1, q2]
    · unfold RowsRes
      rw [hres]
      exact ⟨g, by rw [← HB.out]; exact hg, rfl, q3⟩
    · rw [← HB.out]; exact q4
end Go.Proofs.YtkjghjffdjjedaaDoor.Enc
