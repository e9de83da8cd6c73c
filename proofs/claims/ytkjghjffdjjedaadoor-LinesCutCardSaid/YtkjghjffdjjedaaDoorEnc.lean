/- lines.Encode: rows as a text. -/
import Derived.Test.YtkjghjffdjjedaaDoorXLinesEncodesx0
import Derived.Test.YtkjghjffdjjedaaDoorBldF
import Derived.Lib.Hide
import Derived.Outline
import Derived.Lib.ConvBytes
import Derived.Lib.Strings
set_option linter.unusedVariables false
set_option linter.unusedSimpArgs false
namespace Go.Proofs.YtkjghjffdjjedaaDoor.Enc
open Go Go.RowKit Go.Lib Go.Proofs Go.Proofs.YtkjghjffdjjedaaDoor.XLinesEncodes Go.Proofs.YtkjghjffdjjedaaDoorW.PrintWords Go.Proofs.YtkjghjffdjjedaaDoorW.PrintLast
/-- a byte, escaped -/
def escB (c : UInt8) : List UInt8 := if c = 37 then [37, 50, 53] else if c = 44 then [37, 50, 67] else if c = 10 then [37, 48, 65] else [c]
def escS (l : List UInt8) : List UInt8 := l.flatMap escB
/-- the first k fields of a row -/
def rowE (r : List ByteArray) (k : Nat) : List UInt8 := (List.range k).flatMap fun i => (if 0 < i then [44] else []) ++ escS (r.getD i ByteArray.empty).data.toList
/-- the first k rows -/
def allE (l : List (List ByteArray)) (k : Nat) : List UInt8 := (List.range k).flatMap fun i => rowE (l.getD i []) (l.getD i []).length ++ [10]
theorem rowE_succ (r : List ByteArray) (k : Nat) : rowE r (k + 1) = rowE r k ++ ((if 0 < k then [44] else []) ++ escS (r.getD k ByteArray.empty).data.toList) := by simp [rowE, List.range_succ]
theorem allE_succ (l : List (List ByteArray)) (k : Nat) : allE l (k + 1) = allE l k ++ (rowE (l.getD k []) (l.getD k []).length ++ [10]) := by simp [allE, List.range_succ]
theorem rowE_ge (r : List ByteArray) (k : Nat) : k ≤ (rowE r k).length + 1 := by
  induction k with
  | zero => exact Nat.zero_le _
  | succ n ih =>
    rw [rowE_succ]
    by_cases h : 0 < n
    · rw [if_pos h]; simp only [List.length_append, List.length_singleton]; omega
    · omega
theorem rowE_le (r : List ByteArray) (k : Nat) : ∀ n, k ≤ n → (rowE r k).length ≤ (rowE r n).length := by
  intro n h
  induction n with
  | zero => obtain rfl : k = 0 := by omega
            exact Nat.le_refl _
  | succ n ih =>
    by_cases e : k = n + 1
    · rw [e]; exact Nat.le_refl _
    · rw [rowE_succ, List.length_append]; have := ih (by omega); omega
theorem allE_le (l : List (List ByteArray)) (k : Nat) : ∀ n, k ≤ n → (allE l k).length ≤ (allE l n).length := by
  intro n h
  induction n with
  | zero => obtain rfl : k = 0 := by omega
            exact Nat.le_refl _
  | succ n ih =>
    by_cases e : k = n + 1
    · rw [e]; exact Nat.le_refl _
    · rw [allE_succ, List.length_append]; have := ih (by omega); omega
theorem escS_snoc (l : List UInt8) (j : Nat) (h : j < l.length) : escS (l.take (j + 1)) = escS (l.take j) ++ escB l[j] := by
  rw [List.take_succ_eq_append_getElem h, escS, List.flatMap_append, escS]; simp
theorem escB_le (c : UInt8) : 1 ≤ (escB c).length ∧ (escB c).length ≤ 3 := by unfold escB; split; simp; split; simp; split <;> simp
theorem escS_ge (l : List UInt8) : l.length ≤ (escS l).length := by
  induction l with
  | nil => simp
  | cons a l ih => have := (escB_le a).1; simp only [escS, List.flatMap_cons, List.length_append, List.length_cons] at ih ⊢; omega
theorem escS_take_le (l : List UInt8) (j : Nat) : (escS (l.take j)).length ≤ (escS l).length := by
  have : escS l = escS (l.take j) ++ escS (l.drop j) := by
    unfold escS; rw [← List.flatMap_append, List.take_append_drop]
  rw [this, List.length_append]; omega
/-- what Encode answers: the text and its error -/
def encF (l : List (List ByteArray)) : ByteArray × Int := if ∃ r ∈ l, r = [] then (⟨#[]⟩, 1) else (⟨(allE l l.length).toArray⟩, 0)
theorem Bld.below {B b : Nat} {l : List UInt8} {w w' : World} (h : Bld B b l w) (hb : Below w.heap.size w w') : Bld B b l w' := by
  have one : ∀ {p : Value}, Lib.BuilderAt 44 5 B b p (Lib.byteCells l) w → Lib.BuilderAt 44 5 B b p (Lib.byteCells l) w' := fun h => by
    have hlt := h.lt
    obtain ⟨h1, v, h2, h3, h4⟩ := h
    exact ⟨h1, v, (hb.block _ hlt).trans h2, own_move h3 (fun k hk => hb.block _ (own_lt h3 k hk)), h4⟩
  exact h.imp one one
theorem escB_37 : escB 37 = [37, 50, 53] := rfl
theorem escB_44 : escB 44 = [37, 50, 67] := rfl
theorem escB_10 : escB 10 = [37, 48, 65] := rfl
theorem escB_no {c : UInt8} (h1 : c ≠ 37) (h2 : c ≠ 44) (h3 : c ≠ 10) : escB c = [c] := by unfold escB; rw [if_neg h1, if_neg h2, if_neg h3]
theorem u8_ne {c : UInt8} {n : Nat} (hn : n < 256) (h : c ≠ UInt8.ofNat n) : ((c.toNat : Int) == (n : Int)) = false := by
  rw [beq_eq_false_iff_ne]
  intro e
  apply h
  have : c.toNat = n := by omega
  rw [← this]; simp
set_option maxHeartbeats 8000000 in
set_option maxRecDepth 100000 in
theorem enc_walk (A0 : Option Addr) (c0 : Nat) (l : List (List ByteArray)) (w : World) (hr : Kd.C (Kd.slice 9 Kd.string) w A0 l.length l) (hc0 : l.length ≤ c0) (hb : (allE l l.length).length ≤ 140737488355328) (hl63 : l.length ≤ 9223372036854775806) :
    Calls Tryd.prog 14 #[.slice A0 l.length c0] w fun e w' => e = .returned (.tuple #[.string (encF l).1, .int .i64 (encF l).2]) ∧ Below w.heap.size w w' := by
  have hu44 := Tryd.underlying44
  have hu27 := Tryd.underlying27
  have hu35 := Tryd.underlying35
  have hu9 := Tryd.underlying9
  have hu42 := Tryd.underlying42
  have hcv := fun (W : World) (t : ByteArray) => Lib.run_convert_string_bytes (P := Tryd.prog) W 9 42 5 t Tryd.underlying9 Tryd.underlying42 Tryd.underlying5
  obtain ⟨N, hN⟩ : ∃ N, N = w.heap.size := ⟨_, rfl⟩
  obtain ⟨W0, hW0⟩ : ∃ W0, W0 = w.alloc (.cells #[.pointer none, .slice none 0 0] 44) := ⟨_, rfl⟩
  have hB0 : Below N w W0 := by rw [hW0, hN]; exact (Below.refl _ w).alloc (Nat.le_refl _) _
  have hbl0 : Bld N N (allE l 0) W0 := by rw [hW0, hN]; exact bld_new w
  have hz0 : N < W0.heap.size := by rw [hW0, hN]; simp
  have HR := Lib.hid hr
  have HB := Lib.hid hb
  have HB0 := Lib.hid hB0
  have HBL0 := Lib.hid hbl0
  have HN := Lib.hid hN
  have HW0 := Lib.hid hW0
  clear hr hb hB0 hbl0 hW0 hN
  go_enter Tryd.func14, Tryd.ntmps14
  go_wp2_with fail
  rw [← HW0.out, ← HN.out]
  go_loopw [13] (fun i wr => ∃ k : Nat, k ≤ l.length ∧ i = .int .i64 k ∧ (∀ j, j < k → l.getD j [] ≠ []) ∧ Bld N N (allE l k) wr ∧ Below N w wr ∧ N < wr.heap.size) (fun i _ => l.length - (RowKit.intOf i).toNat)
  case atStart => exact ⟨0, Nat.zero_le _, rfl, fun j hj => absurd hj (Nat.not_lt_zero _), HBL0.out, HB0.out, hz0⟩
  case round =>
    obtain ⟨k, hk, rfl, hne, hbl, hbe, hsz⟩ := hrel
    by_cases hlt : k < l.length
    · obtain ⟨ad, A1, c1, rfl, hcw, hlc, hr1⟩ := at_L1 HR.out (k : Int) (by omega) (by omega)
      have hc := pw_cell_below (show Below w.heap.size w wr by rw [← HN.out]; exact hbe) hcw
      clear hcw
      have e1 : (k : Int).toNat = k := by omega
      have hrd : rd_L1 l (k : Int) = l.getD k [] := by unfold rd_L1; rw [e1]
      rw [e1] at hc
      rw [hrd] at hc hlc hr1
      have hsucc := allE_succ l k
      have hle := allE_le l (k + 1) l.length hlt
      have hmem : l.getD k [] = [] → ∃ r ∈ l, r = [] := fun e => ⟨_, List.getElem_mem hlt, by rw [List.getD_eq_getElem?_getD, List.getElem?_eq_getElem hlt] at e; exact e⟩
      have hki : (k : Int) < (l.length : Int) := by omega
      have hnk : ∀ q, q ≠ [] → l.getD k [] = q → ∀ j, j < k + 1 → l.getD j [] ≠ [] := fun q hq e j hj => by
        by_cases ej : j = k
        · subst ej; rw [e]; exact hq
        · exact hne j (by omega)
      generalize l.getD k [] = r at *
      have HNE := Lib.hid hne
      have HNK := Lib.hid hnk
      have HBL := Lib.hid hbl
      have HBE := Lib.hid hbe
      have HSU := Lib.hid hsucc
      have HLE := Lib.hid hle
      have HR1 := Lib.hid hr1
      have HMEM := Lib.hid hmem
      clear hne hnk hbl hbe hsucc hle hr1 hmem
      by_cases hr0 : r = []
      · subst hr0
        have henc : encF l = (⟨#[]⟩, 1) := by unfold encF; rw [if_pos (HMEM.out rfl)]
        have hz : ((([] : List ByteArray).length : Int) == 0) = true := rfl
        have HENC := Lib.hid henc
        clear henc
        go_wp2_with fail
        go_ret2
        rw [HENC.out]
        exact ⟨rfl, by have := HBE.out; rw [HN.out] at this; exact this⟩
      · have hrl : 0 < r.length := List.length_pos_iff.2 hr0
        have hz : ((r.length : Int) == 0) = false := by rw [beq_eq_false_iff_ne]; omega
        have hlr : (rowE r r.length).length ≤ 140737488355328 := by have h1 := HLE.out; rw [HSU.out] at h1; simp only [List.length_append] at h1; have := HB.out; omega
        have htot : (allE l k).length + (rowE r r.length).length + 1 ≤ 140737488355328 := by have h1 := HLE.out; rw [HSU.out] at h1; simp only [List.length_append, List.length_singleton] at h1; have := HB.out; omega
        obtain ⟨wo, hwo⟩ : ∃ wo, wo = wr := ⟨_, rfl⟩
        subst hwo
        have hr63 : r.length ≤ 140737488355329 := by have h1 := rowE_ge r r.length; omega
        have HR0 := Lib.hid hr0
        have HRL := Lib.hid hrl
        have HLR := Lib.hid hlr
        have HTOT := Lib.hid htot
        clear hr0 hrl hlr htot
        go_wp2_with fail
        go_loopw [22] (fun i wr => ∃ j : Nat, j ≤ r.length ∧ i = .int .i64 j ∧ Bld N N (allE l k ++ rowE r j) wr ∧ Below N w wr ∧ N < wr.heap.size) (fun i _ => r.length - (RowKit.intOf i).toNat)
        case atStart => exact ⟨0, Nat.zero_le _, rfl, by have := HBL.out; simpa [rowE] using this, HBE.out, hsz⟩
        case round =>
          obtain ⟨j, hj, rfl, hbl2, hbe2, hsz2⟩ := hrel
          by_cases hjl : j < r.length
          · obtain ⟨ad2, rfl, hc2w⟩ := Kd.at_string HR1.out (j : Int) (by omega) (by omega)
            have e2 : (j : Int).toNat = j := by omega
            have hrs : rdOf ByteArray.empty r (j : Int) = r.getD j ByteArray.empty := by unfold rdOf; rw [e2]
            rw [e2, hrs] at hc2w
            have hc2 := pw_cell_below (show Below w.heap.size w wr by rw [← HN.out]; exact hbe2) hc2w
            have hrsu := rowE_succ r j
            have hrle := rowE_le r (j + 1) r.length hjl
            have hji : (j : Int) < (r.length : Int) := by omega
            generalize r.getD j ByteArray.empty = s at *
            have htj : (allE l k).length + (rowE r j).length + (if 0 < j then 1 else 0) + (escS s.data.toList).length ≤ 140737488355328 := by
              rw [hrsu] at hrle
              simp only [List.length_append] at hrle
              have := HTOT.out
              by_cases h0 : 0 < j
              · rw [if_pos h0]; rw [if_pos h0, List.length_singleton] at hrle; omega
              · rw [if_neg h0]; omega
            have HRSU := Lib.hid hrsu
            have HRLE := Lib.hid hrle
            have HBL2 := Lib.hid hbl2
            have HBE2 := Lib.hid hbe2
            have HTJ := Lib.hid htj
            clear hrsu hrle hbl2 hbe2 htj
            clear hc2w
            obtain ⟨P, hP⟩ : ∃ P, P = allE l k ++ rowE r j ++ (if 0 < j then [44] else []) := ⟨_, rfl⟩
            have hPl : P.length + (escS s.data.toList).length ≤ 140737488355328 := by
              have := HTJ.out
              rw [hP]
              by_cases h0 : 0 < j
              · rw [if_pos h0] at this ⊢; simp only [List.length_append, List.length_singleton]; omega
              · rw [if_neg h0] at this ⊢; simp only [List.length_append, List.length_nil]; omega
            have hPn : allE l k ++ rowE r (j + 1) = P ++ escS s.data.toList := by rw [HRSU.out, hP]; simp [List.append_assoc]
            by_cases hj0 : j = 0
            · have hPe : P = allE l k ++ rowE r j := by rw [hP, if_neg (by omega)]; simp
              have hd1 : decide (0 < j) = false := decide_eq_false (by omega)
              have hd2 : decide ((0 : Int) < (j : Int)) = false := decide_eq_false (by omega)
              have hBP : Bld N N P wr := by rw [hPe]; exact HBL2.out
              have HBP := Lib.hid hBP
              have HPL := Lib.hid hPl
              have HPN := Lib.hid hPn
              have HP := Lib.hid hP
              have HPE := Lib.hid hPe
              have HJ0 := Lib.hid hj0
              clear hBP hPl hPn hP hPe hj0
              go_wp2_with fail
              obtain ⟨w5, hw5⟩ : ∃ w5, w5 = wr := ⟨_, rfl⟩
              subst hw5
              have HBE5 := HBE2
              have hz5 : N < w5.heap.size := hsz2
              have hBw : Below w5.heap.size w5 (bytesWorld w5 5 s) := bytes_below (Below.refl _ _) (Nat.le_refl _) 5 _
              have hcell : ∀ q, q < s.size → (bytesWorld w5 5 s).cell? ⟨w5.heap.size, q, none⟩ = some (.int .u8 (s.data.toList.getD q 0).toNat) := fun q hq => bytesWorld_cell w5 5 s q hq
              have hnb1 : w5.heap.size < (bytesWorld w5 5 s).heap.size := by rw [bytesWorld_size]; exact Nat.lt_succ_self _
              have hfz : ∃ cs T fr, (bytesWorld w5 5 s).heap[w5.heap.size]? = some (Obj.cells cs T fr) ∧ fr ≠ (0, 0) := ⟨_, _, _, bytesWorld_at_new w5 5 s, by intro e; simp at e⟩
              have hcap := grownCap_ge w5 s.size 0 5
              obtain ⟨W1, hW1⟩ : ∃ W1, W1 = bytesWorld w5 5 s := ⟨_, rfl⟩
              rw [← hW1]
              rw [← hW1] at hBw hcell hnb1 hfz
              obtain ⟨cp, hcp⟩ : ∃ cp, cp = grownCap w5 s.size 0 5 := ⟨_, rfl⟩
              rw [← hcp] at hcap ⊢
              clear hW1 hcp
              have hsl : s.data.toList.length = s.size := by simp
              have hs63 : s.size ≤ 140737488355328 := by have h1 := escS_ge s.data.toList; have h2 := HPL.out; omega
              have hz1 := hBw.size
              have HBL1 := Lib.hid (Bld.below HBP.out hBw)
              have HBE1 := Lib.hid (HBE5.out.trans (hBw.mono (Nat.le_of_lt hz5)))
              obtain ⟨nb, hnb⟩ : ∃ nb, nb = w5.heap.size := ⟨_, rfl⟩
              rw [← hnb] at hcell hnb1 hfz ⊢
              have HBW := Lib.hid hBw
              have HCELL := Lib.hid hcell
              have HSL := Lib.hid hsl
              have HNB := Lib.hid hnb
              have HFZ := Lib.hid hfz
              clear hBw hcell hsl hnb hfz
              go_loopw [33] (fun i wr => ∃ q : Nat, q ≤ s.size ∧ i = .int .i64 q ∧ Bld N N (P ++ escS (s.data.toList.take q)) wr ∧ Below N w wr ∧ wr.heap[nb]? = W1.heap[nb]? ∧ W1.heap.size ≤ wr.heap.size) (fun i _ => s.size - (RowKit.intOf i).toNat)
              case atStart => exact ⟨0, Nat.zero_le _, rfl, by simpa [escS] using HBL1.out, HBE1.out, rfl, Nat.le_refl _⟩
              case round =>
                obtain ⟨q, hq, rfl, hbl4, hbe4, hcb, hs4⟩ := hrel
                have hsz4 : N < wr.heap.size := by omega
                have hw1n : N < W1.heap.size := by omega
                have HW1N := Lib.hid hw1n
                clear hw1n
                by_cases hql : q < s.size
                · have hcq := (World.cell?_of_block (a := ⟨nb, q, none⟩) hcb).trans (HCELL.out q hql)
                  have hqi : (q : Int) < (s.size : Int) := by omega
                  have hsn : escS (s.data.toList.take (q + 1)) = escS (s.data.toList.take q) ++ escB (s.data.toList.getD q 0) := by
                    rw [escS_snoc _ q (by rw [HSL.out]; exact hql), List.getD_eq_getElem?_getD, List.getElem?_eq_getElem (by rw [HSL.out]; exact hql)]; rfl
                  have hlen : (P ++ escS (s.data.toList.take q)).length + (escB (s.data.toList.getD q 0)).length ≤ 140737488355328 := by
                    have h1 := escS_take_le s.data.toList (q + 1)
                    rw [hsn] at h1
                    simp only [List.length_append] at h1 ⊢
                    have := HPL.out
                    omega
                  generalize s.data.toList.getD q 0 = c at *
                  have hcu : c.toNat < 256 := c.toNat_lt
                  have HSN := Lib.hid hsn
                  have HLEN := Lib.hid hlen
                  have HBL4 := Lib.hid hbl4
                  have HBE4 := Lib.hid hbe4
                  have HCB := Lib.hid hcb
                  clear hsn hlen hbl4 hbe4 hcb
                  by_cases hc37 : c = 37
                  · subst hc37
                    have hw5c := bld_strF N N (P ++ escS (s.data.toList.take q)) ⟨#[37, 50, 53]⟩ wr HBL4.out (by have h1 := HLEN.out; rw [escB_37] at h1; have e3 : (⟨#[37, 50, 53]⟩ : ByteArray).size = 3 := rfl; have e4 : ([37, 50, 53] : List UInt8).length = 3 := rfl; rw [e4] at h1; rw [e3]; exact h1) (Nat.le_of_lt hsz4)
                    have HW5C := Lib.hid hw5c
                    clear hw5c
                    go_wp2_with fail
                    refine HW5C.out.mono ?_
                    rintro e w6 ⟨rfl, hb6, hbe6, hf6⟩
                    have hz6 := hbe6.size
                    have HF6 := Lib.hid (show w6.heap[nb]? = W1.heap[nb]? by obtain ⟨cs, T, fr, h1, h2⟩ := HFZ.out; exact (hf6 nb cs T fr (HCB.out.trans h1) h2).trans HCB.out)
                    clear hf6
                    have HB6 := Lib.hid hb6
                    have HBE6 := Lib.hid hbe6
                    clear hb6 hbe6
                    go_wp2_with fail
                    exact ⟨⟨q + 1, hql, by go_num, by have := HB6.out; rw [HSN.out, escB_37, ← List.append_assoc]; exact this, HBE4.out.trans HBE6.out, HF6.out, by omega⟩, by simp [RowKit.intOf]; omega⟩
                  · by_cases hc44 : c = 44
                    · subst hc44
                      have hw5c := bld_strF N N (P ++ escS (s.data.toList.take q)) ⟨#[37, 50, 67]⟩ wr HBL4.out (by have h1 := HLEN.out; rw [escB_44] at h1; have e3 : (⟨#[37, 50, 67]⟩ : ByteArray).size = 3 := rfl; have e4 : ([37, 50, 67] : List UInt8).length = 3 := rfl; rw [e4] at h1; rw [e3]; exact h1) (Nat.le_of_lt hsz4)
                      have HW5C := Lib.hid hw5c
                      clear hw5c
                      go_wp2_with fail
                      refine HW5C.out.mono ?_
                      rintro e w6 ⟨rfl, hb6, hbe6, hf6⟩
                      have hz6 := hbe6.size
                      have HF6 := Lib.hid (show w6.heap[nb]? = W1.heap[nb]? by obtain ⟨cs, T, fr, h1, h2⟩ := HFZ.out; exact (hf6 nb cs T fr (HCB.out.trans h1) h2).trans HCB.out)
                      clear hf6
                      have HB6 := Lib.hid hb6
                      have HBE6 := Lib.hid hbe6
                      clear hb6 hbe6
                      go_wp2_with fail
                      exact ⟨⟨q + 1, hql, by go_num, by have := HB6.out; rw [HSN.out, escB_44, ← List.append_assoc]; exact this, HBE4.out.trans HBE6.out, HF6.out, by omega⟩, by simp [RowKit.intOf]; omega⟩
                    · by_cases hc10 : c = 10
                      · subst hc10
                        have hw5c := bld_strF N N (P ++ escS (s.data.toList.take q)) ⟨#[37, 48, 65]⟩ wr HBL4.out (by have h1 := HLEN.out; rw [escB_10] at h1; have e3 : (⟨#[37, 48, 65]⟩ : ByteArray).size = 3 := rfl; have e4 : ([37, 48, 65] : List UInt8).length = 3 := rfl; rw [e4] at h1; rw [e3]; exact h1) (Nat.le_of_lt hsz4)
                        have HW5C := Lib.hid hw5c
                        clear hw5c
                        go_wp2_with fail
                        refine HW5C.out.mono ?_
                        rintro e w6 ⟨rfl, hb6, hbe6, hf6⟩
                        have hz6 := hbe6.size
                        have HF6 := Lib.hid (show w6.heap[nb]? = W1.heap[nb]? by obtain ⟨cs, T, fr, h1, h2⟩ := HFZ.out; exact (hf6 nb cs T fr (HCB.out.trans h1) h2).trans HCB.out)
                        clear hf6
                        have HB6 := Lib.hid hb6
                        have HBE6 := Lib.hid hbe6
                        clear hb6 hbe6
                        go_wp2_with fail
                        exact ⟨⟨q + 1, hql, by go_num, by have := HB6.out; rw [HSN.out, escB_10, ← List.append_assoc]; exact this, HBE4.out.trans HBE6.out, HF6.out, by omega⟩, by simp [RowKit.intOf]; omega⟩
                      · have hn1 := u8_ne (n := 37) (by omega) hc37
                        have hn2 := u8_ne (n := 44) (by omega) hc44
                        have hn3 := u8_ne (n := 10) (by omega) hc10
                        have hw5c := bld_byteF N N (P ++ escS (s.data.toList.take q)) c wr HBL4.out (by have h1 := HLEN.out; rw [escB_no hc37 hc44 hc10, List.length_singleton] at h1; exact h1) (Nat.le_of_lt hsz4)
                        have hec := escB_no hc37 hc44 hc10
                        have HW5C := Lib.hid hw5c
                        have HEC := Lib.hid hec
                        have HC37 := Lib.hid hc37
                        have HC44 := Lib.hid hc44
                        have HC10 := Lib.hid hc10
                        clear hw5c hec hc37 hc44 hc10
                        go_wp2_with fail
                        refine HW5C.out.mono ?_
                        rintro e w6 ⟨rfl, hb6, hbe6, hf6⟩
                        have hz6 := hbe6.size
                        have HF6 := Lib.hid (show w6.heap[nb]? = W1.heap[nb]? by obtain ⟨cs, T, fr, h1, h2⟩ := HFZ.out; exact (hf6 nb cs T fr (HCB.out.trans h1) h2).trans HCB.out)
                        clear hf6
                        have HB6 := Lib.hid hb6
                        have HBE6 := Lib.hid hbe6
                        clear hb6 hbe6
                        go_wp2_with fail
                        exact ⟨⟨q + 1, hql, by go_num, by have := HB6.out; rw [HSN.out, HEC.out, ← List.append_assoc]; exact this, HBE4.out.trans HBE6.out, HF6.out, by omega⟩, by simp [RowKit.intOf]; omega⟩
                · obtain rfl : q = s.size := by omega
                  have hta : s.data.toList.take s.size = s.data.toList := List.take_of_length_le (by rw [HSL.out]; exact Nat.le_refl _)
                  rw [hta] at hbl4
                  have HBL4 := Lib.hid hbl4
                  have HBE4 := Lib.hid hbe4
                  have HCB := Lib.hid hcb
                  have HTA := Lib.hid hta
                  clear hbl4 hbe4 hcb hta
                  go_wp2_with fail
                  exact ⟨⟨j + 1, hjl, by go_num, by rw [HPN.out]; exact HBL4.out, HBE4.out, by omega⟩, by simp [RowKit.intOf]; omega⟩
            · have hPe : P = (allE l k ++ rowE r j) ++ [44] := by rw [hP, if_pos (by omega)]
              have hd1 : decide (0 < j) = true := decide_eq_true (by omega)
              have hd2 : decide ((0 : Int) < (j : Int)) = true := decide_eq_true (by omega)
              have hw44 := bld_byte N N (allE l k ++ rowE r j) 44 wr HBL2.out (by rw [hPe] at hPl; simp only [List.length_append, List.length_singleton] at hPl ⊢; omega) (by omega)
              have HW44 := Lib.hid hw44
              have HPL := Lib.hid hPl
              have HPN := Lib.hid hPn
              have HP := Lib.hid hP
              have HPE := Lib.hid hPe
              have HJ0 := Lib.hid hj0
              clear hw44 hPl hPn hP hPe hj0
              go_wp2_with fail
              refine HW44.out.mono ?_
              rintro e w5 ⟨rfl, hb5, hbe5⟩
              have hz5 : N < w5.heap.size := by have := hbe5.size; omega
              have HBP : Hid (Bld N N P w5) := Lib.hid (by rw [HPE.out]; exact hb5)
              have HBE5 := Lib.hid (HBE2.out.trans hbe5)
              clear hb5 hbe5
              go_wp2_with fail
              have hBw : Below w5.heap.size w5 (bytesWorld w5 5 s) := bytes_below (Below.refl _ _) (Nat.le_refl _) 5 _
              have hcell : ∀ q, q < s.size → (bytesWorld w5 5 s).cell? ⟨w5.heap.size, q, none⟩ = some (.int .u8 (s.data.toList.getD q 0).toNat) := fun q hq => bytesWorld_cell w5 5 s q hq
              have hnb1 : w5.heap.size < (bytesWorld w5 5 s).heap.size := by rw [bytesWorld_size]; exact Nat.lt_succ_self _
              have hfz : ∃ cs T fr, (bytesWorld w5 5 s).heap[w5.heap.size]? = some (Obj.cells cs T fr) ∧ fr ≠ (0, 0) := ⟨_, _, _, bytesWorld_at_new w5 5 s, by intro e; simp at e⟩
              have hcap := grownCap_ge w5 s.size 0 5
              obtain ⟨W1, hW1⟩ : ∃ W1, W1 = bytesWorld w5 5 s := ⟨_, rfl⟩
              rw [← hW1]
              rw [← hW1] at hBw hcell hnb1 hfz
              obtain ⟨cp, hcp⟩ : ∃ cp, cp = grownCap w5 s.size 0 5 := ⟨_, rfl⟩
              rw [← hcp] at hcap ⊢
              clear hW1 hcp
              have hsl : s.data.toList.length = s.size := by simp
              have hs63 : s.size ≤ 140737488355328 := by have h1 := escS_ge s.data.toList; have h2 := HPL.out; omega
              have hz1 := hBw.size
              have HBL1 := Lib.hid (Bld.below HBP.out hBw)
              have HBE1 := Lib.hid (HBE5.out.trans (hBw.mono (Nat.le_of_lt hz5)))
              obtain ⟨nb, hnb⟩ : ∃ nb, nb = w5.heap.size := ⟨_, rfl⟩
              rw [← hnb] at hcell hnb1 hfz ⊢
              have HBW := Lib.hid hBw
              have HCELL := Lib.hid hcell
              have HSL := Lib.hid hsl
              have HNB := Lib.hid hnb
              have HFZ := Lib.hid hfz
              clear hBw hcell hsl hnb hfz
              go_loopw [33] (fun i wr => ∃ q : Nat, q ≤ s.size ∧ i = .int .i64 q ∧ Bld N N (P ++ escS (s.data.toList.take q)) wr ∧ Below N w wr ∧ wr.heap[nb]? = W1.heap[nb]? ∧ W1.heap.size ≤ wr.heap.size) (fun i _ => s.size - (RowKit.intOf i).toNat)
              case atStart => exact ⟨0, Nat.zero_le _, rfl, by simpa [escS] using HBL1.out, HBE1.out, rfl, Nat.le_refl _⟩
              case round =>
                obtain ⟨q, hq, rfl, hbl4, hbe4, hcb, hs4⟩ := hrel
                have hsz4 : N < wr.heap.size := by omega
                have hw1n : N < W1.heap.size := by omega
                have HW1N := Lib.hid hw1n
                clear hw1n
                by_cases hql : q < s.size
                · have hcq := (World.cell?_of_block (a := ⟨nb, q, none⟩) hcb).trans (HCELL.out q hql)
                  have hqi : (q : Int) < (s.size : Int) := by omega
                  have hsn : escS (s.data.toList.take (q + 1)) = escS (s.data.toList.take q) ++ escB (s.data.toList.getD q 0) := by
                    rw [escS_snoc _ q (by rw [HSL.out]; exact hql), List.getD_eq_getElem?_getD, List.getElem?_eq_getElem (by rw [HSL.out]; exact hql)]; rfl
                  have hlen : (P ++ escS (s.data.toList.take q)).length + (escB (s.data.toList.getD q 0)).length ≤ 140737488355328 := by
                    have h1 := escS_take_le s.data.toList (q + 1)
                    rw [hsn] at h1
                    simp only [List.length_append] at h1 ⊢
                    have := HPL.out
                    omega
                  generalize s.data.toList.getD q 0 = c at *
                  have hcu : c.toNat < 256 := c.toNat_lt
                  have HSN := Lib.hid hsn
                  have HLEN := Lib.hid hlen
                  have HBL4 := Lib.hid hbl4
                  have HBE4 := Lib.hid hbe4
                  have HCB := Lib.hid hcb
                  clear hsn hlen hbl4 hbe4 hcb
                  by_cases hc37 : c = 37
                  · subst hc37
                    have hw5c := bld_strF N N (P ++ escS (s.data.toList.take q)) ⟨#[37, 50, 53]⟩ wr HBL4.out (by have h1 := HLEN.out; rw [escB_37] at h1; have e3 : (⟨#[37, 50, 53]⟩ : ByteArray).size = 3 := rfl; have e4 : ([37, 50, 53] : List UInt8).length = 3 := rfl; rw [e4] at h1; rw [e3]; exact h1) (Nat.le_of_lt hsz4)
                    have HW5C := Lib.hid hw5c
                    clear hw5c
                    go_wp2_with fail
                    refine HW5C.out.mono ?_
                    rintro e w6 ⟨rfl, hb6, hbe6, hf6⟩
                    have hz6 := hbe6.size
                    have HF6 := Lib.hid (show w6.heap[nb]? = W1.heap[nb]? by obtain ⟨cs, T, fr, h1, h2⟩ := HFZ.out; exact (hf6 nb cs T fr (HCB.out.trans h1) h2).trans HCB.out)
                    clear hf6
                    have HB6 := Lib.hid hb6
                    have HBE6 := Lib.hid hbe6
                    clear hb6 hbe6
                    go_wp2_with fail
                    exact ⟨⟨q + 1, hql, by go_num, by have := HB6.out; rw [HSN.out, escB_37, ← List.append_assoc]; exact this, HBE4.out.trans HBE6.out, HF6.out, by omega⟩, by simp [RowKit.intOf]; omega⟩
                  · by_cases hc44 : c = 44
                    · subst hc44
                      have hw5c := bld_strF N N (P ++ escS (s.data.toList.take q)) ⟨#[37, 50, 67]⟩ wr HBL4.out (by have h1 := HLEN.out; rw [escB_44] at h1; have e3 : (⟨#[37, 50, 67]⟩ : ByteArray).size = 3 := rfl; have e4 : ([37, 50, 67] : List UInt8).length = 3 := rfl; rw [e4] at h1; rw [e3]; exact h1) (Nat.le_of_lt hsz4)
                      have HW5C := Lib.hid hw5c
                      clear hw5c
                      go_wp2_with fail
                      refine HW5C.out.mono ?_
                      rintro e w6 ⟨rfl, hb6, hbe6, hf6⟩
                      have hz6 := hbe6.size
                      have HF6 := Lib.hid (show w6.heap[nb]? = W1.heap[nb]? by obtain ⟨cs, T, fr, h1, h2⟩ := HFZ.out; exact (hf6 nb cs T fr (HCB.out.trans h1) h2).trans HCB.out)
                      clear hf6
                      have HB6 := Lib.hid hb6
                      have HBE6 := Lib.hid hbe6
                      clear hb6 hbe6
                      go_wp2_with fail
                      exact ⟨⟨q + 1, hql, by go_num, by have := HB6.out; rw [HSN.out, escB_44, ← List.append_assoc]; exact this, HBE4.out.trans HBE6.out, HF6.out, by omega⟩, by simp [RowKit.intOf]; omega⟩
                    · by_cases hc10 : c = 10
                      · subst hc10
                        have hw5c := bld_strF N N (P ++ escS (s.data.toList.take q)) ⟨#[37, 48, 65]⟩ wr HBL4.out (by have h1 := HLEN.out; rw [escB_10] at h1; have e3 : (⟨#[37, 48, 65]⟩ : ByteArray).size = 3 := rfl; have e4 : ([37, 48, 65] : List UInt8).length = 3 := rfl; rw [e4] at h1; rw [e3]; exact h1) (Nat.le_of_lt hsz4)
                        have HW5C := Lib.hid hw5c
                        clear hw5c
                        go_wp2_with fail
                        refine HW5C.out.mono ?_
                        rintro e w6 ⟨rfl, hb6, hbe6, hf6⟩
                        have hz6 := hbe6.size
                        have HF6 := Lib.hid (show w6.heap[nb]? = W1.heap[nb]? by obtain ⟨cs, T, fr, h1, h2⟩ := HFZ.out; exact (hf6 nb cs T fr (HCB.out.trans h1) h2).trans HCB.out)
                        clear hf6
                        have HB6 := Lib.hid hb6
                        have HBE6 := Lib.hid hbe6
                        clear hb6 hbe6
                        go_wp2_with fail
                        exact ⟨⟨q + 1, hql, by go_num, by have := HB6.out; rw [HSN.out, escB_10, ← List.append_assoc]; exact this, HBE4.out.trans HBE6.out, HF6.out, by omega⟩, by simp [RowKit.intOf]; omega⟩
                      · have hn1 := u8_ne (n := 37) (by omega) hc37
                        have hn2 := u8_ne (n := 44) (by omega) hc44
                        have hn3 := u8_ne (n := 10) (by omega) hc10
                        have hw5c := bld_byteF N N (P ++ escS (s.data.toList.take q)) c wr HBL4.out (by have h1 := HLEN.out; rw [escB_no hc37 hc44 hc10, List.length_singleton] at h1; exact h1) (Nat.le_of_lt hsz4)
                        have hec := escB_no hc37 hc44 hc10
                        have HW5C := Lib.hid hw5c
                        have HEC := Lib.hid hec
                        have HC37 := Lib.hid hc37
                        have HC44 := Lib.hid hc44
                        have HC10 := Lib.hid hc10
                        clear hw5c hec hc37 hc44 hc10
                        go_wp2_with fail
                        refine HW5C.out.mono ?_
                        rintro e w6 ⟨rfl, hb6, hbe6, hf6⟩
                        have hz6 := hbe6.size
                        have HF6 := Lib.hid (show w6.heap[nb]? = W1.heap[nb]? by obtain ⟨cs, T, fr, h1, h2⟩ := HFZ.out; exact (hf6 nb cs T fr (HCB.out.trans h1) h2).trans HCB.out)
                        clear hf6
                        have HB6 := Lib.hid hb6
                        have HBE6 := Lib.hid hbe6
                        clear hb6 hbe6
                        go_wp2_with fail
                        exact ⟨⟨q + 1, hql, by go_num, by have := HB6.out; rw [HSN.out, HEC.out, ← List.append_assoc]; exact this, HBE4.out.trans HBE6.out, HF6.out, by omega⟩, by simp [RowKit.intOf]; omega⟩
                · obtain rfl : q = s.size := by omega
                  have hta : s.data.toList.take s.size = s.data.toList := List.take_of_length_le (by rw [HSL.out]; exact Nat.le_refl _)
                  rw [hta] at hbl4
                  have HBL4 := Lib.hid hbl4
                  have HBE4 := Lib.hid hbe4
                  have HCB := Lib.hid hcb
                  have HTA := Lib.hid hta
                  clear hbl4 hbe4 hcb hta
                  go_wp2_with fail
                  exact ⟨⟨j + 1, hjl, by go_num, by rw [HPN.out]; exact HBL4.out, HBE4.out, by omega⟩, by simp [RowKit.intOf]; omega⟩
          · obtain rfl : j = r.length := by omega
            have hbb := bld_byte N N (allE l k ++ rowE r r.length) 10 wr hbl2 (by simp only [List.length_append]; have := HTOT.out; omega) (by omega)
            have HBL2 := Lib.hid hbl2
            have HBE2 := Lib.hid hbe2
            have HBB := Lib.hid hbb
            clear hbl2 hbe2 hbb
            go_wp2_with fail
            refine HBB.out.mono ?_
            rintro e w9 ⟨rfl, hb9, hbe9⟩
            have hz9 := hbe9.size
            have HB9 := Lib.hid hb9
            have HBE9 := Lib.hid (HBE2.out.trans hbe9)
            clear hb9 hbe9
            go_wp2_with fail
            exact ⟨⟨k + 1, hlt, by go_num, HNK.out r HR0.out rfl, by have := HB9.out; rw [HSU.out, ← List.append_assoc]; exact this, HBE9.out, by omega⟩, by simp [RowKit.intOf]; omega⟩
    · obtain rfl : k = l.length := by omega
      have henc : encF l = (⟨(allE l l.length).toArray⟩, 0) := by
        unfold encF
        rw [if_neg]
        rintro ⟨r, hr, e⟩
        obtain ⟨i, hi, rfl⟩ := List.mem_iff_getElem.1 hr
        apply hne i hi
        rw [List.getD_eq_getElem?_getD, List.getElem?_eq_getElem hi]; exact e
      have hst := bld_string N N (allE l l.length) wr hbl (by omega)
      have HNE := Lib.hid hne
      have HBL := Lib.hid hbl
      have HBE := Lib.hid hbe
      have HENC := Lib.hid henc
      have HST := Lib.hid hst
      clear hne hbl hbe henc hst
      go_wp2_with fail
      refine HST.out.mono ?_
      rintro e w9 ⟨rfl, hb9⟩
      have HBE9 := Lib.hid (HBE.out.trans hb9)
      clear hb9
      go_wp2_with fail
      go_ret2
      rw [HENC.out]
      exact ⟨rfl, by have := HBE9.out; rw [HN.out] at this; exact this⟩
end Go.Proofs.YtkjghjffdjjedaaDoor.Enc
