/- lines.field: a field out of its text. -/
import Derived.Test.YtkjghjffdjjedaaDoorEnc
import Derived.Test.YtkjghjffdjjedaaDoorPre
import Derived.Test.YtkjghjffdjjedaaDoorShelf
import Derived.Lib.SplitLaws
set_option linter.unusedVariables false
set_option linter.unusedSimpArgs false
namespace Go.Proofs.YtkjghjffdjjedaaDoor.Enc
open Go Go.RowKit Go.Lib Go.Proofs Go.Proofs.YtkjghjffdjjedaaDoorW.PrintWords Go.Proofs.YtkjghjffdjjedaaDoorW.PrintLast
/-- what stands behind a percent sign -/
def codeB (p : List UInt8) : Option UInt8 := if hasPrefix p [50, 53] then some 37 else if hasPrefix p [50, 67] then some 44 else if hasPrefix p [48, 65] then some 10 else none
def goF : List ByteArray → List UInt8 → Option (List UInt8)
  | [], acc => some acc
  | p :: ps, acc => match codeB p.data.toList with
    | some c => goF ps (acc ++ [c] ++ p.data.toList.drop 2)
    | none => none
def partsB (s : ByteArray) : List ByteArray := splitB ⟨#[37]⟩ 0 (countB s ⟨#[37]⟩) s
/-- a field's text read -/
def fieldF (s : ByteArray) : Option (List UInt8) := goF (partsB s).tail ((partsB s).getD 0 ByteArray.empty).data.toList
def sizes (l : List ByteArray) : Nat := (l.map ByteArray.size).sum
theorem sizes_cons (p : ByteArray) (l : List ByteArray) : sizes (p :: l) = p.size + sizes l := by simp [sizes]
theorem splitB_sizes (sep : ByteArray) : ∀ (k : Nat) (s : ByteArray), sizes (splitB sep 0 k s) ≤ s.size := by
  intro k
  induction k with
  | zero => intro s; rw [splitB_zero, sizes_cons]; simp [sizes]
  | succ k ih =>
    intro s
    unfold splitB
    split
    · rw [sizes_cons]; simp [sizes]
    · rw [sizes_cons]
      have h1 := ih (s.extract ((indexB s sep).toNat + sep.size) s.size)
      simp only [ByteArray.size_extract] at h1 ⊢
      omega
theorem parts_sizes (s : ByteArray) : sizes (partsB s) ≤ s.size := splitB_sizes _ _ _
theorem parts_length (s : ByteArray) : (partsB s).length = countB s ⟨#[37]⟩ + 1 := splitB_all ⟨#[37]⟩ (Nat.le_refl 1) 0 _ s rfl
theorem hp_size {p : ByteArray} {a b : UInt8} (h : hasPrefix p.data.toList [a, b] = true) : 2 ≤ p.size := by
  have h1 := (List.isPrefixOf_iff_prefix.1 h).length_le
  have e : p.data.toList.length = p.size := by simp
  rw [e] at h1; exact h1
theorem has_p (s : ByteArray) (a b : UInt8) (r : Bool) (hr : hasPrefix s.data.toList [a, b] = r) (w : World) : Calls Tryd.prog 53 #[.string s, .string ⟨#[a, b]⟩] w fun e w' => e = .returned (.bool r) ∧ w' = w := by
  rw [← hr]; exact has_prefix s ⟨#[a, b]⟩ w
theorem ext2 (p : ByteArray) : (p.extract 2 p.size).data.toList = p.data.toList.drop 2 := by
  rw [ByteArray.data_extract, Array.toList_extract]
  simp only [List.extract]
  exact List.take_of_length_le (by rw [List.length_drop]; have e : p.data.toList.length = p.size := by simp
                                   omega)
theorem goF_hit {p : ByteArray} {c : UInt8} (rs : List ByteArray) (acc : List UInt8) (h : codeB p.data.toList = some c) : goF (p :: rs) acc = goF rs (acc ++ [c] ++ p.data.toList.drop 2) := by
  rw [goF, h]
theorem goF_miss {p : ByteArray} (rs : List ByteArray) (acc : List UInt8) (h : codeB p.data.toList = none) : goF (p :: rs) acc = none := by
  rw [goF, h]
def FRes (s : ByteArray) (e : Ending) : Prop := match fieldF s with
  | some t => e = .returned (.tuple #[.string ⟨t.toArray⟩, .nilIface])
  | none => e = .returned (.tuple #[.string ⟨#[]⟩, .iface 22 (.int .i64 20)])
set_option maxHeartbeats 8000000 in
set_option maxRecDepth 100000 in
theorem field_walk (s : ByteArray) (m : Int) (w : World) (hs : s.size < 4294967281) (hm : w.cell? ⟨4, 0, none⟩ = some (.int .i64 m)) :
    Calls Tryd.prog 35 #[.string s] w fun e w' => FRes s e ∧ Below w.heap.size w w' := by
  have hu44 := Tryd.underlying44
  have hu35 := Tryd.underlying35
  have hu9 := Tryd.underlying9
  have hu22 := Tryd.underlying22
  have hu38 := Tryd.underlying38
  have hsp : Calls Tryd.prog 34 #[.string s, .string ⟨#[37]⟩] w fun e w' => e = .returned (.slice (some ⟨w.heap.size, 0, none⟩) (partsB s).length (partsB s).length) ∧ w' = w.alloc (.cells ((partsB s).map Value.string).toArray 9) := by
    rw [parts_length]
    exact Tryd.strings_Split s ⟨#[37]⟩ m w hs hm (Nat.le_refl 1)
  have hps := parts_sizes s
  have hpl : 1 ≤ (partsB s).length := by rw [parts_length]; omega
  have hpu : (partsB s).length ≤ 4294967282 := by
    rw [parts_length]; have := countB_le ⟨#[37]⟩ (Nat.le_refl 1) s.size s (Nat.le_refl _); omega
  have hfr : ∀ ps, partsB s = ps → fieldF s = goF ps.tail (ps.getD 0 ByteArray.empty).data.toList := fun ps e => by rw [← e]; rfl
  generalize partsB s = ps at *
  have hfr := hfr ps rfl
  obtain ⟨nb, hnb⟩ : ∃ nb, nb = w.heap.size := ⟨_, rfl⟩
  have HB := Lib.hid hnb
  rw [← hnb] at hsp
  have HSP := Lib.hid hsp
  have HPS := Lib.hid hps
  have HFR := Lib.hid hfr
  have HM := Lib.hid hm
  have HS := Lib.hid hs
  clear hsp hps hfr hm hs
  clear hnb
  go_enter Tryd.func35, Tryd.ntmps35
  go_wp2_with fail
  refine HSP.out.mono ?_
  rintro e w1 ⟨rfl, hw1⟩
  have hB1 : Below w.heap.size w w1 := by rw [hw1]; exact (Below.refl _ w).alloc (Nat.le_refl _) _
  have hz1 : w1.heap.size = nb + 1 := by rw [hw1, HB.out]; simp
  have hc1 : ∀ j, j < ps.length → w1.cell? ⟨nb, j, none⟩ = some (.string (ps.getD j ByteArray.empty)) := fun j hj => by
    rw [hw1, HB.out]
    rw [World.cell?, heap_alloc_new]
    simp [hj]
  obtain ⟨N, hN⟩ : ∃ N, N = w1.heap.size := ⟨_, rfl⟩
  obtain ⟨W0, hW0⟩ : ∃ W0, W0 = w1.alloc (.cells #[.pointer none, .slice none 0 0] 44) := ⟨_, rfl⟩
  have hBW : Below N w1 W0 := by rw [hW0, hN]; exact (Below.refl _ w1).alloc (Nat.le_refl _) _
  have hbl0 : Bld N N [] W0 := by rw [hW0, hN]; exact bld_new w1
  have hz0 : N < W0.heap.size := by rw [hW0, hN]; simp
  have hnN : nb < N := by omega
  have hcW : ∀ j, j < ps.length → W0.cell? ⟨nb, j, none⟩ = some (.string (ps.getD j ByteArray.empty)) := fun j hj => (hBW.cell (p := ⟨nb, j, none⟩) hnN).trans (hc1 j hj)
  have hc0 := hcW 0 hpl
  have hpn : (ps.getD 0 ByteArray.empty).size + sizes ps.tail ≤ 4294967281 := by
    have h1 := HPS.out
    have h2 := HS.out
    cases ps with
    | nil => simp at hpl
    | cons p q => rw [sizes_cons] at h1; simp only [List.getD_cons_zero, List.tail_cons]; omega
  have hfr2 := HFR.out
  have hsz0 : (ps.getD 0 ByteArray.empty).data.toList.length = (ps.getD 0 ByteArray.empty).size := by simp
  generalize ps.getD 0 ByteArray.empty = p0 at *
  have hst := bld_str N N [] p0 W0 hbl0 (by rw [List.length_nil]; omega) (by omega)
  rw [List.nil_append] at hst
  have hc0' : (w1.alloc (.cells #[.pointer none, .slice none 0 0] 44)).cell? ⟨nb, 0, none⟩ = some (.string p0) := by rw [← hW0]; exact hc0
  have hB2 : Below w.heap.size w W0 := hB1.trans (hBW.mono (by rw [← HB.out]; omega))
  clear hc0 hc1
  have HW1 := Lib.hid hw1
  have HB1 := Lib.hid hB1
  have HZ1 := Lib.hid hz1
  have HCW := Lib.hid hcW
  have HBW := Lib.hid hBW
  have HBL0 := Lib.hid hbl0
  have HW0 := Lib.hid hW0
  have HN := Lib.hid hN
  have HB2 := Lib.hid hB2
  have HST := Lib.hid hst
  have HPN := Lib.hid hpn
  have HFR2 := Lib.hid hfr2
  have HSZ := Lib.hid hsz0
  clear hw1 hB1 hz1 hcW hBW hbl0 hW0 hN hB2 hst hpn hfr2 hsz0
  go_wp2_with fail
  rw [← HW0.out, ← HN.out]
  refine HST.out.mono ?_
  rintro e w2 ⟨rfl, hbl2, hbe2⟩
  have hz2 := hbe2.size
  have HBL2 := Lib.hid hbl2
  have HBE2 := Lib.hid hbe2
  clear hbl2 hbe2
  go_wp2_with fail
  rotate_left
  · rename_i hne1
    obtain ⟨wo, hwo⟩ : ∃ wo, wo = w := ⟨_, rfl⟩
    subst hwo
    go_loopw [17] (fun i wr => ∃ k acc, k ≤ ps.length - 1 ∧ i = .int .i64 k ∧ Bld N N acc wr ∧ goF ps.tail p0.data.toList = goF (ps.tail.drop k) acc ∧ acc.length + sizes (ps.tail.drop k) ≤ 4294967281 ∧ Below N W0 wr ∧ N < wr.heap.size) (fun i _ => ps.length - (RowKit.intOf i).toNat)
    case atStart => exact ⟨0, p0.data.toList, Nat.zero_le _, rfl, HBL2.out, by rw [List.drop_zero], by rw [List.drop_zero, HSZ.out]; exact HPN.out, HBE2.out, by omega⟩
    case round =>
      obtain ⟨k, acc, hk, rfl, hbl3, hg3, hl3, hbe3, hsz3⟩ := hrel
      by_cases hlt : k < ps.length - 1
      · have hc3 := (hbe3.cell (p := ⟨nb, 1 + k, none⟩) hnN).trans (HCW.out (1 + k) (by omega))
        have hdr : ps.tail.drop k = ps.getD (1 + k) ByteArray.empty :: ps.tail.drop (k + 1) := by
          have h1 : k < ps.tail.length := by rw [List.length_tail]; exact hlt
          rw [List.drop_eq_getElem_cons h1, List.getElem_tail, List.getD_eq_getElem?_getD, List.getElem?_eq_getElem (by omega)]
          simp [Nat.add_comm]
        rw [hdr] at hg3 hl3
        rw [sizes_cons] at hl3
        have hki : (k : Int) < ((ps.length - 1 : Nat) : Int) := by omega
        generalize ps.getD (1 + k) ByteArray.empty = p at *
        have hpsz : p.data.toList.length = p.size := by simp
        have HG3 := Lib.hid hg3
        have HBL3 := Lib.hid hbl3
        have HBE3 := Lib.hid hbe3
        have HDR := Lib.hid hdr
        clear hg3 hbl3 hbe3 hdr
        by_cases h25 : hasPrefix p.data.toList [50, 53] = true
        · have hcd : codeB p.data.toList = some 37 := by unfold codeB; simp [h25]
          have hgn := goF_hit (ps.tail.drop (k + 1)) acc hcd
          have hp2 := hp_size h25
          have hxe := ext2 p
          have hxs : (p.extract 2 p.size).size = p.size - 2 := by simp
          have hwb := fun W (hW : Bld N N acc W) (hN : N ≤ W.heap.size) => bld_byte N N acc 37 W hW (by omega) hN
          have hws := fun W (hW : Bld N N (acc ++ [37]) W) (hN : N ≤ W.heap.size) => bld_str N N (acc ++ [37]) (p.extract 2 p.size) W hW (by rw [List.length_append, List.length_singleton, hxs]; omega) hN
          rw [hxe] at hws
          have HCD := Lib.hid hcd
          have HGN := Lib.hid hgn
          have HWB := Lib.hid hwb
          have HWS := Lib.hid hws
          have HXE := Lib.hid hxe
          have HXS := Lib.hid hxs
          clear hcd hgn hwb hws hxe hxs
          go_wp2_with fail
          refine (has_p p 50 53 _ h25 wr).mono ?_
          rintro e w' ⟨rfl, hw'⟩
          rw [hw']
          clear hw' w'
          go_wp2_with fail
          refine (HWB.out wr HBL3.out (Nat.le_of_lt hsz3)).mono ?_
          rintro e w6 ⟨rfl, hb6, hbe6⟩
          have hz6 := hbe6.size
          have HB6 := Lib.hid hb6
          have HBE6 := Lib.hid hbe6
          clear hb6 hbe6
          go_wp2_with fail
          refine (HWS.out w6 HB6.out (by omega)).mono ?_
          rintro e w7 ⟨rfl, hb7, hbe7⟩
          have hz7 := hbe7.size
          have HB7 := Lib.hid hb7
          have HBE7 := Lib.hid hbe7
          clear hb7 hbe7
          go_wp2_with fail
          exact ⟨⟨k + 1, _, hlt, by go_num, HB7.out, by rw [← HGN.out]; exact HG3.out, by rw [List.length_append, List.length_append, List.length_singleton, List.length_drop]; rw [hpsz]; omega, HBE3.out.trans (HBE6.out.trans HBE7.out), by omega⟩, by simp [RowKit.intOf]; omega⟩
        · have h25 := Bool.eq_false_iff.2 h25
          by_cases h2C : hasPrefix p.data.toList [50, 67] = true
          · have hcd : codeB p.data.toList = some 44 := by unfold codeB; simp [h25, h2C]
            have hgn := goF_hit (ps.tail.drop (k + 1)) acc hcd
            have hp2 := hp_size h2C
            have hxe := ext2 p
            have hxs : (p.extract 2 p.size).size = p.size - 2 := by simp
            have hwb := fun W (hW : Bld N N acc W) (hN : N ≤ W.heap.size) => bld_byte N N acc 44 W hW (by omega) hN
            have hws := fun W (hW : Bld N N (acc ++ [44]) W) (hN : N ≤ W.heap.size) => bld_str N N (acc ++ [44]) (p.extract 2 p.size) W hW (by rw [List.length_append, List.length_singleton, hxs]; omega) hN
            rw [hxe] at hws
            have HCD := Lib.hid hcd
            have HGN := Lib.hid hgn
            have HWB := Lib.hid hwb
            have HWS := Lib.hid hws
            have HXE := Lib.hid hxe
            have HXS := Lib.hid hxs
            clear hcd hgn hwb hws hxe hxs
            go_wp2_with fail
            refine (has_p p 50 53 _ h25 wr).mono ?_
            rintro e w' ⟨rfl, hw'⟩
            rw [hw']
            clear hw' w'
            go_wp2_with fail
            refine (has_p p 50 67 _ h2C wr).mono ?_
            rintro e w' ⟨rfl, hw'⟩
            rw [hw']
            clear hw' w'
            go_wp2_with fail
            refine (HWB.out wr HBL3.out (Nat.le_of_lt hsz3)).mono ?_
            rintro e w6 ⟨rfl, hb6, hbe6⟩
            have hz6 := hbe6.size
            have HB6 := Lib.hid hb6
            have HBE6 := Lib.hid hbe6
            clear hb6 hbe6
            go_wp2_with fail
            refine (HWS.out w6 HB6.out (by omega)).mono ?_
            rintro e w7 ⟨rfl, hb7, hbe7⟩
            have hz7 := hbe7.size
            have HB7 := Lib.hid hb7
            have HBE7 := Lib.hid hbe7
            clear hb7 hbe7
            go_wp2_with fail
            exact ⟨⟨k + 1, _, hlt, by go_num, HB7.out, by rw [← HGN.out]; exact HG3.out, by rw [List.length_append, List.length_append, List.length_singleton, List.length_drop]; rw [hpsz]; omega, HBE3.out.trans (HBE6.out.trans HBE7.out), by omega⟩, by simp [RowKit.intOf]; omega⟩
          · have h2C := Bool.eq_false_iff.2 h2C
            by_cases h0A : hasPrefix p.data.toList [48, 65] = true
            · have hcd : codeB p.data.toList = some 10 := by unfold codeB; simp [h25, h2C, h0A]
              have hgn := goF_hit (ps.tail.drop (k + 1)) acc hcd
              have hp2 := hp_size h0A
              have hxe := ext2 p
              have hxs : (p.extract 2 p.size).size = p.size - 2 := by simp
              have hwb := fun W (hW : Bld N N acc W) (hN : N ≤ W.heap.size) => bld_byte N N acc 10 W hW (by omega) hN
              have hws := fun W (hW : Bld N N (acc ++ [10]) W) (hN : N ≤ W.heap.size) => bld_str N N (acc ++ [10]) (p.extract 2 p.size) W hW (by rw [List.length_append, List.length_singleton, hxs]; omega) hN
              rw [hxe] at hws
              have HCD := Lib.hid hcd
              have HGN := Lib.hid hgn
              have HWB := Lib.hid hwb
              have HWS := Lib.hid hws
              have HXE := Lib.hid hxe
              have HXS := Lib.hid hxs
              clear hcd hgn hwb hws hxe hxs
              go_wp2_with fail
              refine (has_p p 50 53 _ h25 wr).mono ?_
              rintro e w' ⟨rfl, hw'⟩
              rw [hw']
              clear hw' w'
              go_wp2_with fail
              refine (has_p p 50 67 _ h2C wr).mono ?_
              rintro e w' ⟨rfl, hw'⟩
              rw [hw']
              clear hw' w'
              go_wp2_with fail
              refine (has_p p 48 65 _ h0A wr).mono ?_
              rintro e w' ⟨rfl, hw'⟩
              rw [hw']
              clear hw' w'
              go_wp2_with fail
              refine (HWB.out wr HBL3.out (Nat.le_of_lt hsz3)).mono ?_
              rintro e w6 ⟨rfl, hb6, hbe6⟩
              have hz6 := hbe6.size
              have HB6 := Lib.hid hb6
              have HBE6 := Lib.hid hbe6
              clear hb6 hbe6
              go_wp2_with fail
              refine (HWS.out w6 HB6.out (by omega)).mono ?_
              rintro e w7 ⟨rfl, hb7, hbe7⟩
              have hz7 := hbe7.size
              have HB7 := Lib.hid hb7
              have HBE7 := Lib.hid hbe7
              clear hb7 hbe7
              go_wp2_with fail
              exact ⟨⟨k + 1, _, hlt, by go_num, HB7.out, by rw [← HGN.out]; exact HG3.out, by rw [List.length_append, List.length_append, List.length_singleton, List.length_drop]; rw [hpsz]; omega, HBE3.out.trans (HBE6.out.trans HBE7.out), by omega⟩, by simp [RowKit.intOf]; omega⟩
            · have h0A := Bool.eq_false_iff.2 h0A
              have hcd : codeB p.data.toList = none := by unfold codeB; simp [h25, h2C, h0A]
              have hgn := goF_miss (ps.tail.drop (k + 1)) acc hcd
              have HCD := Lib.hid hcd
              have HGN := Lib.hid hgn
              clear hcd hgn
              go_wp2_with fail
              refine (has_p p 50 53 _ h25 wr).mono ?_
              rintro e w' ⟨rfl, hw'⟩
              rw [hw']
              clear hw' w'
              go_wp2_with fail
              refine (has_p p 50 67 _ h2C wr).mono ?_
              rintro e w' ⟨rfl, hw'⟩
              rw [hw']
              clear hw' w'
              go_wp2_with fail
              refine (has_p p 48 65 _ h0A wr).mono ?_
              rintro e w' ⟨rfl, hw'⟩
              rw [hw']
              clear hw' w'
              go_wp2_with fail
              go_ret2
              refine ⟨?_, HB2.out.trans (HBE3.out.mono (by rw [← HB.out]; omega))⟩
              unfold FRes
              rw [HFR2.out, HG3.out, HGN.out]
              rfl
      · obtain rfl : k = ps.length - 1 := by omega
        have HBL3 := Lib.hid hbl3
        have HBE3 := Lib.hid hbe3
        clear hbl3 hbe3
        have hdn : ps.tail.drop (ps.length - 1) = [] := List.drop_eq_nil_of_le (by rw [List.length_tail]; exact Nat.le_refl _)
        rw [hdn, goF] at hg3
        have hfin := bld_string N N acc wr HBL3.out (Nat.le_of_lt hsz3)
        have HG3 := Lib.hid hg3
        have HDN := Lib.hid hdn
        have HFIN := Lib.hid hfin
        clear hg3 hdn hfin
        go_wp2_with fail
        refine HFIN.out.mono ?_
        rintro e w9 ⟨rfl, hbe9⟩
        have HBE9 := Lib.hid hbe9
        clear hbe9
        go_wp2_with fail
        go_ret2
        refine ⟨?_, HB2.out.trans ((HBE3.out.trans HBE9.out).mono (by rw [← HB.out]; omega))⟩
        unfold FRes
        rw [HFR2.out, HG3.out]
        rfl
  · rename_i he1
    have htl : ps.tail = [] := List.eq_nil_of_length_eq_zero (by rw [List.length_tail]; omega)
    have hfe : goF ps.tail p0.data.toList = some p0.data.toList := by rw [htl, goF]
    have hll : p0.data.toList.length ≤ 4294967281 := by have := HPN.out; have h2 := HSZ.out; omega
    have hfin := fun W (hW : Bld N N p0.data.toList W) (hN : N ≤ W.heap.size) => bld_string N N p0.data.toList W hW hN
    have HTL := Lib.hid htl
    have HFE := Lib.hid hfe
    have HLL := Lib.hid hll
    have HFIN := Lib.hid hfin
    clear htl hfe hll hfin
    obtain ⟨wo, hwo⟩ : ∃ wo, wo = w := ⟨_, rfl⟩
    subst hwo
    go_loopw [17] (fun i wr => i = .int .i64 0 ∧ Bld N N p0.data.toList wr ∧ Below N W0 wr ∧ N < wr.heap.size) (fun i _ => 1)
    case atStart => exact ⟨rfl, HBL2.out, HBE2.out, by omega⟩
    case round =>
      obtain ⟨rfl, hbl3, hbe3, hsz3⟩ := hrel
      have HBL3 := Lib.hid hbl3
      have HBE3 := Lib.hid hbe3
      clear hbl3 hbe3
      go_wp2_with fail
      refine (HFIN.out wr HBL3.out (Nat.le_of_lt hsz3)).mono ?_
      rintro e w9 ⟨rfl, hbe9⟩
      have HBE9 := Lib.hid hbe9
      clear hbe9
      go_wp2_with fail
      go_ret2
      refine ⟨?_, HB2.out.trans ((HBE3.out.trans HBE9.out).mono (by rw [← HB.out]; omega))⟩
      unfold FRes
      rw [HFR2.out, HFE.out]
      rfl
end Go.Proofs.YtkjghjffdjjedaaDoor.Enc
