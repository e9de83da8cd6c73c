/- Part of a proof over the given program: Pa, Pb. -/
set_option linter.unusedVariables false
set_option linter.unusedSimpArgs false
section
namespace Go.Proofs.YtehnkebcbomidaaGreatDoor.Rt
structure Ky where
  t : Int
  f : Int
  s : Int
deriving DecidableEq
structure Mg where
  k : Ky
  d : Int
  cl : Int
  bd : Int
deriving DecidableEq
def Ky.lt (a b : Ky) : Prop := a.t < b.t ∨ (a.t = b.t ∧ (a.f < b.f ∨ (a.f = b.f ∧ a.s < b.s)))
instance (a b : Ky) : Decidable (a.lt b) := by unfold Ky.lt; exact inferInstance
theorem Ky.lt_irrefl (a : Ky) : ¬ a.lt a := by unfold Ky.lt; omega
theorem Ky.lt_trans {a b c : Ky} (h : a.lt b) (g : b.lt c) : a.lt c := by unfold Ky.lt at *; omega
theorem Ky.lt_asymm {a b : Ky} (h : a.lt b) : ¬ b.lt a := by unfold Ky.lt at *; omega
theorem Ky.eq_of {a b : Ky} (h : ¬ a.lt b) (g : ¬ b.lt a) : a = b := by
  obtain ⟨a1, a2, a3⟩ := a
  obtain ⟨b1, b2, b3⟩ := b
  simp only [Ky.lt, Ky.mk.injEq] at *
  omega
theorem Ky.lt_of_not {a b : Ky} (h : ¬ a.lt b) (hn : a ≠ b) : b.lt a := by
  by_cases c : b.lt a
  · exact c
  · exact absurd (Ky.eq_of h c) hn
def Srt (Q : List Mg) : Prop := Q.Pairwise (fun a b => a.k.lt b.k)
def ins (m : Mg) : List Mg → List Mg
  | [] => [m]
  | x :: l => if m.k.lt x.k then m :: x :: l else x :: ins m l
structure Mem where
  is : Bool := false
  con : Bool := false
  time : Int := 0
  look : Int := 0
  kind : Int := 0
  ask : Int := 0
  sent : Int := 0
  Q : List Mg := []
  P : List Mg := []
  subs : Nat := 0
deriving DecidableEq
instance : Inhabited Mem := ⟨{}⟩
structure St where
  par : List Int
  above : List Nat
  pubs : List Nat
  l : List Mem
  saving : Bool
deriving DecidableEq
def St.get (S : St) (f : Nat) : Mem := S.l.getD f {}
def St.put (S : St) (f : Nat) (m : Mem) : St := { S with l := S.l.set f m }
def tclamp (t : Int) : Int := if t < 0 then 0 else if 1099511627776 < t then 1125899906842624 else t
def tadd (a b : Int) : Int := tclamp (tclamp a + tclamp b)
structure LM where
  reg : Bool
  con : Bool
  time : Int
  look : Int
  kind : Int
  ask : Int
  first : Int
deriving DecidableEq
instance : Inhabited LM := ⟨⟨false, false, 0, 0, 0, 0, 0⟩⟩
def LM.later (m : LM) (t : Int) : Int := tadd t (max 1 (min m.look 1048576))
def LM.base (m : LM) : Int :=
  if m.kind = 1 then tadd m.ask 0
  else if m.kind = 2 ∨ m.kind = 3 then (if m.con then max (tadd m.time 0) (min (tadd m.ask 0) (tadd m.first 0)) else tadd m.ask 0)
  else tadd m.time 0
def LM.hangs (m : LM) : Bool := decide (m.kind = 2 ∨ m.kind = 3) && m.con
def leastO (out : List Int) (op : List Bool) : Nat → Option Nat
  | 0 => none
  | n + 1 => match leastO out op n with
    | none => if op.getD n false then some n else none
    | some b => if op.getD n false && decide (out.getD n 0 < out.getD b 0) then some n else some b
def roundO (l : List LM) (i : Nat) (op hg : List Bool) (out : List Int) : List Int :=
  (List.range l.length).map fun j => if op.getD j false && hg.getD j false then min (out.getD j 0) ((l.getD j default).later (max (tadd (l.getD j default).time 0) (out.getD i 0))) else out.getD j 0
def outsGo (l : List LM) (hg : List Bool) : Nat → List Int → List Bool → List Int
  | 0, out, _ => out
  | n + 1, out, op => match leastO out op l.length with
    | none => out
    | some i => outsGo l hg n (roundO l i (op.set i false) hg out) (op.set i false)
def outs (l : List LM) : List Int :=
  outsGo l (l.map fun m => m.reg && m.hangs) (l.length + 1) (l.map fun m => if m.reg then m.later m.base else 1125899906842624) (l.map (·.reg))
def lbtsGo (l : List LM) (out : List Int) (i : Int) : Nat → Int
  | 0 => 1125899906842624
  | n + 1 => if ((n : Int) ≠ i) ∧ (l.getD n default).reg = true then min (lbtsGo l out i n) (out.getD n 0) else lbtsGo l out i n
def lbts (l : List LM) (i : Int) : Int := lbtsGo l (outs l) i l.length
def upN (l : List Int) (t : Int) : Nat := l.countP fun x => decide (x ≤ t)
def dec (kind ask time bound : Int) (q : List Int) : Bool × Int × Nat :=
  if kind = 1 then (if bound > ask then (true, ask, upN q ask) else (false, 0, 0))
  else if kind = 2 then
    (if q ≠ [] ∧ q.getD 0 0 ≤ ask then (if bound > q.getD 0 0 then (true, max time (q.getD 0 0), upN q (q.getD 0 0)) else (false, 0, 0))
     else if bound > ask then (true, ask, 0) else (false, 0, 0))
  else if kind = 3 then (true, max time (if q = [] then min ask bound else min (min ask bound) (q.getD 0 0)), q.length)
  else (false, 0, 0)
def Mem.lm (m : Mem) : LM := ⟨decide (m.look > 0), m.con, m.time, m.look, m.kind, m.ask, match m.Q with | [] => 1125899906842624 | q :: _ => q.k.t⟩
def St.members (S : St) : List LM := S.l.map Mem.lm
def St.bound (S : St) (f : Int) : Int := lbts S.members f
def St.byE (S : St) (f : Int) : Int :=
  if f < 0 ∨ 8 ≤ f then 1 else if (S.get f.toNat).is = false then 201 else if S.saving = true then 212 else 0
def St.join (S : St) (f : Int) : Int × St :=
  if f < 0 ∨ 8 ≤ f then (1, S) else if S.saving = true then (212, S) else if (S.get f.toNat).is = true then (200, S)
  else (0, S.put f.toNat { S.get f.toNat with is := true })
def St.resign (S : St) (f : Int) : Int × St :=
  if S.byE f ≠ 0 then (S.byE f, S) else (0, { S.put f.toNat { sent := (S.get f.toNat).sent } with pubs := S.pubs.set f.toNat 0 })
def bitSet (x c : Nat) (is : Bool) : Nat := if is then x ||| 2 ^ c else x &&& (4294967295 - 2 ^ c)
def St.noClass (S : St) (c : Int) : Prop := c < 0 ∨ (S.above.length : Int) ≤ c
instance (S : St) (c : Int) : Decidable (S.noClass c) := by unfold St.noClass; exact inferInstance
def St.publish (S : St) (f c : Int) (is : Bool) : Int × St :=
  if S.byE f ≠ 0 then (S.byE f, S) else if S.noClass c then (81, S)
  else (0, { S with pubs := S.pubs.set f.toNat (bitSet (S.pubs.getD f.toNat 0) c.toNat is) })
def St.subscribe (S : St) (f c : Int) (is : Bool) : Int × St :=
  if S.byE f ≠ 0 then (S.byE f, S) else if S.noClass c then (81, S)
  else (0, S.put f.toNat { S.get f.toNat with subs := bitSet (S.get f.toNat).subs c.toNat is })
def St.late (S : St) (f look : Int) : Bool := (List.range 8).any fun g => decide ((g : Int) ≠ f) && (S.get g).con && decide (tadd (S.get f.toNat).time look ≤ (S.get g).time)
def St.regulate (S : St) (f look : Int) : Int × St :=
  if S.byE f ≠ 0 then (S.byE f, S) else if (S.get f.toNat).look ≠ 0 then (202, S) else if (S.get f.toNat).kind ≠ 0 then (206, S)
  else if look < 1 ∨ 1048576 < look then (80, S) else if S.late f look = true then (207, S)
  else (0, S.put f.toNat { S.get f.toNat with look := look })
def St.unregulate (S : St) (f : Int) : Int × St :=
  if S.byE f ≠ 0 then (S.byE f, S) else if ¬ (S.get f.toNat).look > 0 then (203, S) else if (S.get f.toNat).kind ≠ 0 then (206, S)
  else (0, S.put f.toNat { S.get f.toNat with look := 0 })
def St.constrain (S : St) (f : Int) : Int × St :=
  if S.byE f ≠ 0 then (S.byE f, S) else if (S.get f.toNat).con = true then (204, S) else if (S.get f.toNat).kind ≠ 0 then (206, S)
  else if ¬ S.bound f > (S.get f.toNat).time then (207, S)
  else (0, S.put f.toNat { S.get f.toNat with con := true })
def St.unconstrain (S : St) (f : Int) : Int × St :=
  if S.byE f ≠ 0 then (S.byE f, S) else if (S.get f.toNat).con = false then (205, S) else if (S.get f.toNat).kind ≠ 0 then (206, S)
  else if 64 < (S.get f.toNat).P.length + (S.get f.toNat).Q.length then (2, S)
  else (0, S.put f.toNat { S.get f.toNat with P := (S.get f.toNat).P ++ (S.get f.toNat).Q, Q := [], con := false })
def hears (x y : Nat) : Bool := decide (x &&& y ≠ 0)
def St.route (S : St) (f c : Int) : List Nat := (List.range 8).filter fun g => decide ((g : Int) ≠ f) && hears (S.get g).subs (S.above.getD c.toNat 0)
def St.fullAt (S : St) (reg : Bool) (g : Nat) : Bool := if reg && (S.get g).con then decide (64 ≤ (S.get g).Q.length) else decide (64 ≤ (S.get g).P.length)
def Mem.take (m : Mem) (reg : Bool) (x : Mg) : Mem := if reg && m.con then { m with Q := ins x m.Q } else { m with P := m.P ++ [x] }
def St.give (S : St) (reg : Bool) (x : Mg) : List Nat → St
  | [] => S
  | g :: l => St.give (S.put g ((S.get g).take reg { x with d := (g : Int) })) reg x l
def St.reg (S : St) (f : Int) (timed : Bool) : Bool := timed && decide ((S.get f.toNat).look > 0)
def St.sendE (S : St) (f c body t : Int) (timed : Bool) : Int :=
  if S.byE f ≠ 0 then S.byE f else if S.noClass c then 81 else if (S.pubs.getD f.toNat 0).testBit c.toNat = false then 211
  else if body < 0 ∨ 1000 ≤ body then 1 else if timed = true ∧ (t < 0 ∨ 1099511627776 < t) then 208
  else if S.reg f timed = true ∧ t < (outs S.members).getD f.toNat 0 then 110
  else if (S.route f c).any (S.fullAt (S.reg f timed)) = true then 2 else 0
def St.msg (S : St) (f c body t : Int) (timed : Bool) : Mg := ⟨⟨if timed then t else 0, f, (S.get f.toNat).sent⟩, 0, c, body⟩
def St.send (S : St) (f c body t : Int) (timed : Bool) : Int × Int × St :=
  if S.sendE f c body t timed ≠ 0 then (0, S.sendE f c body t timed, S)
  else
    let S1 := S.give (S.reg f timed) (S.msg f c body t timed) (S.route f c)
    if timed then ((S.get f.toNat).sent, 0, S1.put f.toNat { S1.get f.toNat with sent := (S1.get f.toNat).sent + 1 }) else (0, 0, S1)
def hasMsg (f h : Int) (m : Mg) : Bool := decide (m.k.f = f ∧ m.k.s = h)
def St.retract (S : St) (f h : Int) : Int × St :=
  if S.byE f ≠ 0 then (S.byE f, S)
  else (if (List.range 8).any (fun g => (S.get g).Q.any (hasMsg f h)) then 0 else 209, { S with l := S.l.map fun m => { m with Q := m.Q.filter fun x => !hasMsg f h x } })
def St.ask (S : St) (f kind t : Int) : Int × St :=
  if S.byE f ≠ 0 then (S.byE f, S) else if kind < 1 ∨ 3 < kind then (1, S) else if (S.get f.toNat).kind ≠ 0 then (206, S)
  else if t < 0 ∨ 1099511627776 < t then (208, S) else if t < (S.get f.toNat).time then (207, S)
  else (0, S.put f.toNat { S.get f.toNat with kind := kind, ask := t })
structure Gv where
  plain : List Mg
  timed : List Mg
  granted : Bool
  time : Int
deriving DecidableEq
def St.grant (S : St) (f : Nat) : Bool × Int × Nat :=
  dec (S.get f).kind (S.get f).ask (S.get f).time (if (S.get f).con then S.bound f else 1125899906842624) ((S.get f).Q.map fun m => m.k.t)
def St.look (S : St) (f : Int) : Gv × Int × St :=
  if S.byE f ≠ 0 then (⟨[], [], false, 0⟩, S.byE f, S)
  else
    let m := S.get f.toNat
    if (S.grant f.toNat).1 = false then (⟨m.P, [], false, m.time⟩, 0, S.put f.toNat { m with P := [] })
    else (⟨m.P, m.Q.take (S.grant f.toNat).2.2, true, (S.grant f.toNat).2.1⟩, 0,
      S.put f.toNat { m with P := [], Q := m.Q.drop (S.grant f.toNat).2.2, time := (S.grant f.toNat).2.1, kind := 0, ask := 0 })
def St.begin (S : St) : Int × St :=
  if S.saving = true then (212, S) else if S.l.any (fun m => decide (m.kind > 0)) = true then (206, S) else (0, { S with saving := true })
structure MgOk (n : Nat) (m : Mg) : Prop where
  t0 : 0 ≤ m.k.t
  t1 : m.k.t ≤ 1099511627776
  f0 : 0 ≤ m.k.f
  f1 : m.k.f < 8
  s0 : 0 ≤ m.k.s
  s1 : m.k.s < 9223372036854775808
  d0 : 0 ≤ m.d
  d1 : m.d < 8
  c0 : 0 ≤ m.cl
  c1 : m.cl < n
  b0 : 0 ≤ m.bd
  b1 : m.bd < 1000
structure MemOk (n : Nat) (N : Int) (g : Nat) (m : Mem) : Prop where
  t0 : 0 ≤ m.time
  t1 : m.time ≤ 1099511627776
  l0 : 0 ≤ m.look
  l1 : m.look ≤ 1048576
  k0 : 0 ≤ m.kind
  k1 : m.kind ≤ 3
  a0 : 0 ≤ m.ask
  a1 : m.ask ≤ 1099511627776
  s0 : 0 ≤ m.sent
  s1 : m.sent ≤ N
  srt : Srt m.Q
  q : ∀ x ∈ m.Q, MgOk n x ∧ x.d = g
  p : ∀ x ∈ m.P, MgOk n x ∧ x.d = g
  ql : m.Q.length ≤ 64
  pl : m.P.length ≤ 64
  su : m.subs < 4294967296
  kask : m.kind > 0 → m.time ≤ m.ask
  kno : m.kind = 0 → m.ask = 0
  qno : m.con = false → m.Q = []
  out : m.is = false → m = { sent := m.sent }
structure St.Ok (N : Int) (S : St) : Prop where
  n1 : N < 9223372036854775808
  l8 : S.l.length = 8
  p8 : S.pubs.length = 8
  al : S.above.length = S.par.length
  a0 : 0 < S.par.length
  a1 : S.par.length ≤ 16
  ab : ∀ x ∈ S.above, x < 4294967296
  pb : ∀ x ∈ S.pubs, x < 4294967296
  m : ∀ g, MemOk S.par.length N g (S.get g)
  q1 : ∀ g, ∀ x ∈ (S.get g).Q, x.k.s < (S.get x.k.f.toNat).sent
  p1 : ∀ g, ∀ x ∈ (S.get g).P, x.k.s ≤ (S.get x.k.f.toNat).sent
  pno : ∀ g, (S.get g).is = false → S.pubs.getD g 0 = 0
end Go.Proofs.YtehnkebcbomidaaGreatDoor.Rt
end
section
namespace Go.Proofs.YtehnkebcbomidaaGreatDoor.Rt
theorem St.get_put (S : St) (h8 : S.l.length = 8) (f g : Nat) (hf : f < 8) (m : Mem) : (S.put f m).get g = if g = f then m else S.get g := by
 unfold St.get St.put
 simp only [List.getD_eq_getElem?_getD, List.getElem?_set]
 split
 ·rename_i h; subst h; simp [h8, hf]
 ·rename_i h; rw [if_neg (fun e => h e.symm)]
theorem St.put_l (S : St) (f : Nat) (m : Mem) : (S.put f m).l.length = S.l.length := by simp [St.put]
theorem Ok.put {N : Int} {S : St} (h : S.Ok N) {f : Nat} (hf : f < 8) {N' : Int} (hN : N ≤ N') (hN' : N' < 9223372036854775808) (m : Mem) (hm : MemOk S.par.length N' f m) (hs : (S.get f).sent ≤ m.sent)
  (hq : ∀ x ∈ m.Q, x.k.s < if x.k.f.toNat = f then m.sent else (S.get x.k.f.toNat).sent) (hp : ∀ x ∈ m.P, x.k.s ≤ if x.k.f.toNat = f then m.sent else (S.get x.k.f.toNat).sent) (his : m.is = false → S.pubs.getD f 0 = 0) : (S.put f m).Ok N' := by
 have hle : ∀ k, (S.get k).sent ≤ if k = f then m.sent else (S.get k).sent := fun k => by
  split
  ·rename_i e; subst e; exact hs
  ·exact Int.le_refl _
 refine ⟨hN', by rw [St.put_l]; exact h.l8, h.p8, h.al, h.a0, h.a1, h.ab, h.pb, fun g => ?_, fun g x => ?_, fun g x => ?_, fun g => ?_⟩
 ·rw [St.get_put S h.l8 _ _ hf]
  split
  ·rename_i e; subst e; exact hm
  ·have := h.m g
   exact ⟨this.t0, this.t1, this.l0, this.l1, this.k0, this.k1, this.a0, this.a1, this.s0, Int.le_trans this.s1 hN, this.srt, this.q, this.p, this.ql, this.pl, this.su, this.kask, this.kno, this.qno, this.out⟩
 ·rw [St.get_put S h.l8 _ _ hf, St.get_put S h.l8 _ _ hf]
  intro hx
  by_cases e : g = f
  ·rw [if_pos e] at hx
   have := hq x hx
   split <;> rename_i c
   ·rw [if_pos c] at this; exact this
   ·rw [if_neg c] at this; exact this
  ·rw [if_neg e] at hx
   have h1 := h.q1 g x hx
   have h2 := hle x.k.f.toNat
   split <;> rename_i c
   ·rw [if_pos c] at h2; omega
   ·exact h1
 ·rw [St.get_put S h.l8 _ _ hf, St.get_put S h.l8 _ _ hf]
  intro hx
  by_cases e : g = f
  ·rw [if_pos e] at hx
   have := hp x hx
   split <;> rename_i c
   ·rw [if_pos c] at this; exact this
   ·rw [if_neg c] at this; exact this
  ·rw [if_neg e] at hx
   have h1 := h.p1 g x hx
   have h2 := hle x.k.f.toNat
   split <;> rename_i c
   ·rw [if_pos c] at h2; omega
   ·exact h1
 ·rw [St.get_put S h.l8 _ _ hf]
  split
  ·rename_i e; subst e; exact his
  ·exact h.pno g
theorem Ok.put' {N : Int} {S : St} (h : S.Ok N) {f : Nat} (hf : f < 8) (m : Mem) (hm : MemOk S.par.length N f m) (hs : (S.get f).sent = m.sent) (hq : ∀ x ∈ m.Q, x ∈ (S.get f).Q) (hp : ∀ x ∈ m.P, x ∈ (S.get f).P ∨ x ∈ (S.get f).Q) (his : m.is = false → S.pubs.getD f 0 = 0) : (S.put f m).Ok N := by
 refine Ok.put h hf (Int.le_refl _) h.n1 m hm (by omega) (fun x hx => ?_) (fun x hx => ?_) his
 ·have := h.q1 f x (hq x hx)
  split
  ·rename_i e; rw [e, hs] at this; exact this
  ·exact this
 ·have : x.k.s ≤ (S.get x.k.f.toNat).sent := by
   rcases hp x hx with g | g
   ·exact h.p1 f x g
   ·exact Int.le_of_lt (h.q1 f x g)
  split
  ·rename_i e; rw [e, hs] at this; exact this
  ·exact this
theorem byE_zero {S : St} {f : Int} (h : S.byE f = 0) : 0 ≤ f ∧ f < 8 ∧ f.toNat < 8 ∧ (S.get f.toNat).is = true ∧ S.saving = false := by
 unfold St.byE at h
 split at h
 ·omega
 ·rename_i h1
  split at h
  ·omega
  ·rename_i h2
   split at h
   ·omega
   ·rename_i h3
    exact ⟨by omega, by omega, by omega, by simpa using h2, by simpa using h3⟩
theorem Ok.join {N : Int} {S : St} (h : S.Ok N) (f : Int) : (S.join f).2.Ok N := by
 unfold St.join
 split
 ·exact h
 ·rename_i h1
  split
  ·exact h
  ·split
   ·exact h
   ·rename_i h3
    have hf : f.toNat < 8 := by omega
    have hm := h.m f.toNat
    refine Ok.put' h hf _ ⟨hm.t0, hm.t1, hm.l0, hm.l1, hm.k0, hm.k1, hm.a0, hm.a1, hm.s0, hm.s1, hm.srt, hm.q, hm.p, hm.ql, hm.pl, hm.su, hm.kask, hm.kno, hm.qno, fun e => by cases e⟩ rfl (fun x hx => hx) (fun x hx => .inl hx) (fun e => by cases e)
theorem memOk_blank (n : Nat) (N : Int) (g : Nat) (s : Int) (h0 : 0 ≤ s) (h1 : s ≤ N) : MemOk n N g { sent := s } :=
 ⟨by simp, by simp, by simp, by simp, by simp, by simp, by simp, by simp, h0, h1, List.Pairwise.nil, (fun x hx => by cases hx), (fun x hx => by cases hx), by simp, by simp, by simp, by simp, by simp, by simp, by simp⟩
theorem Ok.pubs {N : Int} {S : St} (h : S.Ok N) {f : Nat} (hf : f < 8) (x : Nat) (hx : x < 4294967296) (his : (S.get f).is = false → x = 0) : St.Ok N { S with pubs := S.pubs.set f x } := by
 refine ⟨h.n1, h.l8, by simp [h.p8], h.al, h.a0, h.a1, h.ab, fun y hy => ?_, h.m, h.q1, h.p1, fun g hg => ?_⟩
 ·rcases List.mem_or_eq_of_mem_set hy with e | e
  ·exact h.pb y e
  ·rw [e]; exact hx
 ·simp only [List.getD_eq_getElem?_getD, List.getElem?_set]
  split
  ·rename_i e; subst e
   have := his hg
   simp [h.p8, hf, this]
  ·have := h.pno g hg
   rwa [List.getD_eq_getElem?_getD] at this
theorem Ok.resign {N : Int} {S : St} (h : S.Ok N) (f : Int) : (S.resign f).2.Ok N := by
 unfold St.resign
 split
 ·exact h
 ·rename_i h1
  obtain ⟨h2, h3, hf, h4, h5⟩ := byE_zero (Classical.not_not.1 h1)
  have hm := h.m f.toNat
  have hb := memOk_blank S.par.length N f.toNat _ hm.s0 hm.s1
  have hz : ({ S with pubs := S.pubs.set f.toNat 0 } : St).Ok N := Ok.pubs h hf 0 (by decide) (fun _ => rfl)
  exact Ok.put' hz hf _ hb rfl (fun x hx => by cases hx) (fun x hx => by cases hx) (fun _ => by simp [List.getD_eq_getElem?_getD, List.getElem?_set, h.p8, hf])
theorem bitSet_lt (x c : Nat) (is : Bool) (hx : x < 4294967296) (hc : c < 16) : bitSet x c is < 4294967296 := by
 unfold bitSet
 split
 ·exact Nat.or_lt_two_pow (n := 32) hx (Nat.lt_of_lt_of_le (Nat.pow_lt_pow_right (by decide) hc) (by decide))
 ·exact Nat.lt_of_le_of_lt Nat.and_le_left hx
theorem Ok.publish {N : Int} {S : St} (h : S.Ok N) (f c : Int) (is : Bool) : (S.publish f c is).2.Ok N := by
 unfold St.publish
 split
 ·exact h
 ·rename_i h1
  obtain ⟨h2, h3, hf, h4, h5⟩ := byE_zero (Classical.not_not.1 h1)
  split
  ·exact h
  ·rename_i h6
   unfold St.noClass at h6
   have := h.al
   have := h.a1
   refine Ok.pubs h hf _ (bitSet_lt _ _ _ ?_ (by omega)) (fun e => by rw [h4] at e; cases e)
   have hp := h.p8
   rw [List.getD_eq_getElem?_getD, List.getElem?_eq_getElem (by omega)]
   exact h.pb _ (List.getElem_mem _)
theorem Ok.subscribe {N : Int} {S : St} (h : S.Ok N) (f c : Int) (is : Bool) : (S.subscribe f c is).2.Ok N := by
 unfold St.subscribe
 split
 ·exact h
 ·rename_i h1
  obtain ⟨h2, h3, hf, h4, h5⟩ := byE_zero (Classical.not_not.1 h1)
  split
  ·exact h
  ·rename_i h6
   unfold St.noClass at h6
   have := h.al
   have := h.a1
   have hm := h.m f.toNat
   exact Ok.put' h hf _ ⟨hm.t0, hm.t1, hm.l0, hm.l1, hm.k0, hm.k1, hm.a0, hm.a1, hm.s0, hm.s1, hm.srt, hm.q, hm.p, hm.ql, hm.pl, bitSet_lt _ _ _ hm.su (by omega), hm.kask, hm.kno, hm.qno, fun e => by rw [h4] at e; cases e⟩ rfl (fun x hx => hx) (fun x hx => .inl hx) (fun e => by rw [h4] at e; cases e)
theorem Ok.regulate {N : Int} {S : St} (h : S.Ok N) (f k : Int) : (S.regulate f k).2.Ok N := by
 unfold St.regulate
 split
 ·exact h
 ·rename_i h1
  obtain ⟨h2, h3, hf, h4, h5⟩ := byE_zero (Classical.not_not.1 h1)
  split
  ·exact h
  ·split
   ·exact h
   ·split
    ·exact h
    ·split
     ·exact h
     ·have hm := h.m f.toNat
      exact Ok.put' h hf _ ⟨hm.t0, hm.t1, by show 0 ≤ k; omega, by show k ≤ 1048576; omega, hm.k0, hm.k1, hm.a0, hm.a1, hm.s0, hm.s1, hm.srt, hm.q, hm.p, hm.ql, hm.pl, hm.su, hm.kask, hm.kno, hm.qno, fun e => by rw [h4] at e; cases e⟩ rfl (fun x hx => hx) (fun x hx => .inl hx) (fun e => by rw [h4] at e; cases e)
theorem Ok.unregulate {N : Int} {S : St} (h : S.Ok N) (f : Int) : (S.unregulate f).2.Ok N := by
 unfold St.unregulate
 split
 ·exact h
 ·rename_i h1
  obtain ⟨h2, h3, hf, h4, h5⟩ := byE_zero (Classical.not_not.1 h1)
  split
  ·exact h
  ·split
   ·exact h
   ·have hm := h.m f.toNat
    exact Ok.put' h hf _ ⟨hm.t0, hm.t1, Int.le_refl _, by show (0 : Int) ≤ 1048576; omega, hm.k0, hm.k1, hm.a0, hm.a1, hm.s0, hm.s1, hm.srt, hm.q, hm.p, hm.ql, hm.pl, hm.su, hm.kask, hm.kno, hm.qno, fun e => by rw [h4] at e; cases e⟩ rfl (fun x hx => hx) (fun x hx => .inl hx) (fun e => by rw [h4] at e; cases e)
theorem Ok.constrain {N : Int} {S : St} (h : S.Ok N) (f : Int) : (S.constrain f).2.Ok N := by
 unfold St.constrain
 split
 ·exact h
 ·rename_i h1
  obtain ⟨h2, h3, hf, h4, h5⟩ := byE_zero (Classical.not_not.1 h1)
  split
  ·exact h
  ·split
   ·exact h
   ·split
    ·exact h
    ·have hm := h.m f.toNat
     exact Ok.put' h hf _ ⟨hm.t0, hm.t1, hm.l0, hm.l1, hm.k0, hm.k1, hm.a0, hm.a1, hm.s0, hm.s1, hm.srt, hm.q, hm.p, hm.ql, hm.pl, hm.su, hm.kask, hm.kno, (fun e => by cases e), fun e => by rw [h4] at e; cases e⟩ rfl (fun x hx => hx) (fun x hx => .inl hx) (fun e => by rw [h4] at e; cases e)
theorem Ok.unconstrain {N : Int} {S : St} (h : S.Ok N) (f : Int) : (S.unconstrain f).2.Ok N := by
 unfold St.unconstrain
 split
 ·exact h
 ·rename_i h1
  obtain ⟨h2, h3, hf, h4, h5⟩ := byE_zero (Classical.not_not.1 h1)
  split
  ·exact h
  ·split
   ·exact h
   ·split
    ·exact h
    ·have hm := h.m f.toNat
     refine Ok.put' h hf _ ⟨hm.t0, hm.t1, hm.l0, hm.l1, hm.k0, hm.k1, hm.a0, hm.a1, hm.s0, hm.s1, List.Pairwise.nil, (fun x hx => by cases hx), (fun x hx => ?_), by simp, by simp; omega, hm.su, hm.kask, hm.kno, (fun _ => rfl), fun e => by rw [h4] at e; cases e⟩ rfl (fun x hx => by cases hx) (fun x hx => List.mem_append.1 hx) (fun e => by rw [h4] at e; cases e)
     rcases List.mem_append.1 hx with g | g
     ·exact hm.p x g
     ·exact hm.q x g
theorem Ok.ask {N : Int} {S : St} (h : S.Ok N) (f kind t : Int) : (S.ask f kind t).2.Ok N := by
 unfold St.ask
 split
 ·exact h
 ·rename_i h1
  obtain ⟨h2, h3, hf, h4, h5⟩ := byE_zero (Classical.not_not.1 h1)
  split
  ·exact h
  ·split
   ·exact h
   ·split
    ·exact h
    ·split
     ·exact h
     ·have hm := h.m f.toNat
      exact Ok.put' h hf _ ⟨hm.t0, hm.t1, hm.l0, hm.l1, by show 0 ≤ kind; omega, by show kind ≤ 3; omega, by show 0 ≤ t; omega, by show t ≤ 1099511627776; omega, hm.s0, hm.s1, hm.srt, hm.q, hm.p, hm.ql, hm.pl, hm.su, (fun _ => by show (S.get f.toNat).time ≤ t; omega), (fun e => by have : kind = 0 := e; omega), hm.qno, fun e => by rw [h4] at e; cases e⟩ rfl (fun x hx => hx) (fun x hx => .inl hx) (fun e => by rw [h4] at e; cases e)
theorem Ok.begin {N : Int} {S : St} (h : S.Ok N) : (S.begin).2.Ok N := by
 unfold St.begin
 split
 ·exact h
 ·split
  ·exact h
  ·exact ⟨h.n1, h.l8, h.p8, h.al, h.a0, h.a1, h.ab, h.pb, h.m, h.q1, h.p1, h.pno⟩
theorem get_map (S : St) (F : Mem → Mem) (hF : F {} = {}) (g : Nat) : ({ S with l := S.l.map F } : St).get g = F (S.get g) := by
 unfold St.get
 simp only [List.getD_eq_getElem?_getD, List.getElem?_map]
 cases S.l[g]? with
 | none => simp [hF]
 | some x => rfl
theorem Ok.retract {N : Int} {S : St} (h : S.Ok N) (f k : Int) : (S.retract f k).2.Ok N := by
 unfold St.retract
 split
 ·exact h
 ·have hg := get_map S (fun m => { m with Q := m.Q.filter fun x => !hasMsg f k x }) rfl
  refine ⟨h.n1, by simp [h.l8], h.p8, h.al, h.a0, h.a1, h.ab, h.pb, fun g => ?_, fun g x => ?_, fun g x => ?_, fun g => ?_⟩
  ·rw [hg]
   have hm := h.m g
   refine ⟨hm.t0, hm.t1, hm.l0, hm.l1, hm.k0, hm.k1, hm.a0, hm.a1, hm.s0, hm.s1, List.Pairwise.sublist List.filter_sublist hm.srt, (fun x hx => hm.q x (List.mem_filter.1 hx).1), hm.p, Nat.le_trans (List.length_filter_le _ _) hm.ql, hm.pl, hm.su, hm.kask, hm.kno, (fun e => by have := hm.qno e; simp [this]), fun e => ?_⟩
   have := hm.out e
   generalize S.get g = M at this
   simp only at e
   rw [this]
   simp
  ·rw [hg, hg]
   intro hx
   exact h.q1 g x (List.mem_filter.1 hx).1
  ·rw [hg, hg]
   exact h.p1 g x
  ·rw [hg]
   exact h.pno g
theorem mem_ins (m x : Mg) (Q : List Mg) : x ∈ ins m Q ↔ x = m ∨ x ∈ Q := by
 induction Q with
 | nil => simp [ins]
 | cons y l ih =>
  unfold ins
  split
  ·simp
  ·simp [ih]
   constructor
   ·rintro (h | h | h)
    ·exact .inr (.inl h)
    ·exact .inl h
    ·exact .inr (.inr h)
   ·rintro (h | h | h)
    ·exact .inr (.inl h)
    ·exact .inl h
    ·exact .inr (.inr h)
theorem ins_length (m : Mg) (Q : List Mg) : (ins m Q).length = Q.length + 1 := by
 induction Q with
 | nil => rfl
 | cons y l ih =>
  unfold ins
  split
  ·rfl
  ·simp [ih]
theorem ins_srt (m : Mg) (Q : List Mg) (h : Srt Q) (hn : ∀ x ∈ Q, x.k ≠ m.k) : Srt (ins m Q) := by
 induction Q with
 | nil => simp [ins, Srt]
 | cons y l ih =>
  obtain ⟨h1, h2⟩ := List.pairwise_cons.1 h
  unfold ins
  split
  ·rename_i c
   refine List.pairwise_cons.2 ⟨fun x hx => ?_, h⟩
   rcases List.mem_cons.1 hx with e | e
   ·rw [e]; exact c
   ·exact Ky.lt_trans c (h1 x e)
  ·rename_i c
   refine List.pairwise_cons.2 ⟨fun x hx => ?_, ih h2 (fun x hx => hn x (List.mem_cons_of_mem _ hx))⟩
   rcases (mem_ins m x l).1 hx with e | e
   ·rw [e]; exact Ky.lt_of_not c (fun e => hn y List.mem_cons_self e.symm)
   ·exact h1 x e
theorem Ok.give {N : Int} (reg : Bool) (m : Mg) : ∀ (L : List Nat) (S : St), S.Ok N → L.Nodup → (∀ g ∈ L, g < 8 ∧ S.fullAt reg g = false ∧ (S.get g).is = true ∧ ∀ x ∈ (S.get g).Q, x.k ≠ m.k) →
  (∀ g : Nat, g < 8 → MgOk S.par.length { m with d := (g : Int) }) → m.k.s ≤ (S.get m.k.f.toNat).sent → (reg = true → m.k.s < (S.get m.k.f.toNat).sent) → (S.give reg m L).Ok N := by
 intro L
 induction L with
 | nil => intro S h _ _ _ _ _; exact h
 | cons g L ih =>
  intro S h hnd hg hm hs hs2
  obtain ⟨hnd1, hnd2⟩ := List.nodup_cons.1 hnd
  obtain ⟨g1, g2, g3, g4⟩ := hg g List.mem_cons_self
  have hM := h.m g
  have hmg := hm g g1
  have hsent : ((S.get g).take reg { m with d := (g : Int) }).sent = (S.get g).sent := by unfold Mem.take; split <;> rfl
  have hisT : ((S.get g).take reg { m with d := (g : Int) }).is = (S.get g).is := by unfold Mem.take; split <;> rfl
  have hget : ∀ k, ((S.put g ((S.get g).take reg { m with d := (g : Int) })).get k).sent = (S.get k).sent := fun k => by
   rw [St.get_put S h.l8 _ _ g1]
   split
   ·rename_i e; subst e; exact hsent
   ·rfl
  have hok : (S.put g ((S.get g).take reg { m with d := (g : Int) })).Ok N := by
   refine Ok.put h g1 (Int.le_refl _) h.n1 _ ?_ (by rw [hsent]; exact Int.le_refl _) ?_ ?_ (fun e => by rw [hisT, g3] at e; cases e)
   ·unfold St.fullAt at g2
    unfold Mem.take
    split
    ·rename_i hr
     rw [if_pos hr] at g2
     simp only [decide_eq_false_iff_not] at g2
     simp only [Bool.and_eq_true] at hr
     refine ⟨hM.t0, hM.t1, hM.l0, hM.l1, hM.k0, hM.k1, hM.a0, hM.a1, hM.s0, hM.s1, ins_srt _ _ hM.srt g4, (fun x hx => ?_), hM.p, by simp only [ins_length]; omega, hM.pl, hM.su, hM.kask, hM.kno, (fun e => by rw [hr.2] at e; cases e), fun e => by rw [g3] at e; cases e⟩
     rcases (mem_ins _ x _).1 hx with e | e
     ·rw [e]; exact ⟨hmg, rfl⟩
     ·exact hM.q x e
    ·rename_i hr
     rw [if_neg hr] at g2
     simp only [decide_eq_false_iff_not] at g2
     refine ⟨hM.t0, hM.t1, hM.l0, hM.l1, hM.k0, hM.k1, hM.a0, hM.a1, hM.s0, hM.s1, hM.srt, hM.q, (fun x hx => ?_), hM.ql, by simp only [List.length_append, List.length_singleton]; omega, hM.su, hM.kask, hM.kno, hM.qno, fun e => by rw [g3] at e; cases e⟩
     rcases List.mem_append.1 hx with e | e
     ·exact hM.p x e
     ·rw [List.mem_singleton.1 e]; exact ⟨hmg, rfl⟩
   ·intro x hx
    rw [hsent]
    have : x.k.s < (S.get x.k.f.toNat).sent := by
     unfold Mem.take at hx
     split at hx
     ·rename_i hr
      simp only [Bool.and_eq_true] at hr
      rcases (mem_ins _ x _).1 hx with e | e
      ·rw [e]; exact hs2 hr.1
      ·exact h.q1 g x e
     ·exact h.q1 g x hx
    split
    ·rename_i e; rw [e] at this; exact this
    ·exact this
   ·intro x hx
    rw [hsent]
    have : x.k.s ≤ (S.get x.k.f.toNat).sent := by
     unfold Mem.take at hx
     split at hx
     ·exact h.p1 g x hx
     ·rcases List.mem_append.1 hx with e | e
      ·exact h.p1 g x e
      ·rw [List.mem_singleton.1 e]; exact hs
    split
    ·rename_i e; rw [e] at this; exact this
    ·exact this
  unfold St.give
  refine ih _ hok hnd2 (fun k hk => ?_) hm (by rw [hget]; exact hs) (by rw [hget]; exact hs2)
  obtain ⟨k1, k2, k3, k4⟩ := hg k (List.mem_cons_of_mem _ hk)
  have hne : k ≠ g := fun e => hnd1 (e ▸ hk)
  have hkk : (S.put g ((S.get g).take reg { m with d := (g : Int) })).get k = S.get k := by rw [St.get_put S h.l8 _ _ g1, if_neg hne]
  refine ⟨k1, ?_, ?_, ?_⟩
  ·unfold St.fullAt at k2 ⊢; rw [hkk]; exact k2
  ·rw [hkk]; exact k3
  ·rw [hkk]; exact k4
theorem give_l (reg : Bool) (m : Mg) : ∀ (L : List Nat) (S : St), (S.give reg m L).l.length = S.l.length := by
 intro L
 induction L with
 | nil => intro S; rfl
 | cons g L ih => intro S; unfold St.give; rw [ih, St.put_l]
theorem give_get (reg : Bool) (m : Mg) : ∀ (L : List Nat) (S : St), S.l.length = 8 → L.Nodup → (∀ g ∈ L, g < 8) → ∀ k, (S.give reg m L).get k = if k ∈ L then (S.get k).take reg { m with d := (k : Int) } else S.get k := by
 intro L
 induction L with
 | nil => intro S _ _ _ k; simp [St.give]
 | cons g L ih =>
  intro S h8 hnd hg k
  obtain ⟨hnd1, hnd2⟩ := List.nodup_cons.1 hnd
  unfold St.give
  rw [ih _ (by rw [St.put_l]; exact h8) hnd2 (fun x hx => hg x (List.mem_cons_of_mem _ hx)) k, St.get_put S h8 _ _ (hg g List.mem_cons_self)]
  by_cases e : k = g
  ·subst e
   simp [hnd1]
  ·simp [e]
theorem put_comm (S : St) (f g : Nat) (a b : Mem) (h : f ≠ g) : (S.put f a).put g b = (S.put g b).put f a := by
 unfold St.put
 simp only [St.mk.injEq, true_and, and_true]
 exact List.set_comm _ _ h
theorem get_put_ne (S : St) (f g : Nat) (m : Mem) (h : g ≠ f) : (S.put f m).get g = S.get g := by
 unfold St.get St.put
 simp only [List.getD_eq_getElem?_getD, List.getElem?_set]
 rw [if_neg (fun e => h e.symm)]
theorem give_put (reg : Bool) (m : Mg) (f : Nat) (a : Mem) : ∀ (L : List Nat) (S : St), f ∉ L → (S.give reg m L).put f a = (S.put f a).give reg m L := by
 intro L
 induction L with
 | nil => intro S _; rfl
 | cons g L ih =>
  intro S hf
  have h1 : f ≠ g := fun e => hf (e ▸ List.mem_cons_self)
  unfold St.give
  rw [ih _ (fun e => hf (List.mem_cons_of_mem _ e)), get_put_ne S f g a h1.symm, put_comm _ _ _ _ _ h1.symm]
theorem route_mem {S : St} {f c : Int} {g : Nat} (h : g ∈ S.route f c) : g < 8 ∧ (g : Int) ≠ f ∧ hears (S.get g).subs (S.above.getD c.toNat 0) = true := by
 unfold St.route at h
 simpa [and_assoc] using h
theorem route_nodup (S : St) (f c : Int) : (S.route f c).Nodup := List.Nodup.sublist List.filter_sublist List.nodup_range
theorem sendE_zero {S : St} {f c b t : Int} {tm : Bool} (h : S.sendE f c b t tm = 0) : S.byE f = 0 ∧ ¬ S.noClass c ∧ 0 ≤ b ∧ b < 1000 ∧ (tm = true → 0 ≤ t ∧ t ≤ 1099511627776) ∧ (S.reg f tm = true → (outs S.members).getD f.toNat 0 ≤ t) ∧ ∀ g ∈ S.route f c, S.fullAt (S.reg f tm) g = false := by
 unfold St.sendE at h
 repeat' (split at h <;> try omega)
 rename_i h1 h2 h3 h4 h5 h6 h7
 refine ⟨Classical.not_not.1 h1, h2, by omega, by omega, fun e => ?_, fun e => ?_, fun g hg => ?_⟩
 ·simp only [not_and, e, true_implies] at h5; omega
 ·simp only [not_and, e, true_implies] at h6; omega
 ·simp only [List.any_eq_true, not_exists, not_and, Bool.not_eq_true] at h7
  exact h7 g hg
theorem Ok.send {N : Int} {S : St} (h : S.Ok N) (hN : N + 1 < 9223372036854775808) (f c b t : Int) (tm : Bool) : (S.send f c b t tm).2.2.Ok (N + 1) := by
 have hup : S.Ok (N + 1) := ⟨hN, h.l8, h.p8, h.al, h.a0, h.a1, h.ab, h.pb, (fun g => by have := h.m g; exact ⟨this.t0, this.t1, this.l0, this.l1, this.k0, this.k1, this.a0, this.a1, this.s0, by have := this.s1; omega, this.srt, this.q, this.p, this.ql, this.pl, this.su, this.kask, this.kno, this.qno, this.out⟩), h.q1, h.p1, h.pno⟩
 unfold St.send
 by_cases he : S.sendE f c b t tm ≠ 0
 ·rw [if_pos he]; exact hup
 ·rw [if_neg he]
  have he : S.sendE f c b t tm = 0 := Classical.not_not.1 he
  obtain ⟨e1, e2, e3, e4, e5, e6, e7⟩ := sendE_zero he
  obtain ⟨f0, f1, f2, f3, f4⟩ := byE_zero e1
  have hfr : f.toNat ∉ S.route f c := fun k => (route_mem k).2.1 (by omega)
  have hsf := (h.m f.toNat).s0
  have hsf1 := (h.m f.toNat).s1
  have hmsg : ∀ g : Nat, g < 8 → MgOk S.par.length { S.msg f c b t tm with d := (g : Int) } := fun g hg => by
   unfold St.noClass at e2
   have := h.al
   unfold St.msg
   refine ⟨?_, ?_, f0, f1, hsf, by show (S.get f.toNat).sent < _; omega, by show (0 : Int) ≤ g; omega, by show (g : Int) < 8; omega, by show 0 ≤ c; omega, by show c < S.par.length; omega, e3, e4⟩
   ·show 0 ≤ (if tm = true then t else 0)
    split
    ·exact (e5 (by assumption)).1
    ·omega
   ·show (if tm = true then t else 0) ≤ 1099511627776
    split
    ·exact (e5 (by assumption)).2
    ·omega
  have hkey : ∀ g, ∀ x ∈ (S.get g).Q, x.k ≠ (S.msg f c b t tm).k := fun g x hx e => by
   have h1 := h.q1 g x hx
   rw [e] at h1
   exact Int.lt_irrefl _ h1
  have his : ∀ g ∈ S.route f c, (S.get g).is = true := fun g hg => by
   have h1 := (route_mem hg).2.2
   cases e : (S.get g).is with
   | true => rfl
   | false =>
    have := (h.m g).out e
    rw [this] at h1
    simp [hears] at h1
  cases tm with
  | false =>
   simp only [Bool.false_eq_true, if_false]
   exact Ok.give _ _ _ _ hup (route_nodup S f c) (fun g hg => ⟨(route_mem hg).1, e7 g hg, his g hg, hkey g⟩) hmsg (Int.le_refl _) (fun e => by simp [St.reg] at e)
  | true =>
   simp only [if_true]
   have hgf : ((S.give (S.reg f true) (S.msg f c b t true) (S.route f c)).get f.toNat) = S.get f.toNat := by
    rw [give_get _ _ _ _ h.l8 (route_nodup S f c) (fun g hg => (route_mem hg).1), if_neg hfr]
   rw [hgf, give_put _ _ _ _ _ _ hfr]
   have hm := h.m f.toNat
   have hok : (S.put f.toNat { S.get f.toNat with sent := (S.get f.toNat).sent + 1 }).Ok (N + 1) := by
    refine Ok.put h f2 (by omega) hN _ ⟨hm.t0, hm.t1, hm.l0, hm.l1, hm.k0, hm.k1, hm.a0, hm.a1, by show 0 ≤ (S.get f.toNat).sent + 1; omega, by show (S.get f.toNat).sent + 1 ≤ N + 1; omega, hm.srt, hm.q, hm.p, hm.ql, hm.pl, hm.su, hm.kask, hm.kno, hm.qno, fun e => by rw [f3] at e; cases e⟩ (by show (S.get f.toNat).sent ≤ (S.get f.toNat).sent + 1; omega) (fun x hx => ?_) (fun x hx => ?_) (fun e => by rw [f3] at e; cases e)
    ·have := h.q1 f.toNat x hx
     split
     ·rename_i e; rw [e] at this; show x.k.s < (S.get f.toNat).sent + 1; omega
     ·exact this
    ·have := h.p1 f.toNat x hx
     split
     ·rename_i e; rw [e] at this; show x.k.s ≤ (S.get f.toNat).sent + 1; omega
     ·exact this
   have hne : ∀ g ∈ S.route f c, g ≠ f.toNat := fun g hg e => hfr (e ▸ hg)
   have hsn : ((S.put f.toNat { S.get f.toNat with sent := (S.get f.toNat).sent + 1 }).get f.toNat).sent = (S.get f.toNat).sent + 1 := by rw [St.get_put S h.l8 _ _ f2, if_pos rfl]
   refine Ok.give _ _ _ _ hok (route_nodup S f c) (fun g hg => ⟨(route_mem hg).1, ?_, ?_, ?_⟩) hmsg ?_ (fun _ => ?_)
   ·have := e7 g hg
    unfold St.fullAt at this ⊢
    rw [get_put_ne S _ _ _ (hne g hg)]
    exact this
   ·rw [get_put_ne S _ _ _ (hne g hg)]; exact his g hg
   ·rw [get_put_ne S _ _ _ (hne g hg)]; exact hkey g
   ·show (S.get f.toNat).sent ≤ ((S.put f.toNat { S.get f.toNat with sent := (S.get f.toNat).sent + 1 }).get f.toNat).sent
    rw [hsn]; omega
   ·show (S.get f.toNat).sent < ((S.put f.toNat { S.get f.toNat with sent := (S.get f.toNat).sent + 1 }).get f.toNat).sent
    rw [hsn]; omega
theorem upN_le (l : List Int) (t : Int) : upN l t ≤ l.length := by unfold upN; exact List.countP_le_length
theorem dec_bounds {kind ask time bound : Int} {q : List Int} (h : (dec kind ask time bound q).1 = true) (h0 : 0 ≤ time) (h1 : time ≤ 1099511627776) (h2 : time ≤ ask) (h3 : ask ≤ 1099511627776) :
  kind ≠ 0 ∧ time ≤ (dec kind ask time bound q).2.1 ∧ (dec kind ask time bound q).2.1 ≤ ask ∧ (dec kind ask time bound q).2.2 ≤ q.length := by
 unfold dec at h ⊢
 by_cases k1 : kind = 1
 ·simp only [if_pos k1] at h ⊢
  split at h
  ·rename_i c; simp only [if_pos c]; exact ⟨by omega, h2, Int.le_refl _, upN_le _ _⟩
  ·cases h
 ·simp only [if_neg k1] at h ⊢
  by_cases k2 : kind = 2
  ·simp only [if_pos k2] at h ⊢
   split at h
   ·rename_i c
    simp only [if_pos c]
    split at h
    ·rename_i d; simp only [if_pos d]; exact ⟨by omega, by omega, by omega, upN_le _ _⟩
    ·cases h
   ·rename_i c
    simp only [if_neg c]
    split at h
    ·rename_i d; simp only [if_pos d]; exact ⟨by omega, h2, Int.le_refl _, Nat.zero_le _⟩
    ·cases h
  ·simp only [if_neg k2] at h ⊢
   split at h
   ·rename_i c
    simp only [if_pos c]
    refine ⟨by omega, by omega, ?_, Nat.le_refl _⟩
    split <;> omega
   ·cases h
theorem Ok.look {N : Int} {S : St} (h : S.Ok N) (f : Int) : (S.look f).2.2.Ok N := by
 unfold St.look
 split
 ·exact h
 ·rename_i h1
  obtain ⟨h2, h3, hf, h4, h5⟩ := byE_zero (Classical.not_not.1 h1)
  have hm := h.m f.toNat
  simp only
  split
  ·exact Ok.put' h hf _ ⟨hm.t0, hm.t1, hm.l0, hm.l1, hm.k0, hm.k1, hm.a0, hm.a1, hm.s0, hm.s1, hm.srt, hm.q, (fun x hx => by cases hx), hm.ql, by simp, hm.su, hm.kask, hm.kno, hm.qno, fun e => by rw [h4] at e; cases e⟩ rfl (fun x hx => hx) (fun x hx => by cases hx) (fun e => by rw [h4] at e; cases e)
  ·rename_i hg
   have hg : (S.grant f.toNat).1 = true := by simpa using hg
   have hk0 := hm.k0
   have hk : (S.get f.toNat).kind > 0 := by
    unfold St.grant dec at hg
    by_cases c : (S.get f.toNat).kind = 0
    ·simp [c] at hg
    ·omega
   unfold St.grant at hg ⊢
   obtain ⟨d1, d2, d3, d4⟩ := dec_bounds hg hm.t0 hm.t1 (hm.kask hk) hm.a1
   have := hm.t0
   have := hm.a1
   refine Ok.put' h hf _ ⟨by show 0 ≤ (dec _ _ _ _ _).2.1; omega, by show (dec _ _ _ _ _).2.1 ≤ 1099511627776; omega, hm.l0, hm.l1, by simp, by simp, by simp, by simp, hm.s0, hm.s1, List.Pairwise.sublist (List.drop_sublist _ _) hm.srt, (fun x hx => hm.q x (List.mem_of_mem_drop hx)), (fun x hx => by cases hx), by simp; have := hm.ql; omega, by simp, hm.su, by simp, by simp, (fun e => by have := hm.qno e; simp [this]), fun e => by rw [h4] at e; cases e⟩ rfl (fun x hx => List.mem_of_mem_drop hx) (fun x hx => by cases hx) (fun e => by rw [h4] at e; cases e)
end Go.Proofs.YtehnkebcbomidaaGreatDoor.Rt
end
