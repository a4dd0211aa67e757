/- A state as a value: its lists, its handles, what memory holds of it; merged, applied. -/
import Derived.Test.YtnboncbekcodnaaSt4
set_option linter.unusedVariables false
set_option linter.unusedSimpArgs false
namespace Go.Proofs.Ytnboncbekcodnaa.St
open Go.RowKit Go.Proofs.Ytnboncbekcodnaa.Kit

structure Rc where
  x : Int
  y : Int
  w : Int
  h : Int
deriving DecidableEq
abbrev rcC (r : Rc) : List Value := [.int .i64 r.x, .int .i64 r.y, .int .i64 r.w, .int .i64 r.h]
abbrev inC (i : Int) : List Value := [.int .i64 i]

structure Stt where
  att : Bool
  buf : Int
  D : List Rc
  F : List Int
  inp : Bool
  all : Bool
  R : List Rc
  ord : Bool
  O : List Int
  P : List Ch

structure Hd where
  dA : Option Addr
  dc : Nat
  fA : Option Addr
  fc : Nat
  rA : Option Addr
  rc : Nat
  oA : Option Addr
  oc : Nat
  pA : Option Addr
  pc : Nat

abbrev stV (t : Stt) (h : Hd) : Array Value := #[.bool t.att, .int .i64 t.buf, .slice h.dA t.D.length h.dc, .slice h.fA t.F.length h.fc, .bool t.inp, .bool t.all, .slice h.rA t.R.length h.rc, .bool t.ord, .slice h.oA t.O.length h.oc, .slice h.pA t.P.length h.pc]

structure StR (w : World) (B : Nat) (t : Stt) (h : Hd) : Prop where
  d : Rds w B 4 h.dA t.D.length (t.D.flatMap rcC)
  f : Rds w B 1 h.fA t.F.length (t.F.flatMap inC)
  r : Rds w B 4 h.rA t.R.length (t.R.flatMap rcC)
  o : Rds w B 1 h.oA t.O.length (t.O.flatMap inC)
  p : Rds w B 3 h.pA t.P.length (t.P.flatMap chC)

theorem StR.be {w w' : World} {B : Nat} {t : Stt} {h : Hd} (s : StR w B t h) (hb : Below B w w') : StR w' B t h := ⟨s.d.be hb, s.f.be hb, s.r.be hb, s.o.be hb, s.p.be hb⟩
theorem StR.more {w : World} {B B' : Nat} {t : Stt} {h : Hd} (s : StR w B t h) (hb : B ≤ B') : StR w B' t h := ⟨s.d.more hb, s.f.more hb, s.r.more hb, s.o.more hb, s.p.more hb⟩

def mergeS (a b : Stt) : Stt where
  att := a.att || b.att
  buf := if b.att then b.buf else a.buf
  D := a.D ++ b.D
  F := a.F ++ b.F
  inp := a.inp || b.inp
  all := if b.inp then b.all else a.all
  R := if b.inp then b.R else a.R
  ord := a.ord || b.ord
  O := if b.ord then b.O else a.O
  P := b.P.foldl putC a.P

def applyS (a b : Stt) : Stt := { mergeS a b with att := false, D := [], inp := false, ord := false }

theorem rcC_one (l : List Rc) : ∀ u ∈ l.flatMap rcC, u.oneCell' = true := by
  intro u hu
  obtain ⟨a, _, ha⟩ := List.mem_flatMap.1 hu
  simp only [List.mem_cons, List.not_mem_nil, or_false] at ha
  rcases ha with rfl | rfl | rfl | rfl <;> rfl
theorem inC_one (l : List Int) : ∀ u ∈ l.flatMap inC, u.oneCell' = true := by
  intro u hu
  obtain ⟨a, _, ha⟩ := List.mem_flatMap.1 hu
  simp only [List.mem_cons, List.not_mem_nil, or_false] at ha
  rcases ha with rfl; rfl
end Go.Proofs.Ytnboncbekcodnaa.St
