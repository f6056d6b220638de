/-
  States and what records make of them (layer 16), in plain terms. Conditions: none.
-/
import Derived.Test.YthnhdeieimgfhaaNG
import Derived.Test.YthnhdeieimgfhaaNA
namespace Go.Proofs.Ythnhdeieimgfhaa
open Go Go.RowKit

structure Stt where
  life : Nat
  list : List Ent
  prom : List Ent
  ab : List Idn
def st0 : Stt := ⟨0, [], [], []⟩
def idE (x : Ent) : Idn := (x.br, x.life, x.ser)
def idR (x : Rec) : Idn := (x.br, x.life, x.ser)
def hasE (l : List Ent) (a : Idn) : Bool := l.any fun x => decide (idE x = a)
def hasI (l : List Idn) (a : Idn) : Bool := l.any fun x => decide (x = a)
def dropE (l : List Ent) (a : Idn) : List Ent := l.filter fun x => !decide (idE x = a)
def on1 (s : Stt) (r : Rec) : Option Stt := if r.n ≤ s.life then none else some ⟨r.n, s.list, s.prom, s.ab⟩
def on2 (s : Stt) (r : Rec) : Option Stt := if ¬ r.n = s.list.length then none else if hasE s.list (idE r.e) then none else if hasI s.ab (idE r.e) then none else some ⟨s.life, s.list ++ [r.e], dropE s.prom (idE r.e), s.ab⟩
def on3 (s : Stt) (r : Rec) : Option Stt := if hasE s.list (idE r.e) then none else if hasE s.prom (idE r.e) then none else if hasI s.ab (idE r.e) then none else some ⟨s.life, s.list, s.prom ++ [r.e], s.ab⟩
def on4 (s : Stt) (r : Rec) : Option Stt := if hasE s.list (idR r) then none else if hasI s.ab (idR r) then none else some ⟨s.life, s.list, dropE s.prom (idR r), s.ab ++ [idR r]⟩
def on5 (s : Stt) (r : Rec) : Option Stt := if hasE s.prom (idR r) then some ⟨s.life, s.list, dropE s.prom (idR r), s.ab⟩ else none
/-- A state behind a record that may be. -/
def onS (s : Stt) (r : Rec) : Option Stt := if r.kind = 1 then on1 s r else if r.kind = 2 then on2 s r else if r.kind = 3 then on3 s r else if r.kind = 4 then on4 s r else on5 s r
def stepS (s : Stt) (r : Rec) : Stt × Int := if okRec r then (match onS s r with | none => (s, 160) | some t => (t, 0)) else (s, 110)
end Go.Proofs.Ythnhdeieimgfhaa
