/- A message's cells: scalars as they are, rows as slices. Plain. -/
import Derived.Test.YtbiglfpikfjbpaaDoorBerA
namespace Go.Proofs.YtbiglfpikfjbpaaDoor
open Go.RowKit

/-- A slice's three parts. -/
structure Rw where
  A : Option Addr
  n : Nat
  c : Nat
def Rw.val (r : Rw) : Value := .slice r.A r.n r.c
def Rw.none : Rw := ⟨Option.none, 0, 0⟩

/-- A filter's own cells. -/
structure FC where
  kind : Int
  attr : ByteArray
  value : ByteArray
  first : ByteArray
  any : Rw
  last : ByteArray
  kids : Rw
def FC.zero : FC := ⟨0, ⟨#[]⟩, ⟨#[]⟩, ⟨#[]⟩, Rw.none, ⟨#[]⟩, Rw.none⟩

/-- A message's cells. -/
structure MC where
  id : Int
  op : Int
  version : Int
  name : ByteArray
  sasl : Bool
  secret : ByteArray
  kind : ByteArray
  has : Bool
  value : ByteArray
  code : Int
  text : ByteArray
  scope : Int
  deref : Int
  size : Int
  time : Int
  types : Bool
  filter : FC
  attrs : Rw
  list : Rw
  mods : Rw
  rdn : ByteArray
  old : Bool
  dest : Rw
  other : Int
  controls : Rw

namespace MC
def zero : MC := ⟨0, 0, 0, ⟨#[]⟩, false, ⟨#[]⟩, ⟨#[]⟩, false, ⟨#[]⟩, 0, ⟨#[]⟩, 0, 0, 0, 0, false, FC.zero, Rw.none, Rw.none, Rw.none, ⟨#[]⟩, false, Rw.none, 0, Rw.none⟩
abbrev cells (m : MC) : Array Value :=
  #[.int .i64 m.id, .int .i64 m.op, .int .i64 m.version, .string m.name, .bool m.sasl, .string m.secret, .string m.kind, .bool m.has, .string m.value, .int .i64 m.code, .string m.text, .int .i64 m.scope, .int .i64 m.deref, .int .i64 m.size, .int .i64 m.time, .bool m.types,
    .int .i64 m.filter.kind, .string m.filter.attr, .string m.filter.value, .string m.filter.first, .slice m.filter.any.A m.filter.any.n m.filter.any.c, .string m.filter.last, .slice m.filter.kids.A m.filter.kids.n m.filter.kids.c,
    .slice m.attrs.A m.attrs.n m.attrs.c, .slice m.list.A m.list.n m.list.c, .slice m.mods.A m.mods.n m.mods.c, .string m.rdn, .bool m.old, .slice m.dest.A m.dest.n m.dest.c, .int .i64 m.other, .slice m.controls.A m.controls.n m.controls.c]
/-- Without the fields that its operation has. -/
def bare (m : MC) : MC :=
  let b : MC := { m with id := 0, controls := Rw.none, op := 0 }
  if m.op = 0 then
    if m.sasl then { b with version := 0, name := ⟨#[]⟩, sasl := false, kind := ⟨#[]⟩, has := false, value := ⟨#[]⟩ } else { b with version := 0, name := ⟨#[]⟩, secret := ⟨#[]⟩ }
  else if m.op = 3 then { b with name := ⟨#[]⟩, scope := 0, deref := 0, size := 0, time := 0, types := false, filter := FC.zero, attrs := Rw.none }
  else if m.op = 4 ∨ m.op = 8 then { b with name := ⟨#[]⟩, list := Rw.none }
  else if m.op = 6 then { b with name := ⟨#[]⟩, mods := Rw.none }
  else if m.op = 10 then { b with name := ⟨#[]⟩ }
  else if m.op = 12 then { b with name := ⟨#[]⟩, rdn := ⟨#[]⟩, old := false, dest := Rw.none }
  else if m.op = 14 then { b with name := ⟨#[]⟩, kind := ⟨#[]⟩, value := ⟨#[]⟩ }
  else if m.op = 16 then { b with other := 0 }
  else if m.op = 23 then { b with kind := ⟨#[]⟩, has := false, value := ⟨#[]⟩ }
  else if m.op = 2 then b
  else if m.op = 24 then { b with code := 0, name := ⟨#[]⟩, text := ⟨#[]⟩, kind := ⟨#[]⟩ }
  else { b with code := 0, name := ⟨#[]⟩, text := ⟨#[]⟩ }
end MC
end Go.Proofs.YtbiglfpikfjbpaaDoor
