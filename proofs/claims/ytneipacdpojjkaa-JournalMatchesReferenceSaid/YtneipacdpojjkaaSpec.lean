/-
  Disks as plain data, and what the functions of the disk layer return.
-/
namespace WageDisk

structure Wr where
  off : Int
  data : List UInt8
structure Ds where
  st : List UInt8
  pe : List Wr

def insideB (off count size : Int) : Bool := decide (0 ≤ off ∧ 0 ≤ count ∧ off ≤ size ∧ count ≤ size - off)
def validB (d : Ds) : Bool := decide (d.st.length ≤ 65536 ∧ d.pe.length ≤ 64) && d.pe.all fun w => insideB w.off w.data.length d.st.length

/-- xs written over l from off on. -/
def over (l : List UInt8) (off : Nat) (xs : List UInt8) : List UInt8 := l.take off ++ (xs ++ l.drop (off + xs.length))
/-- The bytes after ch i n bytes of write i, which has n bytes, were written. -/
def applyTo (ch : Nat → Nat → Nat) : List UInt8 → Nat → List Wr → List UInt8
  | st, _, [] => st
  | st, i, w :: ws => applyTo ch (over st w.off.toNat (w.data.take (ch i w.data.length))) (i + 1) ws
def wholeC (_ n : Nat) : Nat := n
/-- How many bytes of a write are kept. -/
def keptC (kept : List Int) (i n : Nat) : Nat := match kept[i]? with
  | none => 0
  | some k => (max (min k n) 0).toNat
def emptyD : Ds := ⟨[], []⟩
def syncD (d : Ds) : Ds := if validB d then ⟨applyTo wholeC d.st 0 d.pe, []⟩ else emptyD
def crashD (d : Ds) (kept : List Int) : Ds := if validB d then ⟨applyTo (keptC kept) d.st 0 d.pe, []⟩ else emptyD
end WageDisk
