/-
  The reference of the journal: the bytes of a disk, the record at an offset.
-/
import Derived.Test.YtneipacdpojjkaaJrefA
import Derived.Test.YtneipacdpojjkaaRefE
import Derived.Test.YtneipacdpojjkaaJlaw
namespace Go.Proofs.Ytneipacdpojjkaa
open Go.RowKit Go.Proofs WageMem WageDisk

set_option maxHeartbeats 1000000 in
theorem rbytes_any (v : Value) (d : Ds) (w : World) (h : Disk w v d) (hv : validB d = true) : Calls Try.prog 52 #[v] w (RetBytes (bytesD d) w) := by
  obtain ⟨A, n, c, A', n', c', rfl, hB, _⟩ := h.form
  have hs := (valid_size hv).1
  rw [hB.1] at hs
  have e1 : readB d 0 (n : Int) = bytesD d := by rw [← hB.1]; exact read_all hv
  have e2 : readE d 0 (n : Int) = 0 := by
    unfold readE; rw [hv, ← hB.1]
    have hi : insideB 0 (d.st.length : Int) d.st.length = true := decide_eq_true ⟨by omega, by omega, by omega, by omega⟩
    rw [hi]; rfl
  have E1 := Lib.hid e1
  have E2 := Lib.hid e2
  have HH := Lib.hid (h.grew ((Grew.refl w).alloc (.cells #[.slice A n c, .slice A' n' c'] 25)))
  clear e1 e2 hv h hB
  go_enter Try.func52, Try.ntmps52
  go_wp2_with fail
  refine (rread_val HH.out (by omega) (by omega) (by omega) (by omega) E1.out E2.out).mono ?_
  rintro e w1 ⟨A1, n1, c1, rfl, fr, g1⟩
  go_wp2_with fail
  go_ret
  exact ⟨A1, n1, c1, rfl, fr.now, ((Grew.refl w).alloc _).trans g1⟩

def RetOwnRec (o : Option (List UInt8)) (w : World) (r : Ending) (w' : World) : Prop := match o with
  | none => RetNo w r w'
  | some rec => ∃ A c, r = .returned (.tuple #[.slice A rec.length c, .bool true]) ∧ w'.ownsRow w.heap.size 5 1 (.slice A rec.length c) rec.length (rec.map bv) ∧ Grew w w'

theorem recAt_14 {all : List UInt8} {a k : Nat} (h : all.length < a + 14) : recAt all a k = none := by
  unfold recAt
  by_cases c1 : all.length < a + 13
  · rw [if_pos c1]
  · rw [if_neg c1, if_pos (by omega)]
theorem recAt_mark {all : List UInt8} {a k : Nat} {x : UInt8} (hx : all[a]? = some x) (h : x ≠ 82) : recAt all a k = none := by
  unfold recAt
  split
  · rfl
  · split
    · rfl
    · rw [if_neg]
      intro hq
      have hq := eq_of_beq hq
      have h0 : (codeB ((all.drop (a + 13)).take (lenAt all a)) k)[0]? = ((all.drop a).take (13 + lenAt all a))[0]? := by rw [hq]
      rw [List.getElem?_take, if_pos (by omega), List.getElem?_drop, show a + 0 = a from rfl, hx] at h0
      unfold codeB at h0
      simp at h0
      exact h h0.symm

end Go.Proofs.Ytneipacdpojjkaa
