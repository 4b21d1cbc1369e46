/-
  slices.Insert of one answer into a row of the call's own.
-/
import Derived.Test.YtaocjobbfcfleaaSearch
import Derived.Laws.CopyRow
import Derived.Laws.Externs
import Derived.Lib.Overlaps
import Derived.Lib.AppendZerosOnto
import Derived.Lib.AppendZeros
import Derived.Lib.SliceRun
import Derived.Lib.JoinLaws
import Derived.Shelf.Spec.SlicesInsertGrow
namespace Go.Proofs.Ytaocjobbfcfleaa
open Go.RowKit Go.Proofs WageMem WageOrd WageRec WageMap WageReg WageSet

theorem run_copy_k {P : Program} (w : World) (dT sT ty elem : TypeId) (k g o dLen dCap : Nat) (a : Addr) (sLen sCap : Nat) (cur : Array Value) (t : TypeId) (cs : List Value) (q : Nat)
    (hu : P.underlying dT = some (.slice elem)) (hs : (P.info? elem).map (·.size) = some k)
    (hg : w.heap[g]? = some (.cells cur t (0, 0))) (hq : Nat.min sLen dLen = q) (hn : cs.length = q * k)
    (hsrc : ∀ j v, cs[j]? = some v → w.cell? (a.add j) = some v) (hfit : o + cs.length ≤ cur.size) (h1 : ∀ v ∈ cs, v.oneCell' = true) :
    (Builtin.copy_ #[dT, sT] ty #[.slice (some ⟨g, o, none⟩) dLen dCap, .slice (some a) sLen sCap]).run P w =
      .ok (goInt q) (w.setRow g (cur.toList.take o ++ cs ++ cur.toList.drop (o + cs.length)).toArray) := by
  have hl := run_loadCells_list (P := P) w a cs hsrc
  have hst := run_storeCells_at P g o t cs 0 cur w hg (by simpa using hfit) h1
  cases hp : P.info? elem with
  | none => simp [hp] at hs
  | some i =>
    have hi : i.size = k := by simpa [hp] using hs
    simp [Builtin.copy_, run_underlying hu, Builtin.lenOf, Builtin.firstCells, sizeOf, typeInfo, hp, hi, hq, ← hn, hl, hst]
/-- What an insertion makes of a row's cells. -/
theorem ins_cells (F T D Pr A : List Value) (i5 n5 : Nat) (hF : F.length = n5) (hP : F.take i5 = Pr) (hD : F.drop i5 = D) (hi : i5 ≤ n5) (hA : A.length = 5) (hT : 5 ≤ T.length) :
    let c1 := (F ++ T).take (i5 + 5) ++ D ++ (F ++ T).drop (i5 + 5 + D.length)
    let c2 := c1.take i5 ++ A ++ c1.drop (i5 + A.length)
    c2.length = (F ++ T).length ∧ c1.length = (F ++ T).length ∧ c2.take (n5 + 5) = Pr ++ A ++ D := by
  have hDl : D.length = n5 - i5 := by rw [← hD, List.length_drop, hF]
  have hPl : Pr.length = i5 := by rw [← hP, List.length_take, hF]; omega
  have hl1 : ((F ++ T).take (i5 + 5)).length = i5 + 5 := by rw [List.length_take, List.length_append, hF]; omega
  intro c1 c2
  have e1 : c1.take i5 = Pr := by
    show ((F ++ T).take (i5 + 5) ++ D ++ (F ++ T).drop (i5 + 5 + D.length)).take i5 = Pr
    rw [List.append_assoc, List.take_append_of_le_length (by omega), List.take_take, show min i5 (i5 + 5) = i5 by omega, List.take_append_of_le_length (by omega), hP]
  have e2 : c1.drop (i5 + 5) = D ++ (F ++ T).drop (i5 + 5 + D.length) := by
    show ((F ++ T).take (i5 + 5) ++ D ++ (F ++ T).drop (i5 + 5 + D.length)).drop (i5 + 5) = _
    rw [List.append_assoc, List.drop_append_of_le_length (by omega), List.drop_of_length_le (by omega), List.nil_append]
  have hc1 : c1.length = (F ++ T).length := by
    show ((F ++ T).take (i5 + 5) ++ D ++ (F ++ T).drop (i5 + 5 + D.length)).length = _
    rw [List.length_append, List.length_append, hl1, List.length_drop, List.length_append, hF]; omega
  have hc2 : c2 = Pr ++ A ++ (D ++ (F ++ T).drop (i5 + 5 + D.length)) := by
    show c1.take i5 ++ A ++ c1.drop (i5 + A.length) = _
    rw [e1, hA, e2]
  refine ⟨?_, hc1, ?_⟩
  · rw [hc2, List.length_append, List.length_append, List.length_append, List.length_drop, hPl, hA, hDl, List.length_append, hF]; omega
  · rw [hc2, ← List.append_assoc, List.take_left' (by rw [List.length_append, List.length_append, hPl, hA, hDl]; omega)]
theorem size29 : (Try.prog.info? 29).map (·.size) = some 5 := by kernel_rfl
theorem sizeOf29 (w : World) : (Go.sizeOf 29).run Try.prog w = .ok 5 w := by kernel_rfl
theorem elem23 : Try.prog.underlying 23 = some (.slice (Try.prog.elem 23)) := by kernel_rfl
theorem sizeE23 (w : World) : (Go.sizeOf (Try.prog.elem 23)).run Try.prog w = .ok 5 w := by kernel_rfl
theorem tail_at {g n c q : Nat} {z : Int} (hz : z = q) (hq : q ≤ n) (hc : c ≠ q) (w : World) : (Instr.slice 23 (.slice (some ⟨g, 0, none⟩) n c) (some (.int .i64 z)) none none).run Try.prog w = .ok (.slice (some ⟨g, q * 5, none⟩) (n - q) (c - q)) w := by
  subst hz
  rw [run_slice_tail w 23 5 elem23 (sizeE23 w) (some ⟨g, 0, none⟩) n c q .i64 hq]
  unfold tailA
  rw [if_neg hc]
  simp [addr_add_plain]
theorem head_at {g n c q : Nat} {z : Int} (hz : z = q) (hq : q ≤ c) (w : World) : (Instr.slice 23 (.slice (some ⟨g, 0, none⟩) n c) none (some (.int .i64 z)) none).run Try.prog w = .ok (.slice (some ⟨g, 0, none⟩) q c) w := by
  subst hz
  exact run_slice_head w 23 5 elem23 (sizeE23 w) (some ⟨g, 0, none⟩) n c q .i64 hq
theorem over_no {w : World} {vb g off lb cb : Nat} {cs cur : Array Value} (hv : w.heap[vb]? = some (.cells cs 29 (0, 0))) (hg : w.heap[g]? = some (.cells cur 29 (0, 0))) (hne : vb ≠ g) (hc : cur.size ≠ 0) :
    (callFunc 58 #[.slice (some ⟨vb, 0, none⟩) 1 1, .slice (some ⟨g, off, none⟩) lb cb]).run Try.prog w = .ok (.value (.bool false)) w := by
  rw [run_callFunc_extern Try.func58 (by kernel_rfl) (by kernel_rfl) (by kernel_rfl) (e := Extern.SlicesOverlaps.overlaps #[23, 23] #[4]) (by kernel_rfl),
    Lib.run_overlaps_apart w 23 4 29 Try.underlying23 5 sizeOf29 ⟨vb, 0, none⟩ ⟨g, off, none⟩ 1 1 lb cb hne 29 29 cs.size cur.size (by simp [World.shape?, hv]) (by simp [World.shape?, hg]) hc (by simp [World.frozen?, hv]) (by simp [World.frozen?, hv])]
  rfl
end Go.Proofs.Ytaocjobbfcfleaa
