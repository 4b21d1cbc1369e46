/-
  journal.Append: what it returns; the cases in which nothing is appended.
-/
import Derived.Test.YtneipacdpojjkaaCmp
namespace Go.Proofs.Ytneipacdpojjkaa
open Go.RowKit Go.Proofs WageMem WageDisk

/-- A record fits behind the records of a disk. -/
def fitsB (d : Ds) (rec : List UInt8) : Bool := decide (rec.length ≤ 4096) && decide (jEnd d + (13 + rec.length) ≤ d.st.length)
/-- What is written behind the first byte of a record. -/
def tailB (d : Ds) (rec : List UInt8) : List UInt8 := (codeB rec (jRecs d).length).drop 1 ++ (if jEnd d + (13 + rec.length) < d.st.length then [0] else [])
def appB (d : Ds) (rec : List UInt8) : List UInt8 := over (over (over (bytesD d) (jEnd d) [0]) (jEnd d + 1) (tailB d rec)) (jEnd d) [82]
def appE (d : Ds) (rec : List UInt8) : Int := if validB d && decide (0 < rec.length) then (if fitsB d rec then 0 else 2) else 1
def appD (d : Ds) (rec : List UInt8) : Ds := if validB d && decide (0 < rec.length) && fitsB d rec then ⟨appB d rec, []⟩ else emptyD

theorem end_le (all : List UInt8) : endAt all ≤ all.length := by
  unfold endAt endOf
  cases h : (places all).getLast? with
  | none => exact Nat.zero_le _
  | some x => exact scan_in all _ _ _ x (List.mem_of_getLast? h)
theorem bytesD_len {d : Ds} (hv : validB d = true) : (bytesD d).length = d.st.length := apply_len hv (ch := wholeC) (fun _ _ => Nat.le_refl _)
theorem jEnd_le (d : Ds) : jEnd d ≤ d.st.length := by
  unfold jEnd
  cases hv : validB d with
  | false => exact Nat.zero_le _
  | true => rw [if_pos rfl, ← bytesD_len hv]; exact end_le _
theorem jRecs_len (d : Ds) : (jRecs d).length ≤ d.st.length := by
  unfold jRecs
  cases hv : validB d with
  | false => exact Nat.zero_le _
  | true =>
    rw [if_pos rfl]
    unfold recsOf places
    rw [List.length_map]
    have := scan_len (bytesD d) ((bytesD d).length + 1) 0 0 (Nat.zero_le _)
    rw [bytesD_len hv] at *
    omega
theorem readE_zero (d : Ds) : readE d 0 0 = if validB d then 0 else 1 := by
  unfold readE
  cases validB d with
  | false => rfl
  | true => unfold insideB; simp

set_option maxHeartbeats 4000000 in
theorem append_bad (A : Option Addr) (n c : Nat) (A' : Option Addr) (n' c' : Nat) (d : Ds) (A3 : Option Addr) (n3 c3 : Nat) (w : World) (h : Disk w (.agg #[.slice A n c, .slice A' n' c']) d) (hs : validB d = false ∨ n3 = 0) :
    Calls Try.prog 34 #[.agg #[.slice A n c, .slice A' n' c'], .slice A3 n3 c3] w (RetDiskE emptyD 1 w) := by
  have HH := Lib.hid h
  obtain ⟨er, her⟩ : ∃ er, readE d 0 0 = er := ⟨_, rfl⟩
  have HE := Lib.hid her
  have hc : (er != 0) = true ∨ ((er != 0) = false ∧ n3 = 0) := by
    rw [readE_zero] at her
    cases hv : validB d with
    | false => rw [hv] at her; rw [← her]; exact .inl rfl
    | true =>
      rw [hv] at her hs
      rw [← her]
      rcases hs with hs | hs
      · cases hs
      · exact .inr ⟨rfl, hs⟩
  clear h her hs
  rcases hc with t1 | ⟨t1, rfl⟩
  all_goals
    go_enter Try.func34, Try.ntmps34
    go_wp2_with fail
    refine (read_val (HH.out.grew (((Grew.refl w).alloc _).alloc _)) (by decide) (by decide) (by decide) (by decide) rfl HE.out).mono ?_
    rintro e w1 ⟨A5, n5, c5, rfl, _, g1⟩
    have hr : w1.heap[w.heap.size + 1]? = some (.cells #[.slice none 0 0, .slice none 0 0] 25 (0, 0)) := g1.block (blk_new2 _ _ _ _)
    have r0 := blk_cell hr 0
    have r1 := blk_cell hr 1
    have z0 := blk_frozen hr 0
    have z1 := blk_frozen hr 1
    have gg : Grew w w1 := (((Grew.refl w).alloc _).alloc _).trans g1
    clear hr g1
    go_wp2_with fail
    obtain ⟨q0, q1⟩ := two_set r0 r1 (.slice none 0 0) (.slice none 0 0)
    refine bodyPost_ret (v := .tuple #[.agg #[.slice none 0 0, .slice none 0 0], .int .i64 1]) (by simp [results, Try.results34, go_sem, q0, q1]) rfl ⟨_, _, _, _, _, _, rfl, ?_, (gg.set (by simp) _).set (by simp) _⟩
    exact Fresh.const fun _ => Disk.mk_ Bytes.none Writes.none

theorem recs_val {v : Value} {d : Ds} {w : World} (h : Disk w v d) {ls : List (List UInt8)} {e : Nat} (hl : jRecs d = ls) (he : jEnd d = e) : Calls Try.prog 36 #[v] w (RetRecs ls e w) := by
  subst hl he; exact recs_any v d w h

set_option maxHeartbeats 4000000 in
theorem append_full (A : Option Addr) (n c : Nat) (A' : Option Addr) (n' c' : Nat) (d : Ds) (A3 : Option Addr) (n3 c3 : Nat) (rec : List UInt8) (w : World) (h : Disk w (.agg #[.slice A n c, .slice A' n' c']) d) (hD : Bytes w A3 n3 c3 rec)
    (hv : validB d = true) (h3 : 0 < n3) (hf : fitsB d rec = false) :
    Calls Try.prog 34 #[.agg #[.slice A n c, .slice A' n' c'], .slice A3 n3 c3] w (RetDiskE emptyD 2 w) := by
  have HH := Lib.hid h
  have hn := h.parts.1.1
  have hsz := (valid_size hv).1
  have s1 : n ≤ 65536 := by omega
  have HE : Hid (readE d 0 0 = 0) := by unfold Hid; rw [readE_zero, hv]; rfl
  obtain ⟨en, hen⟩ : ∃ en, jEnd d = en := ⟨_, rfl⟩
  obtain ⟨ls, hls⟩ : ∃ ls, jRecs d = ls := ⟨_, rfl⟩
  have hle := jEnd_le d
  rw [hen, hn] at hle
  have hm3 : n3 ≤ 9223372036854775807 := Nat.le_trans hD.2.1 hD.2.2.1
  have t1 : ((n3 : Int) == 0) = false := by simp; omega
  have hc : decide (4096 < (n3 : Int)) = true ∨ (n3 ≤ 4096 ∧ decide (4096 < (n3 : Int)) = false ∧ decide ((n : Int) - en < 13 + n3) = true) := by
    unfold fitsB at hf
    rw [hD.1, hen, hn, Bool.and_eq_false_iff] at hf
    by_cases q : 4096 < n3
    · exact .inl (decide_eq_true (by omega))
    · refine .inr ⟨by omega, decide_eq_false (by omega), ?_⟩
      rcases hf with hf | hf
      · have := of_decide_eq_false hf; omega
      · have := of_decide_eq_false hf; exact decide_eq_true (by omega)
  have HEn := Lib.hid hen
  have HLs := Lib.hid hls
  clear h hf hv hn hsz hen hls hD
  rcases hc with t2 | ⟨t4, t2, t3⟩
  all_goals
    go_enter Try.func34, Try.ntmps34
    go_wp2_with fail
    refine (read_val (HH.out.grew (((Grew.refl w).alloc _).alloc _)) (by decide) (by decide) (by decide) (by decide) rfl HE.out).mono ?_
    rintro e w1 ⟨A5, n5, c5, rfl, _, g1⟩
    have hr : w1.heap[w.heap.size + 1]? = some (.cells #[.slice none 0 0, .slice none 0 0] 25 (0, 0)) := g1.block (blk_new2 _ _ _ _)
    have hd : w1.heap[w.heap.size]? = some (.cells #[.slice A n c, .slice A' n' c'] 25 (0, 0)) := g1.block (blk_new1 _ _ _ _)
    have d0 : w1.cell? ⟨w.heap.size, 0, none⟩ = some (.slice A n c) := blk_cell hd 0
    have d1 : w1.cell? ⟨w.heap.size, 1, none⟩ = some (.slice A' n' c') := blk_cell hd 1
    have gg : Grew w w1 := (((Grew.refl w).alloc _).alloc _).trans g1
    have HR := Lib.hid hr
    clear hr g1 hd
    go_wp2_with fail
    refine (recs_val (HH.out.grew gg) HLs.out HEn.out).mono ?_
    rintro e w2 ⟨A6, n6, c6, rfl, _, g2⟩
    have hr2 := g2.block HR.out
    have r0 := blk_cell hr2 0
    have r1 := blk_cell hr2 1
    have z0 := blk_frozen hr2 0
    have z1 := blk_frozen hr2 1
    have gg2 := gg.trans g2
    clear d0 d1 hr2 g2
    go_wp2_with fail
    obtain ⟨q0, q1⟩ := two_set r0 r1 (.slice none 0 0) (.slice none 0 0)
    refine bodyPost_ret (v := .tuple #[.agg #[.slice none 0 0, .slice none 0 0], .int .i64 2]) (by simp [results, Try.results34, go_sem, q0, q1]) rfl ⟨_, _, _, _, _, _, rfl, ?_, (gg2.set (by simp) _).set (by simp) _⟩
    exact Fresh.const fun _ => Disk.mk_ Bytes.none Writes.none
end Go.Proofs.Ytneipacdpojjkaa
