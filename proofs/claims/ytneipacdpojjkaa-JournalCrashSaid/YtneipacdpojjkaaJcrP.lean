/-
  What a crash leaves of the records: plain laws.
-/
import Derived.Test.YtneipacdpojjkaaJrefE
import Derived.Test.YtneipacdpojjkaaJlawB
import Derived.Test.YtneipacdpojjkaaApnd
namespace Go.Proofs.Ytneipacdpojjkaa
open Go.RowKit Go.Proofs WageMem WageDisk

theorem chain_in {all : List UInt8} {a k e : Nat} {xs : List (Nat × Nat)} (h : Chain all a k xs e) : ∀ x ∈ xs, x.1 + x.2 ≤ e := by
  induction h with
  | nil => intro x hx; simp at hx
  | cons hr h ih =>
    intro x hx
    rcases List.mem_cons.1 hx with rfl | hx
    · have := h.le; show _ + 13 + _ ≤ _; omega
    · exact ih x hx
theorem recs_same {b B : List UInt8} (hA : AgreeTo b B (endAt b)) (hn : recAt B (endAt b) (places b).length = none) : recsOf B = recsOf b ∧ endAt B = endAt b := by
  obtain ⟨c1, _⟩ := places_full b
  have c2 := c1.agree hA (Nat.le_refl _)
  obtain ⟨e1, e2⟩ := places_of c2 hn
  refine ⟨?_, e2⟩
  unfold recsOf
  rw [e1]
  refine List.map_congr_left fun x hx => ?_
  unfold partOf
  exact (hA.part (chain_in c1 x hx)).symm
theorem woff_ge (d : Ds) (k : Nat) : jEnd d ≤ woff d k := by unfold woff; split <;> omega
/-- The bytes after a crash in the k-th write, of which q bytes were kept. -/
def crB (d : Ds) (rec : List UInt8) (k q : Nat) : List UInt8 := over (stgB d rec k) (woff d k) ((wdata d rec k).take q)
theorem stg_agree {d : Ds} {rec : List UInt8} (hv : validB d = true) (hf : fitsB d rec = true) : ∀ k, k ≤ 3 → ∀ i, i < jEnd d → (stgB d rec k)[i]? = (bytesD d)[i]?
  | 0, _, _, _ => rfl
  | k + 1, hk, i, hi => by
    have hl := stg_len hv hf k (by omega)
    have hw := wfit hf (show k < 3 by omega)
    have := woff_ge d k
    show (over (stgB d rec k) (woff d k) (wdata d rec k))[i]? = _
    rw [over_out (by rw [hl]; exact hw) (by omega)]
    exact stg_agree hv hf k (by omega) i hi
theorem stg_zero {d : Ds} {rec : List UInt8} (hv : validB d = true) (hf : fitsB d rec = true) : (stgB d rec 1)[jEnd d]? = some 0 ∧ (stgB d rec 2)[jEnd d]? = some 0 := by
  have l0 := stg_len hv hf 0 (by omega)
  have l1 := stg_len hv hf 1 (by omega)
  have w0 := wfit hf (show 0 < 3 by omega)
  have w1 := wfit hf (show 1 < 3 by omega)
  have h1 : (stgB d rec 1)[jEnd d]? = some 0 := by
    show (over (stgB d rec 0) (jEnd d) [0])[jEnd d]? = _
    rw [over_in (by rw [l0]; exact w0) (Nat.le_refl _) (by simp), Nat.sub_self]; rfl
  refine ⟨h1, ?_⟩
  show (over (stgB d rec 1) (woff d 1) (wdata d rec 1))[jEnd d]? = _
  have : woff d 1 = jEnd d + 1 := rfl
  rw [over_out (by rw [l1]; exact w1) (by omega)]
  exact h1

theorem crash_recs {d : Ds} {rec : List UInt8} (hv : validB d = true) (h1 : 1 ≤ rec.length) (hf : fitsB d rec = true) {k : Nat} (hk : k < 3) {q : Nat} (hq : q ≤ (wdata d rec k).length) :
    validB ⟨crB d rec k q, []⟩ = true ∧ (jRecs ⟨crB d rec k q, []⟩ = jRecs d ∨ jRecs ⟨crB d rec k q, []⟩ = jRecs d ++ [rec]) ∧ crashD (writeD ⟨stgB d rec k, []⟩ (woff d k : Int) (wdata d rec k)) [(q : Int)] = ⟨crB d rec k q, []⟩ := by
  have hl := stg_len hv hf k (by omega)
  have hw := wfit hf hk
  have hs := (valid_size hv).1
  have hb := bytesD_len hv
  have hlen : (crB d rec k q).length = d.st.length := by unfold crB; rw [over_length (by rw [List.length_take, hl]; omega), hl]
  have hvc : validB ⟨crB d rec k q, []⟩ = true := by
    unfold validB
    rw [decide_eq_true ⟨by show (crB d rec k q).length ≤ 65536; omega, by show 0 ≤ 64; omega⟩]; rfl
  have hE : jEnd d = endAt (bytesD d) := by unfold jEnd; rw [hv]; rfl
  have ej : jRecs d = recsOf (bytesD d) := by unfold jRecs; rw [hv, if_pos rfl]
  have ec : jRecs ⟨crB d rec k q, []⟩ = recsOf (crB d rec k q) := by unfold jRecs; rw [hvc, if_pos rfl]; rfl
  have hA : AgreeTo (bytesD d) (crB d rec k q) (endAt (bytesD d)) := by
    refine ⟨by rw [hlen, hb], fun i hi => ?_⟩
    have := woff_ge d k
    unfold crB
    rw [over_out (by rw [List.length_take, hl]; omega) (by omega)]
    exact (stg_agree hv hf k (by omega) i (by omega)).symm
  have hz : (crB d rec k q)[jEnd d]? = some 0 → jRecs ⟨crB d rec k q, []⟩ = jRecs d := by
    intro h0
    rw [ec, ej]
    exact (recs_same hA (by rw [← hE]; exact recAt_zero h0)).1
  refine ⟨hvc, ?_, ?_⟩
  · obtain ⟨z1, z2⟩ := stg_zero hv hf
    match k, hk with
    | 0, _ =>
      have hq1 : q ≤ 1 := hq
      rcases Nat.eq_zero_or_pos q with rfl | h
      · left; rw [ec, ej]; unfold crB; rw [List.take_zero, over_nil]; rfl
      · obtain rfl : q = 1 := by omega
        exact .inl (hz z1)
    | 1, _ =>
      left
      apply hz
      unfold crB
      have : woff d 1 = jEnd d + 1 := rfl
      rw [over_out (by rw [List.length_take, hl]; omega) (by omega)]
      exact z1
    | 2, _ =>
      have hq1 : q ≤ 1 := hq
      rcases Nat.eq_zero_or_pos q with rfl | h
      · left
        apply hz
        unfold crB; rw [List.take_zero, over_nil]; exact z2
      · obtain rfl : q = 1 := by omega
        right
        rw [ec, ej]
        exact (app_recs hv h1 hf).1
  · have hi : insideB (woff d k : Int) (wdata d rec k).length (stgB d rec k).length = true := decide_eq_true ⟨by omega, by omega, by omega, by omega⟩
    have hvs : validB ⟨stgB d rec k, []⟩ = true := by unfold validB; rw [decide_eq_true ⟨by show (stgB d rec k).length ≤ 65536; omega, by show 0 ≤ 64; omega⟩]; rfl
    have ho : writeOk ⟨stgB d rec k, []⟩ (woff d k : Int) (wdata d rec k) = true := by unfold writeOk; rw [hvs, hi]; rfl
    have hwd : writeD ⟨stgB d rec k, []⟩ (woff d k : Int) (wdata d rec k) = ⟨stgB d rec k, [⟨(woff d k : Int), wdata d rec k⟩]⟩ := by unfold writeD; rw [ho, decide_eq_true (show ([] : List Wr).length < 64 by decide)]; rfl
    have hv2 : validB ⟨stgB d rec k, [⟨(woff d k : Int), wdata d rec k⟩]⟩ = true := write_valid (d := ⟨stgB d rec k, []⟩) ho (by show 0 < 64; omega)
    rw [hwd, crash_valid hv2]
    unfold crB
    have hkc : keptC [(q : Int)] 0 (wdata d rec k).length = q := by unfold keptC; simp; omega
    show Ds.mk (over (stgB d rec k) (woff d k : Int).toNat ((wdata d rec k).take (keptC [(q : Int)] 0 (wdata d rec k).length))) [] = _
    rw [hkc]; rfl
/-- What can be appended then. -/
theorem app_after {s : Ds} {oth : List UInt8} (h0 : appE s oth = 0) : jRecs (appD s oth) = jRecs s ++ [oth] ∧ (appD s oth).st.length ≤ 65536 := by
  have hq : validB s = true ∧ 0 < oth.length ∧ fitsB s oth = true := by
    unfold appE at h0
    split at h0
    · rename_i q
      rw [Bool.and_eq_true] at q
      split at h0
      · rename_i q2; exact ⟨q.1, of_decide_eq_true q.2, q2⟩
      · cases h0
    · cases h0
  have hda : appD s oth = ⟨appB s oth, []⟩ := by unfold appD; rw [hq.1, decide_eq_true hq.2.1, hq.2.2]; rfl
  have hl : (appB s oth).length = s.st.length := stg_len hq.1 hq.2.2 3 (Nat.le_refl _)
  have hs := (valid_size hq.1).1
  have hav : validB ⟨appB s oth, []⟩ = true := by
    unfold validB
    rw [decide_eq_true ⟨by show (appB s oth).length ≤ 65536; omega, by show 0 ≤ 64; omega⟩]; rfl
  rw [hda]
  refine ⟨?_, by show (appB s oth).length ≤ 65536; omega⟩
  have e1 : jRecs ⟨appB s oth, []⟩ = recsOf (appB s oth) := by unfold jRecs; rw [hav, if_pos rfl]; rfl
  have e2 : jRecs s = recsOf (bytesD s) := by unfold jRecs; rw [hq.1, if_pos rfl]
  rw [e1, e2]
  exact (app_recs hq.1 hq.2.1 hq.2.2).1
end Go.Proofs.Ytneipacdpojjkaa
