/-
  journal.Append: a record that fits.
-/
import Derived.Test.YtneipacdpojjkaaApp
namespace Go.Proofs.Ytneipacdpojjkaa
open Go.RowKit Go.Proofs WageMem WageDisk

theorem write_flat {st data : List UInt8} {off : Nat} (hs : st.length ≤ 65536) (hf : off + data.length ≤ st.length) :
    writeE ⟨st, []⟩ (off : Int) data = 0 ∧ syncD (writeD ⟨st, []⟩ (off : Int) data) = ⟨over st off data, []⟩ := by
  have hv : validB ⟨st, []⟩ = true := by unfold validB; rw [decide_eq_true ⟨hs, by show 0 ≤ 64; omega⟩]; rfl
  have hi : insideB (off : Int) data.length st.length = true := decide_eq_true ⟨by omega, by omega, by omega, by omega⟩
  have ho : writeOk ⟨st, []⟩ (off : Int) data = true := by unfold writeOk; rw [hv, hi]; rfl
  refine ⟨by unfold writeE; rw [if_pos ho, if_pos (by show 0 < 64; omega)], ?_⟩
  have hw : writeD ⟨st, []⟩ (off : Int) data = ⟨st, [⟨(off : Int), data⟩]⟩ := by unfold writeD; rw [ho, decide_eq_true (show ([] : List Wr).length < 64 by decide)]; rfl
  have hv2 : validB ⟨st, [⟨(off : Int), data⟩]⟩ = true := write_valid (d := ⟨st, []⟩) ho (by show 0 < 64; omega)
  rw [hw, sync_valid hv2]
  have := apply_write ⟨st, []⟩ (off : Int) data
  congr 1

def woff (d : Ds) (k : Nat) : Nat := if k = 1 then jEnd d + 1 else jEnd d
def wdata (d : Ds) (rec : List UInt8) (k : Nat) : List UInt8 := if k = 0 then [0] else if k = 1 then tailB d rec else [82]
def stgB (d : Ds) (rec : List UInt8) : Nat → List UInt8
  | 0 => bytesD d
  | k + 1 => over (stgB d rec k) (woff d k) (wdata d rec k)
theorem stg_three (d : Ds) (rec : List UInt8) : stgB d rec 3 = appB d rec := rfl
theorem tail_len {d : Ds} {rec : List UInt8} (hf : fitsB d rec = true) : jEnd d + 1 + (tailB d rec).length ≤ d.st.length := by
  unfold fitsB at hf
  rw [Bool.and_eq_true] at hf
  have h2 := of_decide_eq_true hf.2
  unfold tailB
  rw [List.length_append, List.length_drop, codeB_len]
  split
  · rename_i h; simp; omega
  · simp; omega
theorem wfit {d : Ds} {rec : List UInt8} (hf : fitsB d rec = true) {k : Nat} (hk : k < 3) : woff d k + (wdata d rec k).length ≤ d.st.length := by
  have h1 := tail_len hf
  have h2 : jEnd d + (13 + rec.length) ≤ d.st.length := by unfold fitsB at hf; rw [Bool.and_eq_true] at hf; exact of_decide_eq_true hf.2
  unfold woff wdata
  by_cases h0 : k = 0
  · subst h0; simp; omega
  · by_cases h3 : k = 1
    · subst h3; simp; omega
    · rw [if_neg h3, if_neg h0, if_neg h3]; simp; omega
theorem stg_len {d : Ds} {rec : List UInt8} (hv : validB d = true) (hf : fitsB d rec = true) : ∀ k, k ≤ 3 → (stgB d rec k).length = d.st.length
  | 0, _ => bytesD_len hv
  | k + 1, hk => by
    have ih := stg_len hv hf k (by omega)
    show (over (stgB d rec k) (woff d k) (wdata d rec k)).length = _
    rw [over_length (by rw [ih]; exact wfit hf (by omega)), ih]
theorem stg_step {d : Ds} {rec : List UInt8} (hv : validB d = true) (hf : fitsB d rec = true) {k : Nat} (hk : k < 3) :
    writeE ⟨stgB d rec k, []⟩ (woff d k : Int) (wdata d rec k) = 0 ∧ syncD (writeD ⟨stgB d rec k, []⟩ (woff d k : Int) (wdata d rec k)) = ⟨stgB d rec (k + 1), []⟩ := by
  have hl := stg_len hv hf k (by omega)
  have hs := (valid_size hv).1
  exact write_flat (by omega) (by rw [hl]; exact wfit hf hk)

/-- The three writes of Append in memory. -/
structure Three (d : Ds) (rec : List UInt8) (H : Nat) (B : Nat) (W : World) : Prop where
  ex : ∀ k, k < 3 → ∃ A n c, W.cell? ⟨H, k * 2, none⟩ = some (.int .i64 (woff d k : Int)) ∧ W.cell? ⟨H, k * 2 + 1, none⟩ = some (.slice A n c) ∧ Bytes W A n c (wdata d rec k) ∧ (∀ b o, A = some ⟨b, o, none⟩ → b ≠ B)
  ne : H ≠ B
theorem Three.keep {d : Ds} {rec : List UInt8} {H B : Nat} {W W' : World} (h : Three d rec H B W) (g : KeepG (fun p => p.block ≠ B) W W') : Three d rec H B W' :=
  ⟨fun k hk => by
    obtain ⟨A, n, c, h1, h2, h3, h4⟩ := h.ex k hk
    exact ⟨A, n, c, g _ _ h.ne h1, g _ _ h.ne h2, Bytes.keepG h3 g (fun b o e _ _ => h4 b o e), h4⟩, h.ne⟩
end Go.Proofs.Ytneipacdpojjkaa
