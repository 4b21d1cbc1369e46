/-
  What Append does to the records: plain laws.
-/
import Derived.Test.YtneipacdpojjkaaJlaw
namespace Go.Proofs.Ytneipacdpojjkaa
open Go.RowKit Go.Proofs WageMem WageDisk

theorem over_three {l t : List UInt8} {E : Nat} {x y : UInt8} (h : E + 1 + t.length ≤ l.length) : over (over (over l E [x]) (E + 1) t) E [y] = over l E (y :: t) := by
  have l1 : (over l E [x]).length = l.length := over_length (by simp; omega)
  have l2 : (over (over l E [x]) (E + 1) t).length = l.length := by rw [over_length (by omega), l1]
  apply List.ext_getElem?
  intro i
  by_cases h0 : i = E
  · subst h0
    rw [over_in (by simp; omega) (by omega) (by simp), over_in (by simp; omega) (by omega) (by simp), Nat.sub_self]
    rfl
  · rw [over_out (by simp; omega) (by simp; omega)]
    by_cases h1 : E + 1 ≤ i ∧ i < E + 1 + t.length
    · rw [over_in (by omega) h1.1 h1.2, over_in (by simp; omega) (by omega) (by simp; omega), show i - E = (i - (E + 1)) + 1 by omega, List.getElem?_cons_succ]
    · rw [over_out (by omega) (by omega), over_out (by simp; omega) (by simp; omega), over_out (by simp; omega) (by simp; omega)]
theorem code_cons (rec : List UInt8) (k : Int) : codeB rec k = 82 :: (codeB rec k).drop 1 := rfl

theorem over_part {l xs : List UInt8} {o a m : Nat} (h : o + xs.length ≤ l.length) (h1 : o ≤ a) (h2 : a + m ≤ o + xs.length) : ((over l o xs).drop a).take m = (xs.drop (a - o)).take m := by
  apply List.ext_getElem?
  intro i
  rw [List.getElem?_take, List.getElem?_take]
  by_cases hi : i < m
  · rw [if_pos hi, if_pos hi, List.getElem?_drop, List.getElem?_drop, over_in h (by omega) (by omega)]
    congr 1; omega
  · rw [if_neg hi, if_neg hi]

theorem encB_two (x y : Int) : encB 2 [x, y] = [encByte x 8, encByte x 0, encByte y 8, encByte y 0] := rfl
theorem code_bytes (rec : List UInt8) (k : Int) : (codeB rec k)[1]? = some (encByte rec.length 8) ∧ (codeB rec k)[2]? = some (encByte rec.length 0) := ⟨rfl, rfl⟩
theorem enc_back (n : Nat) (h : n ≤ 65535) : (encByte (n : Int) 8).toNat * 256 + (encByte (n : Int) 0).toNat = n := by
  have h1 := encByte_toNat (n : Int) 8
  have h2 := encByte_toNat (n : Int) 0
  simp at h1 h2
  omega

/-- A record's encoding is found where it was written. -/
theorem recAt_written {l z : List UInt8} {E k : Nat} {rec : List UInt8} (h1 : 1 ≤ rec.length) (h2 : rec.length ≤ 4096) (hf : E + (codeB rec k ++ z).length ≤ l.length) : recAt (over l E (codeB rec k ++ z)) E k = some rec := by
  have hl := over_length (l := l) (xs := codeB rec k ++ z) (off := E) hf
  have hc := codeB_len rec k
  have hcz : (codeB rec k ++ z).length = 13 + rec.length + z.length := by rw [List.length_append, hc]
  have b1 : (over l E (codeB rec k ++ z))[E + 1]? = some (encByte rec.length 8) := by
    rw [over_in hf (by omega) (by omega), Nat.add_sub_cancel_left, List.getElem?_append_left (by omega)]; exact (code_bytes rec k).1
  have b2 : (over l E (codeB rec k ++ z))[E + 2]? = some (encByte rec.length 0) := by
    rw [over_in hf (by omega) (by omega), Nat.add_sub_cancel_left, List.getElem?_append_left (by omega)]; exact (code_bytes rec k).2
  have hlen : lenAt (over l E (codeB rec k ++ z)) E = rec.length := by
    unfold lenAt
    rw [List.getD_eq_getElem?_getD, List.getD_eq_getElem?_getD, b1, b2]
    exact enc_back _ (by omega)
  have p1 : ((over l E (codeB rec k ++ z)).drop (E + 13)).take rec.length = rec := by
    rw [over_part hf (by omega) (by omega), Nat.add_sub_cancel_left, List.drop_append_of_le_length (by omega)]
    have : (codeB rec k).drop 13 = rec := by
      unfold codeB
      rw [List.drop_succ_cons, List.drop_append, frontB_len, List.drop_of_length_le (by rw [frontB_len]; omega), List.nil_append, List.drop_append, encB_len]
      rw [List.drop_of_length_le (by rw [encB_len]; simp)]
      simp
    rw [this, List.take_left]
  have p2 : ((over l E (codeB rec k ++ z)).drop E).take (13 + rec.length) = codeB rec k := by
    rw [over_part hf (by omega) (by omega), Nat.sub_self, List.drop_zero, ← hc, List.take_left]
  unfold recAt
  rw [if_neg (by omega), hlen, if_neg (by omega), p1, p2, if_pos (by simp)]

theorem app_over {d : Ds} {rec : List UInt8} (hv : validB d = true) (hf : fitsB d rec = true) : ∃ z : List UInt8, appB d rec = over (bytesD d) (jEnd d) (codeB rec (jRecs d).length ++ z) ∧ jEnd d + (codeB rec (jRecs d).length ++ z).length ≤ (bytesD d).length ∧
    ((z = [0] ∧ jEnd d + (13 + rec.length) < d.st.length) ∨ (z = [] ∧ d.st.length = jEnd d + (13 + rec.length))) := by
  have ht := tail_len hf
  have hb := bytesD_len hv
  have hfit : jEnd d + (13 + rec.length) ≤ d.st.length := by unfold fitsB at hf; rw [Bool.and_eq_true] at hf; exact of_decide_eq_true hf.2
  have e : appB d rec = over (bytesD d) (jEnd d) (82 :: tailB d rec) := over_three (by rw [hb]; exact ht)
  by_cases hr : jEnd d + (13 + rec.length) < d.st.length
  · refine ⟨[0], ?_, ?_, .inl ⟨rfl, hr⟩⟩
    · rw [e]; unfold tailB; rw [if_pos hr]; rfl
    · rw [List.length_append, codeB_len, hb]; simp; omega
  · refine ⟨[], ?_, ?_, .inr ⟨rfl, by omega⟩⟩
    · rw [e]; unfold tailB; rw [if_neg hr, List.append_nil, List.append_nil]; rfl
    · rw [List.length_append, codeB_len, hb]; simp; omega

/-- The records after Append. -/
theorem app_recs {d : Ds} {rec : List UInt8} (hv : validB d = true) (h1 : 1 ≤ rec.length) (hf : fitsB d rec = true) :
    recsOf (appB d rec) = recsOf (bytesD d) ++ [rec] ∧ endAt (appB d rec) = endAt (bytesD d) + (13 + rec.length) ∧ AgreeTo (bytesD d) (appB d rec) (endAt (bytesD d)) := by
  obtain ⟨z, ea, hfit, hz⟩ := app_over hv hf
  have h2 : rec.length ≤ 4096 := by unfold fitsB at hf; rw [Bool.and_eq_true] at hf; exact of_decide_eq_true hf.1
  have hE : jEnd d = endAt (bytesD d) := by unfold jEnd; rw [hv]; rfl
  have hk : (jRecs d).length = (places (bytesD d)).length := by unfold jRecs recsOf; rw [hv, if_pos rfl, List.length_map]
  have hb := bytesD_len hv
  rw [hE, hk] at ea hfit
  rw [hE] at hz
  have hcl : (codeB rec ((places (bytesD d)).length : Nat) ++ z).length = 13 + rec.length + z.length := by rw [List.length_append, codeB_len]
  have hln : (appB d rec).length = (bytesD d).length := by rw [ea]; exact over_length hfit
  have hA : AgreeTo (bytesD d) (appB d rec) (endAt (bytesD d)) := ⟨hln.symm, fun i hi => by rw [ea, over_out hfit (by omega)]⟩
  obtain ⟨c1, _⟩ := places_full (bytesD d)
  have c2 := c1.agree hA (Nat.le_refl _)
  have hr := recAt_written (l := bytesD d) (z := z) (E := endAt (bytesD d)) (k := (places (bytesD d)).length) h1 h2 hfit
  rw [← ea] at hr
  have c3 := c2.snoc (by rw [Nat.zero_add]; exact hr)
  have hn : recAt (appB d rec) (endAt (bytesD d) + (13 + rec.length)) (places (bytesD d) ++ [(endAt (bytesD d) + 13, rec.length)]).length = none := by
    rcases hz with ⟨rfl, _⟩ | ⟨rfl, hl⟩
    · apply recAt_zero
      rw [ea, over_in hfit (by omega) (by rw [hcl]; simp <;> omega), Nat.add_sub_cancel_left, List.getElem?_append_right (by rw [codeB_len]; omega), codeB_len, Nat.sub_self]
      rfl
    · apply recAt_short
      rw [hln, hb]; omega
  obtain ⟨e1, e2⟩ := places_of c3 hn
  refine ⟨?_, e2, hA⟩
  unfold recsOf
  rw [e1, List.map_append]
  congr 1
  · refine List.map_congr_left fun x hx => ?_
    unfold partOf
    refine (hA.part ?_).symm
    have : ∀ {a k e : Nat} {xs : List (Nat × Nat)}, Chain (bytesD d) a k xs e → ∀ x ∈ xs, x.1 + x.2 ≤ e := by
      intro a k e xs hch
      induction hch with
      | nil => intro x hx; simp at hx
      | cons hr h ih =>
        intro x hx
        rcases List.mem_cons.1 hx with rfl | hx
        · have := h.le; show _ + 13 + _ ≤ _; omega
        · exact ih x hx
    exact this c1 x hx
  · show [partOf (appB d rec) (endAt (bytesD d) + 13, rec.length)] = [rec]
    have := (recAt_len hr).2.2.2
    unfold partOf
    rw [← this]
end Go.Proofs.Ytneipacdpojjkaa
