/-
  The reference's find.
-/
import Derived.Test.YtaocjobbfcfleaaSameD
namespace WageSet
/-- The place of the first standing with an ID, or -1. -/
def findI (l : List Sta) (id : Int) : Int := match l.findIdx? (fun s => s.p.id == id) with
  | some i => i
  | none => -1
theorem findI_hit {l : List Sta} {k : Nat} {x : Sta} {id : Int} (hx : l[k]? = some x) (h1 : hasId (l.take k) id = false) (h : x.p.id = id) : findI l id = k := by
  unfold findI
  have : l.findIdx? (fun s => s.p.id == id) = some k := by
    rw [List.findIdx?_eq_some_iff_getElem]
    obtain ⟨hk, rfl⟩ := List.getElem?_eq_some_iff.1 hx
    refine ⟨hk, by simp [h], fun j hj => ?_⟩
    unfold hasId at h1
    rw [List.any_eq_false] at h1
    have := h1 l[j] (List.mem_take_iff_getElem.2 ⟨j, by omega, rfl⟩)
    simpa using this
  rw [this]
theorem findI_miss {l : List Sta} {id : Int} (h : hasId l id = false) : findI l id = -1 := by
  unfold findI
  have : l.findIdx? (fun s => s.p.id == id) = none := by
    rw [List.findIdx?_eq_none_iff]
    intro x hx
    unfold hasId at h
    rw [List.any_eq_false] at h
    simpa using h x hx
  rw [this]
end WageSet
namespace Go.Proofs.Ytaocjobbfcfleaa
open Go.RowKit Go.Proofs WageMem WageOrd WageRec WageMap WageReg WageSet
set_option maxRecDepth 100000 in
set_option maxHeartbeats 8000000 in
theorem rfind_any (A B : Option Addr) (n c m e : Nat) (d : Desk) (id : Int) (w : World) (h : DeskIs w A n c B m e d) :
    Calls Try.prog 34 #[.agg #[.slice A n c, .slice B m e], .int .i64 id] w fun r w' => r = .returned (.int .i64 (findI d.ss id)) ∧ Grew w w' := by
  have HH := Lib.hid h
  have HL := Lib.hid h.1.1.1
  have hn := h.1.1.le
  obtain ⟨bd, hbd⟩ : ∃ b, b = w.heap.size := ⟨_, rfl⟩
  obtain ⟨wd, hwd⟩ : ∃ x, x = w.alloc (.cells #[.slice A n c, .slice B m e] 25) := ⟨_, rfl⟩
  have G0 : Hid (Grew w wd) := by unfold Hid; rw [hwd]; exact (Grew.refl w).alloc _
  have HRD : Hid (wd.rangeAt bd 0 [.slice A n c, .slice B m e]) := by unfold Hid; rw [hwd, hbd]; exact range_new w _ 25
  clear h
  go_enter Try.func34, Try.ntmps34
  go_upto_region 1 with (fail)
  rw [← hwd, ← hbd]
  clear hwd hbd
  go_wp2_with fail
  go_loopw [5] (fun i y => ∃ k : Nat, k ≤ n ∧ i = .int .i64 k ∧ Hid (hasId (d.ss.take k) id = false) ∧ Grew wd y) (fun i _ => n - (intOf i).toNat)
  case atStart => exact ⟨0, Nat.zero_le _, rfl, rfl, Grew.refl _⟩
  case round =>
    obtain ⟨k, hk, rfl, HI, hg⟩ := hrel
    have hr0 := range_grew HRD.out hg 0 _ rfl
    simp only [Nat.zero_add] at hr0
    by_cases hlt : k < n
    · obtain ⟨b, o, x, rfl, hx, hr⟩ := (HH.out.1.1.grew (G0.out.trans hg)).at_ se_ok hlt
      have HX := Lib.hid hx
      have k0 : (0 : Int) ≤ (k : Int) := by omega
      have k1 : (k : Int) < (n : Int) := by omega
      obtain ⟨c0, c1, c2, c3, c4, c5, c6⟩ := s_cells hr
      clear hx hr
      by_cases hid : x.p.id = id
      · have HF := Lib.hid (findI_hit HX.out HI.out hid)
        have q : (x.p.id == id) = true := by simp [hid]
        clear hid
        go_wp2_with fail
        go_ret
        exact ⟨ret_int HF.out.symm, G0.out.trans hg⟩
      · have HI2 := Lib.hid (hasId_none HX.out HI.out hid)
        have q : (x.p.id == id) = false := by simp [hid]
        clear hid
        go_wp2_with fail
        go_roundw
        case rel => exact ⟨k + 1, by omega, by go_num, HI2, hg⟩
        case measure => simp [intOf]; omega
    · have HF : Hid (findI d.ss id = -1) := findI_miss (by
        have h1 := HI.out
        rw [List.take_of_length_le (by rw [HL.out]; omega)] at h1
        exact h1)
      go_wp2_with fail
      go_ret
      exact ⟨ret_int HF.out.symm, G0.out.trans hg⟩
theorem rfind_val {A B : Option Addr} {n c m e : Nat} {d : Desk} {id z : Int} {w : World} (h : DeskIs w A n c B m e d) (hz : findI d.ss id = z) :
    Calls Try.prog 34 #[.agg #[.slice A n c, .slice B m e], .int .i64 id] w fun r w' => r = .returned (.int .i64 z) ∧ Grew w w' := by subst hz; exact rfind_any A B n c m e d id w h
end Go.Proofs.Ytaocjobbfcfleaa
