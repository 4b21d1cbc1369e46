/-
  The law DiskIndependence, walked: all cases joined.
-/
import Derived.Test.YtneipacdpojjkaaIndep
namespace Go.Proofs.Ytneipacdpojjkaa
open Go.RowKit Go.Proofs WageMem WageDisk

set_option maxRecDepth 100000 in
set_option maxHeartbeats 16000000 in
theorem indep_over (A : Option Addr) (n c : Nat) (A' : Option Addr) (n' c' : Nat) (d : Ds) (Ak : Option Addr) (nk ck : Nat) (kept : List Int) (m : Int) (w : World) (h : Disk w (.agg #[.slice A n c, .slice A' n' c']) d) (hK : Ints w Ak nk ck kept)
    (m0 : 0 ≤ m) (m1 : m < 256) (hsm : smallB d 600 = true) (hv : validB d = true) (hk : nk ≤ 80) (hkn : n' ≤ nk) (h2 : 2 ≤ n') (i : Nat) (hq : Int.tmod m ((n' : Int) - 1) = i) (hi : i + 1 < n')
    (a b : Wr) (ha : d.pe[i]? = some a) (hb : d.pe[i + 1]? = some b) (hd : a.off < b.off + b.data.length ∧ b.off < a.off + a.data.length) :
    Calls Try.prog 9 #[.agg #[.slice A n c, .slice A' n' c'], .slice Ak nk ck, .int .u8 m] w fun e w' => e = .returned (.bool true) ∧ Grew w w' := by
  have g0 : Grew w (w.alloc (.cells #[.slice A n c, .slice A' n' c'] 25)) := (Grew.refl w).alloc _
  have dd : decide (80 < (nk : Int)) = false := decide_eq_false (by omega)
  have de : decide (nk < n') = false := decide_eq_false (by omega)
  have df : decide ((n' : Int) < 2) = false := decide_eq_false (by omega)
  have va := valid_in hv ha
  have vb := valid_in hv hb
  have hn' := h.parts.2.1
  have hsz := (valid_size hv).2
  have hsz1 := (valid_size hv).1
  have hn := h.parts.1.1
  have s1 : n ≤ 65536 := by omega
  have s2 : n' ≤ 64 := by omega
  have HN := Lib.hid hn
  have HN' := Lib.hid hn'
  have HS := Lib.hid hsm
  have HV := Lib.hid hv
  have HH := Lib.hid h
  have HK := Lib.hid hK
  have HA := Lib.hid ha
  have HB := Lib.hid hb
  have HDis := Lib.hid hd
  clear hsm hv h hK hn hn' hsz hsz1 ha hb hd
  go_enter Try.func9, Try.ntmps9
  go_wp2_with fail
  refine (head_true _).mono ?_
  rintro e w1 ⟨rfl, g1⟩
  have d0 : w1.cell? ⟨w.heap.size, 0, none⟩ = some (.slice A n c) := g1.cell (by simp)
  have d1 : w1.cell? ⟨w.heap.size, 1, none⟩ = some (.slice A' n' c') := g1.cell (by simp)
  have gg := g0.trans g1
  clear g0 g1
  go_wp2_with fail
  refine (small_any _ d 600 _ (HH.out.grew gg)).mono ?_
  rw [HS.out]
  rintro e w2 ⟨rfl, g2⟩
  have d0' := g2.cell d0
  have d1' := g2.cell d1
  have gg2 := gg.trans g2
  clear d0 d1 gg g2
  go_wp2_with fail
  refine (rvalid_any _ d _ (HH.out.grew gg2)).mono ?_
  rw [HV.out]
  rintro e w3 ⟨rfl, g3⟩
  have d0 := g3.cell d0'
  have d1 := g3.cell d1'
  have gg3 := gg2.trans g3
  clear d0' d1' gg2 g3
  go_upto_region 6 with fail
  obtain ⟨vs, hlv, hsl, hdat⟩ := writes_rows (HH.out.grew gg3).parts.2
  obtain ⟨_, Aa, na, ca, hva, hba⟩ := hdat i a HA.out
  obtain ⟨_, Ab, nb, cb, hvb, hbb⟩ := hdat (i + 1) b HB.out
  obtain ⟨bp, op, rfl, hcp⟩ := hsl.2.2.2.1 (by intro e; have := hsl.2.2.1; rw [e] at this; simp at this; omega)
  have pa := pcells_at HA.out hva
  have pb := pcells_at HB.out hvb
  have c1 := hcp _ _ pa.1
  have c2 := hcp _ _ pa.2
  have c3 := hcp _ _ pb.1
  have c4 := hcp _ _ pb.2
  rw [← Nat.add_assoc] at c2 c4
  have la := hba.1
  have lb := hbb.1
  have HDT := Lib.hid hdat
  have HLV := Lib.hid hlv
  have HSL := Lib.hid hsl
  have HVA := Lib.hid hva
  have HVB := Lib.hid hvb
  clear hdat hlv hsl hva hvb hcp pa pb hba hbb
  rw [la] at va
  rw [lb] at vb
  have hdis := HDis.out
  rw [la, lb] at hdis
  rw [HN.out] at va vb
  obtain ⟨va0, va1⟩ := va
  obtain ⟨vb0, vb1⟩ := vb
  have va2 : a.off + na ≤ 65536 := by omega
  have vb2 : b.off + nb ≤ 65536 := by omega
  clear la lb HDis
  have i0 : (0 : Int) ≤ (i : Int) := by omega
  have i1 : (i : Int) < (n' : Int) := by omega
  have i2 : (0 : Int) ≤ (i : Int) + 1 := by omega
  have i3 : (i : Int) + 1 < (n' : Int) := by omega
  have wr1 : IntKind.i64.wrap ((i : Int) + 1) = (i : Int) + 1 := IntWalk.i64_in _ (by omega)
  have tn1 : ((i : Int) + 1).toNat = i + 1 := by omega
  have n1 := World.new_ne w3 _ d1
  have n2 := World.new_ne w3 _ c1
  have n3 := World.new_ne w3 _ c2
  have n4 := World.new_ne w3 _ c3
  have n5 := World.new_ne w3 _ c4
  go_cut [10, 11] (fun s10 s11 wx => ∃ r1 r2 : Nat, s10 = .pointer (some ⟨r1, 0, none⟩) ∧ s11 = .pointer (some ⟨r2, 0, none⟩) ∧ wx.cell? ⟨r1, 0, none⟩ = some (.int .i64 a.off) ∧ wx.cell? ⟨r1, 1, none⟩ = some (.slice Aa na ca) ∧ wx.cell? ⟨r2, 0, none⟩ = some (.int .i64 b.off) ∧ wx.cell? ⟨r2, 1, none⟩ = some (.slice Ab nb cb) ∧ Grew w3 wx)
  case first =>
    go_region_held3 (fun w' => w'.cell? ⟨w.heap.size, 1, none⟩ = some (.slice (some ⟨bp, op, none⟩) n' c') ∧ w'.cell? ⟨bp, op + i * 2, none⟩ = some (.int .i64 a.off) ∧ w'.cell? ⟨bp, op + i * 2 + 1, none⟩ = some (.slice Aa na ca) ∧ w'.cell? ⟨bp, op + (i + 1) * 2, none⟩ = some (.int .i64 b.off) ∧ w'.cell? ⟨bp, op + (i + 1) * 2 + 1, none⟩ = some (.slice Ab nb cb)) (go_keep) (fail)
    all_goals (go_wp2_with fail; go_meet; exact ⟨_, _, rfl, rfl, by simp, by simp, by simp, by simp, (((Grew.refl w3).alloc _).alloc _).drew⟩)
  case rest =>
    obtain ⟨r1, r2, rfl, rfl, a0, a1, b0, b1, g4⟩ := hcut
    obtain ⟨w4, rfl⟩ : ∃ w4 : World, w4 = wc := ⟨_, rfl⟩
    have d0' := g4.cell d0
    have d1' := g4.cell d1
    have gg4 := gg3.trans g4
    clear d0 d1 n1 n2 n3 n4 n5 c1 c2 c3 c4
    obtain ⟨q, q'⟩ := hdis
    have q1 : decide (a.off < b.off + nb) = true := decide_eq_true q
    have q2 : decide (b.off < a.off + na) = true := decide_eq_true q'
    go_wp2_with fail
    go_ret
    exact ⟨rfl, gg4⟩

theorem indep_true (v : Value) (d : Ds) (Ak : Option Addr) (nk ck : Nat) (kept : List Int) (m : Int) (w : World) (m0 : 0 ≤ m) (m1 : m < 256) (h : Disk w v d) (hK : Ints w Ak nk ck kept) :
    Calls Try.prog 9 #[v, .slice Ak nk ck, .int .u8 m] w fun e w' => e = .returned (.bool true) ∧ Grew w w' := by
  obtain ⟨A, n, c, A', n', c', rfl, _, hW⟩ := h.form
  by_cases hs : smallB d 600 = false ∨ validB d = false ∨ n' < 2 ∨ nk < n' ∨ 80 < nk
  · exact indep_skip A n c A' n' c' d Ak nk ck m w h hs
  · have hsm : smallB d 600 = true := by cases e : smallB d 600 <;> simp_all
    have hv : validB d = true := by cases e : validB d <;> simp_all
    have e1 : Int.tmod m ((n' : Int) - 1) = m % ((n' : Int) - 1) := Int.tmod_eq_emod_of_nonneg m0
    have hk : ¬ (n' < 2 ∨ nk < n' ∨ 80 < nk) := fun e => hs (.inr (.inr e))
    have e2 := Int.emod_nonneg m (b := (n' : Int) - 1) (by omega)
    have e3 := Int.emod_lt_of_pos m (b := (n' : Int) - 1) (by omega)
    have hl := hW.1
    have hkl := hK.1
    obtain ⟨i, hi⟩ : ∃ i : Nat, m % ((n' : Int) - 1) = i := ⟨(m % ((n' : Int) - 1)).toNat, by omega⟩
    have hin : i + 1 < n' := by omega
    obtain ⟨a, ha⟩ : ∃ a, d.pe[i]? = some a := ⟨_, List.getElem?_eq_getElem (by omega)⟩
    obtain ⟨b, hb⟩ : ∃ b, d.pe[i + 1]? = some b := ⟨_, List.getElem?_eq_getElem (by omega)⟩
    obtain ⟨x, hx⟩ : ∃ x, kept[i]? = some x := ⟨_, List.getElem?_eq_getElem (by omega)⟩
    obtain ⟨y, hy⟩ : ∃ y, kept[i + 1]? = some y := ⟨_, List.getElem?_eq_getElem (by omega)⟩
    by_cases hd : a.off < b.off + b.data.length ∧ b.off < a.off + a.data.length
    · exact indep_over A n c A' n' c' d Ak nk ck kept m w h hK m0 m1 hsm hv (by omega) (by omega) (by omega) i (e1.trans hi) hin a b ha hb hd
    · exact indep_main A n c A' n' c' d Ak nk ck kept m w h hK m0 m1 hsm hv (by omega) (by omega) (by omega) i (e1.trans hi) hin a b ha hb hd x y hx hy
end Go.Proofs.Ytneipacdpojjkaa
