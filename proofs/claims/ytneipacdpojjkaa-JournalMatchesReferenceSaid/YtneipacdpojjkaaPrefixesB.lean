/-
  The law DiskPrefixes, walked: the valid disk.
-/
import Derived.Test.YtneipacdpojjkaaPrefixes
namespace Go.Proofs.Ytneipacdpojjkaa
open Go.RowKit Go.Proofs WageMem WageDisk

theorem _root_.Go.Proofs.Ytneipacdpojjkaa.Writes.take {w : World} {A : Option Addr} {n c : Nat} {ws : List Wr} (h : Writes w A n c ws) {k : Nat} (hk : k ≤ n) : Writes w A k c (ws.take k) := by
  refine ⟨by rw [List.length_take, h.1]; omega, Nat.le_trans hk h.2.1, h.2.2.1, fun hA => ⟨by have := (h.2.2.2.1 hA).1; omega, (h.2.2.2.1 hA).2⟩, fun hn => ?_⟩
  obtain ⟨b, o, e, hc⟩ := h.2.2.2.2 (by omega)
  refine ⟨b, o, e, fun j x hx => hc j x ?_⟩
  rw [List.getElem?_take] at hx
  split at hx
  · exact hx
  · cases hx
theorem Writes.at_ {w : World} {A : Option Addr} {n c : Nat} {ws : List Wr} (h : Writes w A n c ws) {k : Nat} (hk : k < n) :
    ∃ b o x Ad nd cd, A = some ⟨b, o, Option.none⟩ ∧ ws[k]? = some x ∧ w.cell? ⟨b, o + k * 2, Option.none⟩ = some (.int .i64 x.off) ∧ w.cell? ⟨b, o + k * 2 + 1, Option.none⟩ = some (.slice Ad nd cd) ∧ Bytes w Ad nd cd x.data := by
  obtain ⟨b, o, e, hc⟩ := h.2.2.2.2 (by omega)
  have hl : k < ws.length := by rw [h.1]; exact hk
  obtain ⟨h1, _, _, Ad, nd, cd, h4, h5⟩ := hc k ws[k] (List.getElem?_eq_getElem hl)
  exact ⟨b, o, ws[k], Ad, nd, cd, e, List.getElem?_eq_getElem hl, h1, h4, h5⟩

theorem sync_t {R R' : Nat} {sv0 sv1 : Value} {A : Option Addr} {n c : Nat} {A' : Option Addr} {n' c' : Nat} {d s : Ds} {Ak : Option Addr} {nk ck : Nat} {kept : List Int} {w W : World}
    (h : Bnd R R' (.slice A n c) (.slice A' n' c') sv0 sv1 d s Ak nk ck kept w W) {k : Nat} (hk : k ≤ n') {s' : Ds} (hs : syncD ⟨d.st, d.pe.take k⟩ = s') :
    Calls Try.prog 26 #[.agg #[.slice A n c, .slice A' k c']] W fun e w' => ∃ B m e' B' m' f', e = .returned (.agg #[.slice B m e', .slice B' m' f']) ∧ Disk w' (.agg #[.slice B m e', .slice B' m' f']) s' ∧ Beside R R' (.slice A n c) (.slice A' n' c') sv0 sv1 d s Ak nk ck kept w W w' :=
  (sync_val (Disk.mk_ (d := ⟨d.st, d.pe.take k⟩) h.d.parts.1 (h.d.parts.2.take hk)) hs).mono fun _ _ ⟨A, n, c, A', n', c', e, f, g⟩ => ⟨A, n, c, A', n', c', e, f.now, h.beside g⟩

set_option maxRecDepth 100000 in
set_option maxHeartbeats 16000000 in
theorem prefixes_main (A : Option Addr) (n c : Nat) (A' : Option Addr) (n' c' : Nat) (d : Ds) (m : Int) (w : World) (h : Disk w (.agg #[.slice A n c, .slice A' n' c']) d)
    (m0 : 0 ≤ m) (m1 : m < 256) (hsm : smallB d 600 = true) (hv : validB d = true) (q : Nat) (hq : Int.tmod m ((n' : Int) + 1) = q) (hq' : q ≤ n') :
    Calls Try.prog 7 #[.agg #[.slice A n c, .slice A' n' c'], .int .u8 m] w fun e w' => e = .returned (.bool true) ∧ Grew w w' := by
  have g0 : Grew w (w.alloc (.cells #[.slice A n c, .slice A' n' c'] 25)) := (Grew.refl w).alloc _
  obtain ⟨i0, hi, hz0, hz1, hz2⟩ := info_parts info3
  have hn' := h.parts.2.1
  have hsz := (valid_size hv).2
  have s2 : n' ≤ 64 := by omega
  have E1 := Lib.hid (sync_take hv q)
  have E2 := Lib.hid (crash_lens hv (k := q) (by omega))
  have HN := Lib.hid hn'
  have HS := Lib.hid hsm
  have HV := Lib.hid hv
  have HH := Lib.hid h
  clear hsm hv h hn' hsz
  go_enter Try.func7, Try.ntmps7
  go_wp2_with fail
  refine (head_true _).mono ?_
  rintro e w1 ⟨rfl, g1⟩
  have d0 : w1.cell? ⟨w.heap.size, 0, none⟩ = some (.slice A n c) := g1.cell (by simp)
  have d1 : w1.cell? ⟨w.heap.size, 1, none⟩ = some (.slice A' n' c') := g1.cell (by simp)
  have gg := g0.trans g1
  clear g0 g1
  go_wp2_with fail
  refine (small_any _ d 600 _ (HH.out.grew gg)).mono ?_
  rw [HS.out]
  rintro e w2 ⟨rfl, g2⟩
  have d0' := g2.cell d0
  have d1' := g2.cell d1
  have gg2 := gg.trans g2
  clear d0 d1 gg g2
  go_wp2_with fail
  refine (rvalid_any _ d _ (HH.out.grew gg2)).mono ?_
  rw [HV.out]
  rintro e w3 ⟨rfl, g3⟩
  have d0 := g3.cell d0'
  have d1 := g3.cell d1'
  have gg3 := gg2.trans g3
  clear d0' d1' gg2 g3
  go_wp2_with fail
  go_loopw [7, 8] (fun v i wr => ∃ (k : Nat) (Af : Option Addr) (cf : Nat), k ≤ q ∧ v = .slice Af k cf ∧ i = .int .i64 k ∧ wr.ownsRow w3.heap.size 3 1 (.slice Af k cf) k ((lens d k).map iv) ∧ Grew w3 wr) (fun _ i _ => q - (intOf i).toNat)
  case atStart => exact ⟨0, none, 0, Nat.zero_le _, rfl, rfl, World.ownsRow_nil _ _ _ _, Grew.refl _⟩
  case round =>
    obtain ⟨k, Af, cf, hk, rfl, rfl, hown, hg⟩ := hrel
    have d0' := hg.cell d0
    have d1' := hg.cell d1
    by_cases hlt : k < q
    · obtain ⟨b, o, x, Ad, nd, cd, rfl, hx, c1, c2, hbx⟩ := (HH.out.grew (gg3.trans hg)).parts.2.at_ (k := k) (by omega)
      have hs := lens_succ hx
      rw [hbx.1] at hs
      have HX := Lib.hid hs
      have HO := Lib.hid hown
      have bi := builtI (w := wr) (t := 3) [(nd : Int)] #[.int .i64 nd] rfl 1 rfl (by decide)
      have BI := Lib.hid bi
      clear hown bi d0 d1 hx hs hbx c1
      go_wp2_with (at_builtin; refine wpList_append_sl _ rfl (.tmp 31) (.tmp 39) 26 rfl w3.heap.size 3 i0 (.int .i64 0) 1 8 Try.underlying26 hi hz0 hz1 hz2 rfl (by decide) (.slice Af k cf) k ((lens d k).map iv) rfl (HO.out.alloc _) (some ⟨wr.heap.size, 0, none⟩) 1 1 [.int .i64 nd] rfl BI.out.2 (by simp [Value.oneCell']) (by unfold maxLen; omega) (by omega) (by have := hg.le; simp; omega) ?_; intro v1 x1 own1 hg1 hat1; obtain ⟨Ag, cg, rfl⟩ := own_form own1)
      have hgx : Grew w3 x1 := (hg.alloc _).grown hg1 (fun j hj => (HO.out.lt j hj).1)
      have own2 : x1.ownsRow w3.heap.size 3 1 (.slice Ag (k + 1) cg) (k + 1) ((lens d (k + 1)).map iv) := by
        rw [HX.out, List.map_append]; exact own1
      clear own1 hg1 hat1 HO BI
      go_roundw
      case rel => exact ⟨k + 1, Ag, cg, by omega, rfl, by go_num, own2, hgx⟩
      case measure => simp [intOf]; omega
    · obtain rfl : k = q := by omega
      have HF := Lib.hid (Ints.own (lens_len (by rw [HN.out]; exact hq')) hown)
      have ggr := gg3.trans hg
      clear hown d0 d1
      have sz4 : w.heap.size < wr.heap.size := World.block_lt_of_cell? _ _ d0'
      have hcc : k ≤ c' := Nat.le_trans hq' HH.out.parts.2.2.1
      have f1 : (0 : Int) ≤ (k : Int) := by omega
      have f2 : (k : Int) ≤ (c' : Int) := by omega
      go_wp2_with fail
      have bnd : Bnd w.heap.size w.heap.size (.slice A n c) (.slice A' n' c') (.slice A n c) (.slice A' n' c') d d Af k cf (lens d k) w wr.drew :=
        ⟨(Grew.refl wr).drew.cell d0', (Grew.refl wr).drew.cell d1', (Grew.refl wr).drew.cell d0', (Grew.refl wr).drew.cell d1', HH.out.grew ggr.drew, HH.out.grew ggr.drew, HF.out.grew (Grew.refl wr).drew, ggr.drew⟩
      go_region_held3 (fun w' => w'.cell? ⟨w.heap.size, 0, none⟩ = some (.slice A n c) ∧ w'.cell? ⟨w.heap.size, 1, none⟩ = some (.slice A' n' c'))
        (first | (refine ⟨?_, ?_⟩ <;> assumption) | go_keep)
        (first
          | (go_at_call 28; ((with_reducible refine (crash_d (by assumption) E2.out).mono ?_); rintro e w6 ⟨Ax, nx, cx, Ay, ny, cy, rfl, hDx, k0, k1, k2, k3, kb, kg⟩))
          | (go_at_call 26; ((with_reducible refine (sync_t kb hq' E1.out).mono ?_); rintro e w6 ⟨Az, nz, cz, Au, nu, cu, rfl, hDy, k0, k1, k2, k3, kb, kg⟩))
          | (go_at_call 19; ((with_reducible refine (same_b kb (hDx.grew kg) hDy).mono ?_); rintro e w6 ⟨rfl, k0, k1, k2, k3, kb, kg⟩)))
      have gfin := kb.g
      go_wp2_with fail
      go_ret
      exact ⟨rfl, gfin⟩

theorem prefixes_true (v : Value) (d : Ds) (m : Int) (w : World) (m0 : 0 ≤ m) (m1 : m < 256) (h : Disk w v d) :
    Calls Try.prog 7 #[v, .int .u8 m] w fun e w' => e = .returned (.bool true) ∧ Grew w w' := by
  obtain ⟨A, n, c, A', n', c', rfl, _, _⟩ := h.form
  cases hs : smallB d 600 with
  | false => exact prefixes_skip A n c A' n' c' d m w h (.inl hs)
  | true =>
    cases hv : validB d with
    | false => exact prefixes_skip A n c A' n' c' d m w h (.inr hv)
    | true =>
      have e1 : Int.tmod m ((n' : Int) + 1) = m % ((n' : Int) + 1) := Int.tmod_eq_emod_of_nonneg m0
      have e2 := Int.emod_nonneg m (b := (n' : Int) + 1) (by omega)
      have e3 := Int.emod_lt_of_pos m (b := (n' : Int) + 1) (by omega)
      exact prefixes_main A n c A' n' c' d m w h m0 m1 hs hv (m % ((n' : Int) + 1)).toNat (by rw [e1]; omega) (by omega)
end Go.Proofs.Ytneipacdpojjkaa
