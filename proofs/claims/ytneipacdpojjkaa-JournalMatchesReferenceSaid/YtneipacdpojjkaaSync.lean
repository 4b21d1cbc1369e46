/-
  The law DiskSyncing, walked.
-/
import Derived.Test.YtneipacdpojjkaaSame
import Derived.Test.YtneipacdpojjkaaReading
namespace Go.Proofs.Ytneipacdpojjkaa
open Go.RowKit Go.Proofs WageMem WageDisk

/-- Two disks in boxes, and a list of integers: what a law's last statement reads. -/
structure Bnd (R R' : Nat) (dv0 dv1 sv0 sv1 : Value) (d s : Ds) (Ak : Option Addr) (nk ck : Nat) (kept : List Int) (w W : World) : Prop where
  c0 : W.cell? ⟨R, 0, none⟩ = some dv0
  c1 : W.cell? ⟨R, 1, none⟩ = some dv1
  c2 : W.cell? ⟨R', 0, none⟩ = some sv0
  c3 : W.cell? ⟨R', 1, none⟩ = some sv1
  d : Disk W (.agg #[dv0, dv1]) d
  s : Disk W (.agg #[sv0, sv1]) s
  k : Ints W Ak nk ck kept
  g : Grew w W
section
variable {R R' : Nat} {dv0 dv1 sv0 sv1 : Value} {d s : Ds} {Ak : Option Addr} {nk ck : Nat} {kept : List Int} {w W : World}
theorem Bnd.grew {W' : World} (h : Bnd R R' dv0 dv1 sv0 sv1 d s Ak nk ck kept w W) (g : Grew W W') : Bnd R R' dv0 dv1 sv0 sv1 d s Ak nk ck kept w W' :=
  ⟨g.cell h.c0, g.cell h.c1, g.cell h.c2, g.cell h.c3, h.d.grew g, h.s.grew g, h.k.grew g, h.g.trans g⟩
/-- A contract in such a world: it gives the world's facts anew. -/
def Beside (R R' : Nat) (dv0 dv1 sv0 sv1 : Value) (d s : Ds) (Ak : Option Addr) (nk ck : Nat) (kept : List Int) (w W W' : World) : Prop :=
  W'.cell? ⟨R, 0, none⟩ = some dv0 ∧ W'.cell? ⟨R, 1, none⟩ = some dv1 ∧ W'.cell? ⟨R', 0, none⟩ = some sv0 ∧ W'.cell? ⟨R', 1, none⟩ = some sv1 ∧ Bnd R R' dv0 dv1 sv0 sv1 d s Ak nk ck kept w W' ∧ Grew W W'
theorem Bnd.beside {W' : World} (h : Bnd R R' dv0 dv1 sv0 sv1 d s Ak nk ck kept w W) (g : Grew W W') : Beside R R' dv0 dv1 sv0 sv1 d s Ak nk ck kept w W W' :=
  ⟨g.cell h.c0, g.cell h.c1, g.cell h.c2, g.cell h.c3, h.grew g, g⟩
theorem all_d (h : Bnd R R' dv0 dv1 sv0 sv1 d s Ak nk ck kept w W) {bs : List UInt8} (hb : readB d 0 d.st.length = bs) :
    Calls Try.prog 30 #[.agg #[dv0, dv1]] W fun e w' => ∃ A n c, e = .returned (.slice A n c) ∧ Bytes w' A n c bs ∧ Beside R R' dv0 dv1 sv0 sv1 d s Ak nk ck kept w W w' := by
  subst hb
  exact (all_any _ d W h.d).mono fun _ _ ⟨A, n, c, e, hB, g⟩ => ⟨A, n, c, e, hB, h.beside g⟩
theorem all_s (h : Bnd R R' dv0 dv1 sv0 sv1 d s Ak nk ck kept w W) {bs : List UInt8} (hb : readB s 0 s.st.length = bs) :
    Calls Try.prog 30 #[.agg #[sv0, sv1]] W fun e w' => ∃ A n c, e = .returned (.slice A n c) ∧ Bytes w' A n c bs ∧ Beside R R' dv0 dv1 sv0 sv1 d s Ak nk ck kept w W w' := by
  subst hb
  exact (all_any _ s W h.s).mono fun _ _ ⟨A, n, c, e, hB, g⟩ => ⟨A, n, c, e, hB, h.beside g⟩
theorem bytes_b (h : Bnd R R' dv0 dv1 sv0 sv1 d s Ak nk ck kept w W) {A B : Option Addr} {n m c e : Nat} {xs : List UInt8} (ha : Bytes W A n c xs) (hb : Bytes W B m e xs) :
    Calls Try.prog 25 #[.slice A n c, .slice B m e] W fun r w' => r = .returned (.bool true) ∧ Beside R R' dv0 dv1 sv0 sv1 d s Ak nk ck kept w W w' :=
  (bytes_ok ha hb rfl).mono fun _ _ ⟨e, g⟩ => ⟨e, h.beside g⟩
theorem sync_s (h : Bnd R R' dv0 dv1 sv0 sv1 d s Ak nk ck kept w W) {s' : Ds} (hs : syncD s = s') :
    Calls Try.prog 26 #[.agg #[sv0, sv1]] W fun e w' => ∃ A n c A' n' c', e = .returned (.agg #[.slice A n c, .slice A' n' c']) ∧ Disk w' (.agg #[.slice A n c, .slice A' n' c']) s' ∧ Beside R R' dv0 dv1 sv0 sv1 d s Ak nk ck kept w W w' :=
  (sync_val h.s hs).mono fun _ _ ⟨A, n, c, A', n', c', e, f, g⟩ => ⟨A, n, c, A', n', c', e, f.now, h.beside g⟩
theorem sync_d (h : Bnd R R' dv0 dv1 sv0 sv1 d s Ak nk ck kept w W) {s' : Ds} (hs : syncD d = s') :
    Calls Try.prog 26 #[.agg #[dv0, dv1]] W fun e w' => ∃ A n c A' n' c', e = .returned (.agg #[.slice A n c, .slice A' n' c']) ∧ Disk w' (.agg #[.slice A n c, .slice A' n' c']) s' ∧ Beside R R' dv0 dv1 sv0 sv1 d s Ak nk ck kept w W w' :=
  (sync_val h.d hs).mono fun _ _ ⟨A, n, c, A', n', c', e, f, g⟩ => ⟨A, n, c, A', n', c', e, f.now, h.beside g⟩
theorem crash_s (h : Bnd R R' dv0 dv1 sv0 sv1 d s Ak nk ck kept w W) {s' : Ds} (hs : crashD s kept = s') :
    Calls Try.prog 28 #[.agg #[sv0, sv1], .slice Ak nk ck] W fun e w' => ∃ A n c A' n' c', e = .returned (.agg #[.slice A n c, .slice A' n' c']) ∧ Disk w' (.agg #[.slice A n c, .slice A' n' c']) s' ∧ Beside R R' dv0 dv1 sv0 sv1 d s Ak nk ck kept w W w' :=
  (crash_val h.s h.k hs).mono fun _ _ ⟨A, n, c, A', n', c', e, f, g⟩ => ⟨A, n, c, A', n', c', e, f.now, h.beside g⟩
theorem crash_d (h : Bnd R R' dv0 dv1 sv0 sv1 d s Ak nk ck kept w W) {s' : Ds} (hs : crashD d kept = s') :
    Calls Try.prog 28 #[.agg #[dv0, dv1], .slice Ak nk ck] W fun e w' => ∃ A n c A' n' c', e = .returned (.agg #[.slice A n c, .slice A' n' c']) ∧ Disk w' (.agg #[.slice A n c, .slice A' n' c']) s' ∧ Beside R R' dv0 dv1 sv0 sv1 d s Ak nk ck kept w W w' :=
  (crash_val h.d h.k hs).mono fun _ _ ⟨A, n, c, A', n', c', e, f, g⟩ => ⟨A, n, c, A', n', c', e, f.now, h.beside g⟩
theorem same_b (h : Bnd R R' dv0 dv1 sv0 sv1 d s Ak nk ck kept w W) {u v : Value} {x : Ds} (hu : Disk W u x) (hv : Disk W v x) :
    Calls Try.prog 19 #[u, v] W fun r w' => r = .returned (.bool true) ∧ Beside R R' dv0 dv1 sv0 sv1 d s Ak nk ck kept w W w' :=
  (same_eq hu hv).mono fun _ _ ⟨e, g⟩ => ⟨e, h.beside g⟩
end

/-! ### Plain laws -/
theorem sync_valid {d : Ds} (hv : validB d = true) : syncD d = ⟨applyTo wholeC d.st 0 d.pe, []⟩ := by unfold syncD; rw [hv]; rfl
theorem valid_synced {d : Ds} (hv : validB d = true) : validB ⟨applyTo wholeC d.st 0 d.pe, []⟩ = true := by
  have h1 := apply_len hv (ch := wholeC) (fun _ _ => Nat.le_refl _)
  have h2 := valid_size hv
  unfold validB
  rw [decide_eq_true ⟨by show (applyTo wholeC d.st 0 d.pe).length ≤ 65536; omega, by show 0 ≤ 64; omega⟩]
  rfl
theorem crash_synced {d : Ds} (hv : validB d = true) (kept : List Int) : crashD ⟨applyTo wholeC d.st 0 d.pe, []⟩ kept = ⟨applyTo wholeC d.st 0 d.pe, []⟩ := by
  unfold crashD; rw [valid_synced hv]; rfl
theorem sync_synced {d : Ds} (hv : validB d = true) : syncD ⟨applyTo wholeC d.st 0 d.pe, []⟩ = ⟨applyTo wholeC d.st 0 d.pe, []⟩ := by
  unfold syncD; rw [valid_synced hv]; rfl

set_option maxRecDepth 100000 in
set_option maxHeartbeats 16000000 in
theorem syncing_main (A : Option Addr) (n c : Nat) (A' : Option Addr) (n' c' : Nat) (d : Ds) (Ak : Option Addr) (nk ck : Nat) (kept : List Int) (w : World) (h : Disk w (.agg #[.slice A n c, .slice A' n' c']) d) (hK : Ints w Ak nk ck kept)
    (hsm : smallB d 600 = true) (hv : validB d = true) (hk : nk ≤ 80) :
    Calls Try.prog 5 #[.agg #[.slice A n c, .slice A' n' c'], .slice Ak nk ck] w fun e w' => e = .returned (.bool true) ∧ Grew w w' := by
  have g0 : Grew w (w.alloc (.cells #[.slice A n c, .slice A' n' c'] 25)) := (Grew.refl w).alloc _
  have dd : decide (80 < (nk : Int)) = false := decide_eq_false (by omega)
  have E1 := Lib.hid (sync_valid hv)
  have E2 := Lib.hid (read_all hv)
  have E3 : Hid (readB ⟨applyTo wholeC d.st 0 d.pe, []⟩ 0 (applyTo wholeC d.st 0 d.pe).length = applyTo wholeC d.st 0 d.pe) := read_all (valid_synced hv)
  have E4 := Lib.hid (crash_synced hv kept)
  have E5 := Lib.hid (sync_synced hv)
  have HS := Lib.hid hsm
  have HV := Lib.hid hv
  have HH := Lib.hid h
  have HK := Lib.hid hK
  clear hsm hv h hK
  go_enter Try.func5, Try.ntmps5
  go_wp2_with fail
  refine (head_true _).mono ?_
  rintro e w1 ⟨rfl, g1⟩
  have d0 : w1.cell? ⟨w.heap.size, 0, none⟩ = some (.slice A n c) := g1.cell (by simp)
  have d1 : w1.cell? ⟨w.heap.size, 1, none⟩ = some (.slice A' n' c') := g1.cell (by simp)
  have gg := g0.trans g1
  clear g0 g1
  go_wp2_with fail
  refine (small_any _ d 600 _ (HH.out.grew gg)).mono ?_
  rw [HS.out]
  rintro e w2 ⟨rfl, g2⟩
  have d0' := g2.cell d0
  have d1' := g2.cell d1
  have gg2 := gg.trans g2
  clear d0 d1 gg g2
  go_wp2_with fail
  refine (rvalid_any _ d _ (HH.out.grew gg2)).mono ?_
  rw [HV.out]
  rintro e w3 ⟨rfl, g3⟩
  have d0 := g3.cell d0'
  have d1 := g3.cell d1'
  have gg3 := gg2.trans g3
  clear d0' d1' gg2 g3
  go_wp2_with fail
  refine (sync_val (HH.out.grew gg3) E1.out).mono ?_
  rintro e w4 ⟨As, ns, cs, As', ns', cs', rfl, f4, g4⟩
  obtain rfl : ns' = 0 := f4.now.parts.2.1.symm
  have d0' := g4.cell d0
  have d1' := g4.cell d1
  have gg4 := gg3.trans g4
  clear d0 d1 gg3 g4
  have sz4 : w.heap.size < w4.heap.size := World.block_lt_of_cell? _ _ d0'
  go_wp2_with fail
  obtain ⟨w5, hw5⟩ : ∃ w5, w5 = w4.alloc (.cells #[.slice As ns cs, .slice As' 0 cs'] 25) := ⟨_, rfl⟩
  have g5 : Grew w4 w5 := by rw [hw5]; exact (Grew.refl _).alloc _
  have e0 : w5.cell? ⟨w4.heap.size, 0, none⟩ = some (.slice As ns cs) := by rw [hw5]; simp
  have e1 : w5.cell? ⟨w4.heap.size, 1, none⟩ = some (.slice As' 0 cs') := by rw [hw5]; simp
  have d0 := g5.cell d0'
  have d1 := g5.cell d1'
  rw [← hw5]
  have gg5 := gg4.trans g5
  have bnd : Bnd w.heap.size w4.heap.size (.slice A n c) (.slice A' n' c') (.slice As ns cs) (.slice As' 0 cs') d ⟨applyTo wholeC d.st 0 d.pe, []⟩ Ak nk ck kept w w5.drew :=
    ⟨d0, d1, e0, e1, HH.out.grew gg5.drew, (f4.now.grew g5).grew (Grew.refl w5).drew, HK.out.grew gg5.drew, gg5.drew⟩
  clear hw5 d0' d1' gg4 g5 f4 gg5
  generalize applyTo wholeC d.st 0 d.pe = av at *
  have hst : Bytes w5.drew As ns cs av := bnd.s.parts.1
  go_region_held3 (fun w' => w'.cell? ⟨w.heap.size, 0, none⟩ = some (.slice A n c) ∧ w'.cell? ⟨w.heap.size, 1, none⟩ = some (.slice A' n' c') ∧ w'.cell? ⟨w4.heap.size, 0, none⟩ = some (.slice As ns cs) ∧ w'.cell? ⟨w4.heap.size, 1, none⟩ = some (.slice As' 0 cs'))
    (first | (refine ⟨?_, ?_, ?_, ?_⟩ <;> assumption) | go_keep)
    (first
      | (go_at_call 30; ((with_reducible refine (all_s (by assumption) E3.out).mono ?_); rintro e w6 ⟨Ax, nx, cx, rfl, hBx, k0, k1, k2, k3, kb, kg⟩))
      | (go_at_call 30; ((with_reducible refine (all_d (by assumption) E2.out).mono ?_); rintro e w6 ⟨Ay, ny, cy, rfl, hBy, k0, k1, k2, k3, kb, kg⟩))
      | (go_at_call 25; ((with_reducible refine (bytes_b kb (by first | assumption | exact Bytes.grew (by assumption) kg | exact kb.s.parts.1) hBy).mono ?_); rintro e w6 ⟨rfl, k0, k1, k2, k3, kb, kg⟩))
      | (go_at_call 26; ((with_reducible refine (sync_s kb E5.out).mono ?_); rintro e w6 ⟨Ay, ny, cy, Az, nz, cz, rfl, hDy, k0, k1, k2, k3, kb, kg⟩))
      | (go_at_call 28; ((with_reducible refine (crash_s kb E4.out).mono ?_); rintro e w6 ⟨Ay, ny, cy, Az, nz, cz, rfl, hDy, k0, k1, k2, k3, kb, kg⟩))
      | (go_at_call 19; ((with_reducible refine (same_b kb hDy kb.s).mono ?_); rintro e w6 ⟨rfl, k0, k1, k2, k3, kb, kg⟩)))
  have gfin := kb.g
  go_wp2_with fail
  go_ret
  exact ⟨rfl, gfin⟩

set_option maxRecDepth 100000 in
set_option maxHeartbeats 16000000 in
theorem syncing_skip (A : Option Addr) (n c : Nat) (A' : Option Addr) (n' c' : Nat) (d : Ds) (Ak : Option Addr) (nk ck : Nat) (w : World) (h : Disk w (.agg #[.slice A n c, .slice A' n' c']) d)
    (hs : smallB d 600 = false ∨ validB d = false ∨ 80 < nk) :
    Calls Try.prog 5 #[.agg #[.slice A n c, .slice A' n' c'], .slice Ak nk ck] w fun e w' => e = .returned (.bool true) ∧ Grew w w' := by
  have g0 : Grew w (w.alloc (.cells #[.slice A n c, .slice A' n' c'] 25)) := (Grew.refl w).alloc _
  have HH := Lib.hid h
  clear h
  cases hsm : smallB d 600 with
  | false =>
    have HS := Lib.hid hsm
    clear hsm hs
    go_enter Try.func5, Try.ntmps5
    go_wp2_with fail
    refine (head_true _).mono ?_
    rintro e w1 ⟨rfl, g1⟩
    have d0 : w1.cell? ⟨w.heap.size, 0, none⟩ = some (.slice A n c) := g1.cell (by simp)
    have d1 : w1.cell? ⟨w.heap.size, 1, none⟩ = some (.slice A' n' c') := g1.cell (by simp)
    have gg := g0.trans g1
    clear g0 g1
    go_wp2_with fail
    refine (small_any _ d 600 _ (HH.out.grew gg)).mono ?_
    rw [HS.out]
    rintro e w2 ⟨rfl, g2⟩
    clear d0 d1
    go_wp2_with fail
    go_ret
    exact ⟨rfl, gg.trans g2⟩
  | true =>
    cases hv : validB d with
    | false =>
      have HS := Lib.hid hsm
      have HV := Lib.hid hv
      clear hsm hs hv
      go_enter Try.func5, Try.ntmps5
      go_wp2_with fail
      refine (head_true _).mono ?_
      rintro e w1 ⟨rfl, g1⟩
      have d0 : w1.cell? ⟨w.heap.size, 0, none⟩ = some (.slice A n c) := g1.cell (by simp)
      have d1 : w1.cell? ⟨w.heap.size, 1, none⟩ = some (.slice A' n' c') := g1.cell (by simp)
      have gg := g0.trans g1
      clear g0 g1
      go_wp2_with fail
      refine (small_any _ d 600 _ (HH.out.grew gg)).mono ?_
      rw [HS.out]
      rintro e w2 ⟨rfl, g2⟩
      have d0' := g2.cell d0
      have d1' := g2.cell d1
      have gg2 := gg.trans g2
      clear d0 d1 gg g2
      go_wp2_with fail
      refine (rvalid_any _ d _ (HH.out.grew gg2)).mono ?_
      rw [HV.out]
      rintro e w3 ⟨rfl, g3⟩
      clear d0' d1'
      go_wp2_with fail
      go_ret
      exact ⟨rfl, gg2.trans g3⟩
    | true =>
      have hk : 80 < nk := by
        rcases hs with hs | hs | hs
        · rw [hsm] at hs; cases hs
        · rw [hv] at hs; cases hs
        · exact hs
      have dd : decide (80 < (nk : Int)) = true := decide_eq_true (by omega)
      have HS := Lib.hid hsm
      have HV := Lib.hid hv
      clear hsm hs hv
      go_enter Try.func5, Try.ntmps5
      go_wp2_with fail
      refine (head_true _).mono ?_
      rintro e w1 ⟨rfl, g1⟩
      have d0 : w1.cell? ⟨w.heap.size, 0, none⟩ = some (.slice A n c) := g1.cell (by simp)
      have d1 : w1.cell? ⟨w.heap.size, 1, none⟩ = some (.slice A' n' c') := g1.cell (by simp)
      have gg := g0.trans g1
      clear g0 g1
      go_wp2_with fail
      refine (small_any _ d 600 _ (HH.out.grew gg)).mono ?_
      rw [HS.out]
      rintro e w2 ⟨rfl, g2⟩
      have d0' := g2.cell d0
      have d1' := g2.cell d1
      have gg2 := gg.trans g2
      clear d0 d1 gg g2
      go_wp2_with fail
      refine (rvalid_any _ d _ (HH.out.grew gg2)).mono ?_
      rw [HV.out]
      rintro e w3 ⟨rfl, g3⟩
      clear d0' d1'
      go_wp2_with fail
      go_ret
      exact ⟨rfl, gg2.trans g3⟩

theorem syncing_true (v : Value) (d : Ds) (Ak : Option Addr) (nk ck : Nat) (kept : List Int) (w : World) (h : Disk w v d) (hK : Ints w Ak nk ck kept) :
    Calls Try.prog 5 #[v, .slice Ak nk ck] w fun e w' => e = .returned (.bool true) ∧ Grew w w' := by
  obtain ⟨A, n, c, A', n', c', rfl, _, _⟩ := h.form
  cases hs : smallB d 600 with
  | false => exact syncing_skip A n c A' n' c' d Ak nk ck w h (.inl hs)
  | true =>
    cases hv : validB d with
    | false => exact syncing_skip A n c A' n' c' d Ak nk ck w h (.inr (.inl hv))
    | true =>
      by_cases hk : 80 < nk
      · exact syncing_skip A n c A' n' c' d Ak nk ck w h (.inr (.inr hk))
      · exact syncing_main A n c A' n' c' d Ak nk ck kept w h hK hs hv (by omega)
end Go.Proofs.Ytneipacdpojjkaa
