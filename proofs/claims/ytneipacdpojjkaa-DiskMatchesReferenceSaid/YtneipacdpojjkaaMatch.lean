/-
  The law DiskMatchesReference, walked.
-/
import Derived.Test.YtneipacdpojjkaaRefF
namespace Go.Proofs.Ytneipacdpojjkaa
open Go.RowKit Go.Proofs WageMem WageDisk

theorem rnew_val {size e : Int} {d : Ds} {w : World} (hd : newD size = d) (he : newE size = e) : Calls Try.prog 18 #[.int .i64 size] w (RetDiskE d e w) := by
  subst hd he; exact rnew_any size w
theorem rwrite_val {v : Value} {d d' : Ds} {off e : Int} {A3 : Option Addr} {n3 c3 : Nat} {data : List UInt8} {w : World} (h : Disk w v d) (hD : Bytes w A3 n3 c3 data) (o0 : -9223372036854775808 ≤ off) (o1 : off ≤ 9223372036854775807) (hd : writeD d off data = d') (he : writeE d off data = e) :
    Calls Try.prog 22 #[v, .int .i64 off, .slice A3 n3 c3] w (RetDiskE d' e w) := by
  subst hd he; exact rwrite_any v d off A3 n3 c3 data w h hD o0 o1

set_option maxRecDepth 100000 in
set_option maxHeartbeats 16000000 in
theorem match_front (size : Int) (A : Option Addr) (n c : Nat) (A' : Option Addr) (n' c' : Nat) (d : Ds) (off : Int) (A3 : Option Addr) (n3 c3 : Nat) (data : List UInt8) (count : Int) (Ak : Option Addr) (nk ck : Nat) (kept : List Int) (w : World)
    (h : Disk w (.agg #[.slice A n c, .slice A' n' c']) d) (hD : Bytes w A3 n3 c3 data) (hK : Ints w Ak nk ck kept) (o0 : -9223372036854775808 ≤ off) (o1 : off ≤ 9223372036854775807) (k0 : -9223372036854775808 ≤ count) (k1 : count ≤ 9223372036854775807)
    (hsm : smallB d 600 = true) (h3 : n3 ≤ 600) (hk : nk ≤ 80) :
    Calls Try.prog 3 #[.int .i64 size, .agg #[.slice A n c, .slice A' n' c'], .int .i64 off, .slice A3 n3 c3, .int .i64 count, .slice Ak nk ck] w fun e w' => e = .returned (.bool true) ∧ Grew w w' := by
  have g0 : Grew w (w.alloc (.cells #[.slice A n c, .slice A' n' c'] 25)) := (Grew.refl w).alloc _
  have t1 : decide (600 < (n3 : Int)) = false := decide_eq_false (by omega)
  have t2 : decide (80 < (nk : Int)) = false := decide_eq_false (by omega)
  have HS := Lib.hid hsm
  have HH := Lib.hid h
  have HK := Lib.hid hK
  have HD := Lib.hid hD
  clear hsm h hK hD
  obtain ⟨dn, hdn⟩ : ∃ dn, newD size = dn := ⟨_, rfl⟩
  obtain ⟨en, hen⟩ : ∃ en, newE size = en := ⟨_, rfl⟩
  obtain ⟨dw, hdw⟩ : ∃ dw, writeD d off data = dw := ⟨_, rfl⟩
  obtain ⟨ew, hew⟩ : ∃ ew, writeE d off data = ew := ⟨_, rfl⟩
  obtain ⟨br, hbr⟩ : ∃ br, readB d off count = br := ⟨_, rfl⟩
  obtain ⟨er, her⟩ : ∃ er, readE d off count = er := ⟨_, rfl⟩
  obtain ⟨ds, hds⟩ : ∃ ds, syncD d = ds := ⟨_, rfl⟩
  obtain ⟨dc, hdc⟩ : ∃ dc, crashD d kept = dc := ⟨_, rfl⟩
  have H1 := Lib.hid hdn
  have H2 := Lib.hid hen
  have H3 := Lib.hid hdw
  have H4 := Lib.hid hew
  have H5 := Lib.hid hbr
  have H6 := Lib.hid her
  have H7 := Lib.hid hds
  have H8 := Lib.hid hdc
  clear hdn hen hdw hew hbr her hds hdc
  have q1 : (en != en) = false := by simp
  have q2 : (ew == ew) = true := by simp
  have q3 : (er == er) = true := by simp
  go_enter Try.func3, Try.ntmps3
  go_wp2_with fail
  refine (head_true _).mono ?_
  rintro e w1 ⟨rfl, g1⟩
  have d0 : w1.cell? ⟨w.heap.size, 0, none⟩ = some (.slice A n c) := g1.cell (by simp)
  have d1 : w1.cell? ⟨w.heap.size, 1, none⟩ = some (.slice A' n' c') := g1.cell (by simp)
  have gg := g0.trans g1
  clear g0 g1
  go_wp2_with fail
  refine (new_val H1.out H2.out).mono ?_
  rintro e w2 ⟨B2, m2, f2, C2, p2, q2, rfl, fr2, g2⟩
  replace d0 := g2.cell d0
  replace d1 := g2.cell d1
  have sz20 := World.block_lt_of_cell? _ _ d0
  go_wp2_with fail
  obtain ⟨x2, hx2⟩ : ∃ x, x = w2.alloc (.cells #[.slice B2 m2 f2, .slice C2 p2 q2] 25) := ⟨_, rfl⟩
  have ga2 : Grew w2 x2 := by rw [hx2]; exact (Grew.refl _).alloc _
  have gs2 : Grew w1 x2 := g2.trans ga2
  have b20 : x2.cell? ⟨w2.heap.size, 0, none⟩ = some (.slice B2 m2 f2) := by rw [hx2]; simp
  have b21 : x2.cell? ⟨w2.heap.size, 1, none⟩ = some (.slice C2 p2 q2) := by rw [hx2]; simp
  have k2 : Hid (Disk x2 (.agg #[.slice B2 m2 f2, .slice C2 p2 q2]) dn) := fr2.now.grew ga2
  rw [← hx2]
  replace d0 := ga2.cell d0
  replace d1 := ga2.cell d1
  clear hx2 fr2 g2 ga2
  replace gg := gg.trans gs2
  clear sz20
  refine (rnew_val H1.out H2.out).mono ?_
  rintro e w3 ⟨B3, m3, f3, C3, p3, q3, rfl, fr3, g3⟩
  replace d0 := g3.cell d0
  replace d1 := g3.cell d1
  replace b20 := g3.cell b20
  replace b21 := g3.cell b21
  have sz30 := World.block_lt_of_cell? _ _ d0
  have sz31 := World.block_lt_of_cell? _ _ b20
  go_wp2_with fail
  obtain ⟨x3, hx3⟩ : ∃ x, x = w3.alloc (.cells #[.slice B3 m3 f3, .slice C3 p3 q3] 25) := ⟨_, rfl⟩
  have ga3 : Grew w3 x3 := by rw [hx3]; exact (Grew.refl _).alloc _
  have gs3 : Grew x2 x3 := g3.trans ga3
  have b30 : x3.cell? ⟨w3.heap.size, 0, none⟩ = some (.slice B3 m3 f3) := by rw [hx3]; simp
  have b31 : x3.cell? ⟨w3.heap.size, 1, none⟩ = some (.slice C3 p3 q3) := by rw [hx3]; simp
  have k3 : Hid (Disk x3 (.agg #[.slice B3 m3 f3, .slice C3 p3 q3]) dn) := fr3.now.grew ga3
  rw [← hx3]
  replace d0 := ga3.cell d0
  replace d1 := ga3.cell d1
  replace b20 := ga3.cell b20
  replace b21 := ga3.cell b21
  clear hx3 fr3 g3 ga3
  replace gg := gg.trans gs3
  clear sz30
  clear sz31
  refine (same_eq (k2.out.grew gs3) k3.out).mono ?_
  rintro e w4 ⟨rfl, g4⟩
  replace d0 := g4.cell d0
  replace d1 := g4.cell d1
  replace gg := gg.trans g4
  clear b20 b21 b30 b31 k2 k3 gs2 gs3 g4
  go_wp2_with fail
  refine (small_any _ d 600 _ (HH.out.grew gg)).mono ?_
  rw [HS.out]
  rintro e w5 ⟨rfl, g5⟩
  replace d0 := g5.cell d0
  replace d1 := g5.cell d1
  replace gg := gg.trans g5
  clear g5
  go_wp2_with fail
  refine (write_val (HH.out.grew gg) (HD.out.grew gg) o0 o1 H3.out H4.out).mono ?_
  rintro e w6 ⟨B6, m6, f6, C6, p6, q6, rfl, fr6, g6⟩
  replace d0 := g6.cell d0
  replace d1 := g6.cell d1
  have sz60 := World.block_lt_of_cell? _ _ d0
  go_wp2_with fail
  obtain ⟨x6, hx6⟩ : ∃ x, x = w6.alloc (.cells #[.slice B6 m6 f6, .slice C6 p6 q6] 25) := ⟨_, rfl⟩
  have ga6 : Grew w6 x6 := by rw [hx6]; exact (Grew.refl _).alloc _
  have gs6 : Grew w5 x6 := g6.trans ga6
  have b60 : x6.cell? ⟨w6.heap.size, 0, none⟩ = some (.slice B6 m6 f6) := by rw [hx6]; simp
  have b61 : x6.cell? ⟨w6.heap.size, 1, none⟩ = some (.slice C6 p6 q6) := by rw [hx6]; simp
  have k6 : Hid (Disk x6 (.agg #[.slice B6 m6 f6, .slice C6 p6 q6]) dw) := fr6.now.grew ga6
  rw [← hx6]
  replace d0 := ga6.cell d0
  replace d1 := ga6.cell d1
  clear hx6 fr6 g6 ga6
  replace gg := gg.trans gs6
  clear sz60
  refine (rwrite_val (HH.out.grew gg) (HD.out.grew gg) o0 o1 H3.out H4.out).mono ?_
  rintro e w7 ⟨B7, m7, f7, C7, p7, q7, rfl, fr7, g7⟩
  replace d0 := g7.cell d0
  replace d1 := g7.cell d1
  replace b60 := g7.cell b60
  replace b61 := g7.cell b61
  have sz70 := World.block_lt_of_cell? _ _ d0
  have sz71 := World.block_lt_of_cell? _ _ b60
  go_wp2_with fail
  obtain ⟨x7, hx7⟩ : ∃ x, x = w7.alloc (.cells #[.slice B7 m7 f7, .slice C7 p7 q7] 25) := ⟨_, rfl⟩
  have ga7 : Grew w7 x7 := by rw [hx7]; exact (Grew.refl _).alloc _
  have gs7 : Grew x6 x7 := g7.trans ga7
  have b70 : x7.cell? ⟨w7.heap.size, 0, none⟩ = some (.slice B7 m7 f7) := by rw [hx7]; simp
  have b71 : x7.cell? ⟨w7.heap.size, 1, none⟩ = some (.slice C7 p7 q7) := by rw [hx7]; simp
  have k7 : Hid (Disk x7 (.agg #[.slice B7 m7 f7, .slice C7 p7 q7]) dw) := fr7.now.grew ga7
  rw [← hx7]
  replace d0 := ga7.cell d0
  replace d1 := ga7.cell d1
  replace b60 := ga7.cell b60
  replace b61 := ga7.cell b61
  clear hx7 fr7 g7 ga7
  replace gg := gg.trans gs7
  clear sz70
  clear sz71
  refine (read_val (HH.out.grew gg) o0 k0 o1 k1 H5.out H6.out).mono ?_
  rintro e w8 ⟨R1, r1, s1, rfl, fr8, g8⟩
  replace d0 := g8.cell d0
  replace d1 := g8.cell d1
  replace b60 := g8.cell b60
  replace b61 := g8.cell b61
  replace b70 := g8.cell b70
  replace b71 := g8.cell b71
  replace gg := gg.trans g8
  go_wp2_with fail
  refine (rread_val (HH.out.grew gg) o0 k0 o1 k1 H5.out H6.out).mono ?_
  rintro e w9 ⟨R2, r2, s2, rfl, fr9, g9⟩
  have K6 := Lib.hid (((k6.out.grew gs7).grew g8).grew g9)
  have K7 := Lib.hid ((k7.out.grew g8).grew g9)
  have KR := Lib.hid (fr8.now.grew g9)
  have KS := Lib.hid fr9.now
  replace d0 := g9.cell d0
  replace d1 := g9.cell d1
  replace b60 := g9.cell b60
  replace b61 := g9.cell b61
  replace b70 := g9.cell b70
  replace b71 := g9.cell b71
  replace gg := gg.trans g9
  clear fr8 fr9 g8 g9 k6 k7 gs6 gs7
  go_wp2_with fail
  have e0 : w9.drew.cell? ⟨w.heap.size, 0, none⟩ = some (.slice A n c) := d0
  have e1 : w9.drew.cell? ⟨w.heap.size, 1, none⟩ = some (.slice A' n' c') := d1
  have e2 : w9.drew.cell? ⟨w6.heap.size, 0, none⟩ = some (.slice B6 m6 f6) := b60
  have e3 : w9.drew.cell? ⟨w6.heap.size, 1, none⟩ = some (.slice C6 p6 q6) := b61
  have e4 : w9.drew.cell? ⟨w7.heap.size, 0, none⟩ = some (.slice B7 m7 f7) := b70
  have e5 : w9.drew.cell? ⟨w7.heap.size, 1, none⟩ = some (.slice C7 p7 q7) := b71
  have kg : Grew w9 w9.drew := (Grew.refl w9).drew
  clear d0 d1 b60 b61 b70 b71
  go_region_held3 (fun w' => w'.cell? ⟨w.heap.size, 0, none⟩ = some (.slice A n c) ∧ w'.cell? ⟨w.heap.size, 1, none⟩ = some (.slice A' n' c') ∧ w'.cell? ⟨w6.heap.size, 0, none⟩ = some (.slice B6 m6 f6) ∧ w'.cell? ⟨w6.heap.size, 1, none⟩ = some (.slice C6 p6 q6) ∧ w'.cell? ⟨w7.heap.size, 0, none⟩ = some (.slice B7 m7 f7) ∧ w'.cell? ⟨w7.heap.size, 1, none⟩ = some (.slice C7 p7 q7))
    (with_reducible exact ⟨e0, e1, e2, e3, e4, e5⟩)
    (first
      | (go_at_call 19; ((with_reducible refine (same_eq (K6.out.grew kg) (K7.out.grew kg)).mono ?_); rintro e wA ⟨rfl, g⟩; replace e0 := g.cell e0; replace e1 := g.cell e1; replace e2 := g.cell e2; replace e3 := g.cell e3; replace e4 := g.cell e4; replace e5 := g.cell e5; replace kg := kg.trans g))
      | (go_at_call 25; ((with_reducible refine (bytes_ok (KR.out.grew kg) (KS.out.grew kg) rfl).mono ?_); rintro e wA ⟨rfl, g⟩; replace e0 := g.cell e0; replace e1 := g.cell e1; replace e2 := g.cell e2; replace e3 := g.cell e3; replace e4 := g.cell e4; replace e5 := g.cell e5; replace kg := kg.trans g))
      | (go_at_call 26; ((with_reducible refine (sync_val (HH.out.grew (gg.trans kg)) H7.out).mono ?_); rintro e wA ⟨Y1, y1, z1, Y2, y2, z2, rfl, fy, g⟩; replace e0 := g.cell e0; replace e1 := g.cell e1; replace e2 := g.cell e2; replace e3 := g.cell e3; replace e4 := g.cell e4; replace e5 := g.cell e5; replace kg := kg.trans g; have hy1 := fy.now; clear fy))
      | (go_at_call 27; ((with_reducible refine (rsync_val (HH.out.grew (gg.trans kg)) H7.out).mono ?_); rintro e wA ⟨Y3, y3, z3, Y4, y4, z4, rfl, fy, g⟩; replace e0 := g.cell e0; replace e1 := g.cell e1; replace e2 := g.cell e2; replace e3 := g.cell e3; replace e4 := g.cell e4; replace e5 := g.cell e5; replace kg := kg.trans g; replace hy1 := hy1.grew g; have hy2 := fy.now; clear fy))
      | (go_at_call 28; ((with_reducible refine (crash_val (HH.out.grew (gg.trans kg)) (HK.out.grew (gg.trans kg)) H8.out).mono ?_); rintro e wA ⟨Y1, y1, z1, Y2, y2, z2, rfl, fy, g⟩; replace e0 := g.cell e0; replace e1 := g.cell e1; replace e2 := g.cell e2; replace e3 := g.cell e3; replace e4 := g.cell e4; replace e5 := g.cell e5; replace kg := kg.trans g; have hy1 := fy.now; clear fy))
      | (go_at_call 29; ((with_reducible refine (rcrash_val (HH.out.grew (gg.trans kg)) (HK.out.grew (gg.trans kg)) H8.out).mono ?_); rintro e wA ⟨Y3, y3, z3, Y4, y4, z4, rfl, fy, g⟩; replace e0 := g.cell e0; replace e1 := g.cell e1; replace e2 := g.cell e2; replace e3 := g.cell e3; replace e4 := g.cell e4; replace e5 := g.cell e5; replace kg := kg.trans g; replace hy1 := hy1.grew g; have hy2 := fy.now; clear fy))
      | (go_at_call 19; ((with_reducible refine (same_eq hy1 hy2).mono ?_); rintro e wA ⟨rfl, g⟩; replace e0 := g.cell e0; replace e1 := g.cell e1; replace e2 := g.cell e2; replace e3 := g.cell e3; replace e4 := g.cell e4; replace e5 := g.cell e5; replace kg := kg.trans g; clear hy1 hy2)))
  have gfin := gg.trans kg
  go_wp2_with fail
  go_ret
  exact ⟨rfl, gfin⟩
end Go.Proofs.Ytneipacdpojjkaa
