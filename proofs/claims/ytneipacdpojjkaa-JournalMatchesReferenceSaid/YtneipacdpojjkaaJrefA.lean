/-
  The reference of the journal: the digest and the encoding of a record.
-/
import Derived.Test.YtneipacdpojjkaaCode
namespace Go.Proofs.Ytneipacdpojjkaa
open Go.RowKit Go.Proofs WageMem WageDisk

theorem tdiv_u {x c : Int} (hx : U64 x) (hc : 1 ≤ c) : IntKind.u64.wrap (x.tdiv c) = x / c := by
  have h0 : x.tdiv c = x / c := Int.tdiv_eq_ediv_of_nonneg hx.1
  have h1 : 0 ≤ x / c := Int.ediv_nonneg hx.1 (by omega)
  have h2 : x / c ≤ x := Int.ediv_le_self _ hx.1
  have h3 := hx.2
  rw [h0, IntKind.wrap_u64]
  omega
theorem feed_tdiv (s b : Int) : bits .xor .u64 (IntKind.u64.wrap (bits .xor .u64 s b * 1099511628211)) (IntKind.u64.wrap ((IntKind.u64.wrap (bits .xor .u64 s b * 1099511628211)).tdiv 4294967296)) = feedI s b := by
  rw [tdiv_u (wrap_U _) (by decide)]; rfl
def firstT (s : Int) : Int := IntKind.u64.wrap (bits .xor .u64 s (IntKind.u64.wrap (s.tdiv 2147483648)) * 13787848793156543929)
def secondT (s : Int) : Int := IntKind.u64.wrap (bits .xor .u64 s (IntKind.u64.wrap (s.tdiv 134217728)) * 10723151780598845931)
def finT (s : Int) : Int := bits .xor .u64 s (IntKind.u64.wrap (s.tdiv 8589934592))
theorem fin_T {s : Int} (h : U64 s) : finT (secondT (firstT s)) = finI (secondI (firstI s)) := by
  have e1 : firstT s = firstI s := by unfold firstT firstI; rw [tdiv_u h (by decide)]
  have e2 : secondT (firstI s) = secondI (firstI s) := by unfold secondT secondI; rw [tdiv_u (first_U _) (by decide)]
  rw [e1, e2]
  unfold finT finI
  rw [tdiv_u (second_U _) (by decide)]

set_option maxHeartbeats 1000000 in
theorem rstate_any (bs : List UInt8) (w : World) (hs : bs.length ≤ 1000000) :
    Calls Try.prog 66 #[.string ⟨bs.toArray⟩] w fun e w' => e = .returned (.int .u64 (stateI bs)) ∧ w = w' := by
  have hsz : (ByteArray.mk bs.toArray).size = bs.length := by simp [ByteArray.size]
  generalize hss : ByteArray.mk bs.toArray = s at *
  have hd : s.data.toList = bs := by rw [← hss]
  have HD := Lib.hid hd
  have hs2 : s.size ≤ 1000000 := by omega
  have HZ := Lib.hid hsz
  clear hd hsz hss
  go_enter Try.func66, Try.ntmps66
  go_wp2_with fail
  go_loop [3, 4] (fun v i => ∃ k : Nat, k ≤ s.size ∧ i = .int .i64 k ∧ v = .int .u64 (stateI (s.data.toList.take k))) (fun _ i => s.size - (intOf i).toNat)
  case atStart => exact ⟨0, Nat.zero_le _, rfl, rfl⟩
  case round =>
    obtain ⟨k, hk, rfl, rfl⟩ := hrel
    by_cases hlt : k < s.size
    · have HS : Hid (stateI (s.data.toList.take (k + 1)) = feedI (stateI (s.data.toList.take k)) (s[k].toNat : Int)) := by
        unfold Hid
        rw [List.take_succ_eq_append_getElem (by simpa using hlt), state_snoc]
        rfl
      have hb : s[k].toNat ≤ 255 := by have := s[k].toNat_lt; omega
      go_wp2_with fail
      go_round
      case rel => exact ⟨k + 1, by omega, by go_num, by rw [HS.out, ← feed_tdiv]⟩
      case measure => simp [intOf]; omega
    · obtain rfl : k = s.size := by omega
      have HE : Hid (stateI (s.data.toList.take s.size) = stateI bs) := by
        unfold Hid; rw [HD.out, HZ.out, List.take_length]
      rw [HE.out]
      go_wp2_with fail
      go_ret
      exact ⟨rfl, rfl⟩

theorem rfinish_any (s n : Int) (w : World) (n0 : 0 ≤ n) (n1 : n ≤ 1000000) :
    Calls Try.prog 65 #[.int .u64 s, .int .i64 n] w fun e w' => e = .returned (.int .u64 (finI (secondI (firstI (bits .xor .u64 s n))))) ∧ w = w' := by
  rw [← fin_T (xor_U s n)]
  generalize hb : bits .xor .u64 s n = b
  have HB := Lib.hid hb
  clear hb
  go_enter Try.func65, Try.ntmps65
  go_wp2
  go_ret
  rw [HB.out]
  exact ⟨rfl, rfl⟩

theorem rsum_any (bs : List UInt8) (w : World) (hs : bs.length ≤ 1000000) :
    Calls Try.prog 60 #[.string ⟨bs.toArray⟩] w fun e w' => e = .returned (.int .u64 (sumI bs)) ∧ w = w' := by
  have hsz : (ByteArray.mk bs.toArray).size = bs.length := by simp [ByteArray.size]
  have HC := Lib.hid (rstate_any bs w hs)
  generalize ByteArray.mk bs.toArray = s at *
  have h1 : s.size ≤ 1000000 := by omega
  have E : Hid (sumI bs = finI (secondI (firstI (bits .xor .u64 (stateI bs) (s.size : Int))))) := by unfold Hid sumI; rw [hsz]
  clear hsz
  go_enter Try.func60, Try.ntmps60
  go_wp2_with fail
  refine (HC.out).mono ?_
  rintro e _ ⟨rfl, rfl⟩
  go_wp2_with fail
  refine (rfinish_any _ _ _ (by omega) (by omega)).mono ?_
  rintro e _ ⟨rfl, rfl⟩
  go_wp2_with fail
  go_ret
  rw [E.out]
  exact ⟨rfl, rfl⟩

theorem front_four (n : Nat) (k : Int) : (frontB n k).map bv = [.int .u8 ((n : Int) / 256 % 256), .int .u8 ((n : Int) % 256), .int .u8 (k / 256 % 256), .int .u8 (k % 256)] := by
  show [bv (encByte n 8), bv (encByte n 0), bv (encByte (k % 65536) 8), bv (encByte (k % 65536) 0)] = _
  unfold bv
  rw [encByte_toNat, encByte_toNat, encByte_toNat, encByte_toNat]
  have e1 : k % 65536 / 2 ^ 8 % 256 = k / 256 % 256 := by omega
  have e2 : k % 65536 / 2 ^ 0 % 256 = k % 256 := by omega
  have e3 : (n : Int) / 2 ^ 0 % 256 = (n : Int) % 256 := by omega
  have e4 : (n : Int) / 2 ^ 8 % 256 = (n : Int) / 256 % 256 := by omega
  rw [e1, e2, e3, e4]

/-- The first 8 - j bytes of the sum, from the most significant one. -/
theorem enc_eight (z : Int) (j : Nat) (hj : j < 8) : (encTo 8 z (j + 1)).map bv = (encTo 8 z j).map bv ++ [.int .u8 (z / 2 ^ (56 - 8 * j) % 256)] := by
  rw [encTo_succ, List.map_append]
  congr 1
  show [bv _] = _
  unfold bv
  rw [encByte_toNat, show 8 * (8 - 1 - j) = 56 - 8 * j by omega]

set_option maxRecDepth 100000 in
set_option maxHeartbeats 4000000 in
theorem rcode_any (A : Option Addr) (n c : Nat) (rec : List UInt8) (k : Int) (w : World) (h : Bytes w A n c rec) (hn : n ≤ 5000) :
    Calls Try.prog 54 #[.slice A n c, .int .i64 k] w (RetOwn 5 (13 + n) ((codeB rec k).map bv) w) := by
  obtain ⟨i0, hi, hz0, hz1, hz2⟩ := info_parts info5
  have HH := Lib.hid h
  have HN := Lib.hid h.1
  clear h
  have ff := front_four n k
  have e0 : (n : Int) / 256 % 256 = (n : Int) / 256 := by omega
  rw [e0] at ff
  have FL := Lib.hid (frontB_len n k)
  obtain ⟨fr, hfr⟩ : ∃ fr, frontB n k = fr := ⟨_, rfl⟩
  rw [hfr] at ff
  have FF := Lib.hid ff
  have HFR := Lib.hid hfr
  clear ff hfr e0
  rw [HFR.out] at FL
  go_enter Try.func54, Try.ntmps54
  go_upto_region 3 with (fail)
  obtain ⟨w1, hw1⟩ : ∃ x, x = w.alloc (.cells #[.int .u8 ((n : Int) / 256), .int .u8 ((n : Int) % 256), .int .u8 (k / 256 % 256), .int .u8 (k % 256)] 5) := ⟨_, rfl⟩
  have g1 : Grew w w1 := by rw [hw1]; exact (Grew.refl _).alloc _
  have hB1 : Bytes w1 (some ⟨w.heap.size, 0, none⟩) 4 4 fr := by rw [hw1]; exact built fr _ (by rw [FF.out]) 4 FL.out (by decide)
  rw [← hw1]
  have hsz : w.heap.size < w1.heap.size := by rw [hw1]; simp
  clear hw1
  have cv1 := conv_bytes hB1
  have cv2 := conv_bytes (HH.out.grew g1)
  have HB1 := Lib.hid hB1
  have hadd := run_string_add_lists (P := Try.prog) (w := w1) fr rec (by rw [FL.out]; decide) (by have := HN.out; omega)
  clear hB1
  go_wp2_with fail
  refine (rsum_any (fr ++ rec) _ (by rw [List.length_append, FL.out, HN.out]; omega)).mono ?_
  rintro e _ ⟨rfl, rfl⟩
  obtain ⟨sm, hsm⟩ : ∃ sm, sumI (fr ++ rec) = sm := ⟨_, rfl⟩
  rw [hsm]
  have HSM := Lib.hid hsm
  clear hsm hadd cv1 cv2
  go_upto_region 6 with (first
    | (at_builtin; refine wpList_append_sl _ rfl (.tmp 29) (.tmp 30) 22 rfl w.heap.size 5 i0 (.int .u8 0) 1 1 Try.underlying22 hi hz0 hz1 hz2 rfl (by decide) (.slice none 0 0) 0 [] rfl (World.ownsRow_nil _ _ _ _) (some ⟨w1.heap.size, 0, none⟩) 1 1 [.int .u8 82] rfl (built [82] _ rfl 1 rfl (by decide)).2 (by simp [Value.oneCell']) (by unfold maxLen; omega) (by omega) (by have := g1.le; simp; omega) ?_; intro v2 w2 own2 hg2 hat2; obtain ⟨A2, c2, rfl⟩ := own_form own2)
    | (at_builtin; refine wpList_append_sl _ rfl (.tmp 31) (.tmp 32) 22 rfl w.heap.size 5 i0 (.int .u8 0) 1 1 Try.underlying22 hi hz0 hz1 hz2 rfl (by decide) _ 1 [.int .u8 82] rfl own2 (some ⟨w.heap.size, 0, none⟩) 4 4 (fr.map bv) rfl (HB1.out.grew (((Grew.refl w1).alloc _).grown hg2 (by simp [Value.ownBlock]))).2 (bv_one fr) (by unfold maxLen; omega) (by omega) (by have := (((Grew.refl w1).alloc _).grown hg2 (by simp [Value.ownBlock])).le; have := g1.le; omega) ?_; intro v3 w3 own3 hg3 hat3; obtain ⟨A3, c3, rfl⟩ := own_form own3))
  have g2 : Grew w w2 := (g1.alloc _).grown hg2 (by simp [Value.ownBlock])
  have g3 : Grew w w3 := g2.grown hg3 (fun j hj => (own2.lt j hj).1)
  have OWN : Hid (w3.ownsRow w.heap.size 5 1 (.slice A3 (5 + 0) c3) (5 + 0) ([.int .u8 82] ++ (fr.map bv ++ (encTo 8 sm 0).map bv))) := by
    unfold Hid; rw [show encTo 8 sm 0 = [] from rfl, List.map_nil, List.append_nil]; exact own3
  obtain ⟨f1, f2⟩ := sum_U (fr ++ rec)
  rw [HSM.out] at f1 f2
  clear own2 own3 hg2 hg3 hat2 hat3 HB1 hsz g1 g2
  go_wp2_with fail
  go_loopw [8, 9] (fun v i wr => ∃ (j : Nat) (Af : Option Addr) (cf : Nat), j ≤ 8 ∧ v = .slice Af (5 + j) cf ∧ i = .int .i64 (56 - 8 * (j : Int)) ∧ Hid (wr.ownsRow w.heap.size 5 1 (.slice Af (5 + j) cf) (5 + j) ([.int .u8 82] ++ (fr.map bv ++ (encTo 8 sm j).map bv))) ∧ Grew w wr) (fun _ i _ => (intOf i + 8).toNat)
  case atStart => exact ⟨0, A3, c3, by omega, rfl, rfl, OWN, g3⟩
  case round =>
    clear OWN g3
    obtain ⟨j, Af, cf, hj, rfl, rfl, OWN, hg⟩ := hrel
    by_cases hjt : j < 8
    · have q0 : 0 ≤ 56 - 8 * (j : Int) := by omega
      have q1 : 56 - 8 * (j : Int) ≤ 63 := by omega
      have q2 : (56 - 8 * (j : Int)).toNat = 56 - 8 * j := by omega
      obtain ⟨bz, hbz⟩ : ∃ bz, bz = sm / 2 ^ (56 - 8 * j) % 256 := ⟨_, rfl⟩
      have HB := Lib.hid (enc_eight sm j hjt)
      rw [← hbz] at HB
      have BI : Hid (Sl (wr.alloc (.cells #[.int .u8 (sm / 2 ^ (56 - 8 * j) % 256)] 5)) 1 (some ⟨wr.heap.size, 0, none⟩) 1 1 [.int .u8 bz]) := by
        have := (built (w := wr) (t := 5) [encByte sm (56 - 8 * j)] #[.int .u8 (sm / 2 ^ (56 - 8 * j) % 256)] (by rw [← encByte_toNat]; rfl) 1 rfl (by decide)).2
        rw [hbz, ← encByte_toNat]
        rw [← encByte_toNat] at this
        exact this
      have HBZ := Lib.hid hbz
      clear hbz
      go_wp2_with (at_builtin; refine wpList_append_sl _ rfl (.tmp 38) (.tmp 44) 22 rfl w.heap.size 5 i0 (.int .u8 0) 1 1 Try.underlying22 hi hz0 hz1 hz2 rfl (by decide) (.slice Af (5 + j) cf) (5 + j) _ rfl (OWN.out.alloc _) (some ⟨wr.heap.size, 0, none⟩) 1 1 [.int .u8 bz] rfl BI.out (by simp [Value.oneCell']) (by unfold maxLen; omega) (by omega) (by have := hg.le; simp; omega) ?_; intro v1 x1 own1 hgr1 hat1; obtain ⟨Ah, ch, rfl⟩ := own_form own1)
      have hgx : Grew w x1 := (hg.alloc _).grown hgr1 (fun j hj => (OWN.out.lt j hj).1)
      have own2 : Hid (x1.ownsRow w.heap.size 5 1 (.slice Ah (5 + (j + 1)) ch) (5 + (j + 1)) ([.int .u8 82] ++ (fr.map bv ++ (encTo 8 sm (j + 1)).map bv))) := by
        unfold Hid
        rw [HB.out, ← List.append_assoc (fr.map bv), ← List.append_assoc]
        exact own1
      clear own1 hgr1 hat1 OWN BI
      go_roundw
      case rel => exact ⟨j + 1, Ah, ch, by omega, rfl, by congr 1; omega, own2, hgx⟩
      case measure => simp [intOf]; omega
    · obtain rfl : j = 8 := by omega
      have q0 : decide ((0 : Int) ≤ 56 - 8 * ((8 : Nat) : Int)) = false := by decide
      go_wp2_with (at_builtin; refine wpList_append_sl _ rfl (.tmp 46) (.tmp 47) 22 rfl w.heap.size 5 i0 (.int .u8 0) 1 1 Try.underlying22 hi hz0 hz1 hz2 rfl (by decide) (.slice Af (5 + 8) cf) (5 + 8) _ rfl OWN.out A n c (rec.map bv) rfl (HH.out.grew hg).2 (bv_one rec) (by unfold maxLen; omega) (by omega) hg.le ?_; intro v1 x1 own1 hgr1 hat1; obtain ⟨Ah, ch, rfl⟩ := own_form own1)
      have hgx : Grew w x1 := hg.grown hgr1 (fun j hj => (OWN.out.lt j hj).1)
      have OF : Hid (x1.ownsRow w.heap.size 5 1 (.slice Ah (13 + n) ch) (13 + n) ((codeB rec k).map bv)) := by
        unfold Hid codeB
        rw [HN.out, HFR.out, HSM.out, show encB 8 [sm] = encTo 8 sm 8 by unfold encB; simp, List.map_cons, List.map_append, List.map_append]
        rw [List.append_assoc, List.append_assoc] at own1
        exact own1
      clear own1 hgr1 hat1 OWN
      go_ret
      exact ⟨Ah, ch, rfl, OF.out, hgx⟩
end Go.Proofs.Ytneipacdpojjkaa
