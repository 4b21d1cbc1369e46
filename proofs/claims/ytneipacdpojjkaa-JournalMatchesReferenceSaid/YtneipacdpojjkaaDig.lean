/-
  The digest: feed, first, second, Sum; bytes.Equal; encode.
-/
import Derived.Test.YtneipacdpojjkaaExtremes
import Derived.WalkLawsBesides
import Derived.Lib.BufferRead
import Derived.Laws.Bits64
namespace Go.Proofs.Ytneipacdpojjkaa
open Go.RowKit Go.Proofs WageMem WageDisk

def mulW (a b : Int) : Int := IntKind.u64.wrap (a * b)
def feedI (s b : Int) : Int := bits .xor .u64 (IntKind.u64.wrap (bits .xor .u64 s b * 1099511628211)) (IntKind.u64.wrap (bits .xor .u64 s b * 1099511628211) / 4294967296)
def firstI (s : Int) : Int := IntKind.u64.wrap (bits .xor .u64 s (s / 2147483648) * 13787848793156543929)
def secondI (s : Int) : Int := IntKind.u64.wrap (bits .xor .u64 s (s / 134217728) * 10723151780598845931)
def initI : Int := 2611923443488327891
def stateI (bs : List UInt8) : Int := bs.foldl (fun s b => feedI s (b.toNat : Int)) initI
def finI (s : Int) : Int := bits .xor .u64 s (s / 8589934592)
def sumI (bs : List UInt8) : Int := finI (secondI (firstI (bits .xor .u64 (stateI bs) (bs.length : Int))))

def U64 (s : Int) : Prop := 0 ≤ s ∧ s ≤ 18446744073709551615
theorem wrap_U (n : Int) : U64 (IntKind.u64.wrap n) := by unfold U64; rw [IntKind.wrap_u64]; omega
theorem xor_U (a b : Int) : U64 (bits .xor .u64 a b) := wrap_U _
theorem feed_U (s b : Int) : U64 (feedI s b) := xor_U _ _
theorem first_U (s : Int) : U64 (firstI s) := wrap_U _
theorem second_U (s : Int) : U64 (secondI s) := wrap_U _
theorem init_U : U64 initI := by unfold U64 initI; decide
theorem state_U (bs : List UInt8) : U64 (stateI bs) := by
  unfold stateI
  suffices h : ∀ s, U64 s → U64 (bs.foldl (fun s b => feedI s (b.toNat : Int)) s) from h _ init_U
  induction bs with
  | nil => exact fun s h => h
  | cons b bs ih => exact fun s _ => ih _ (feed_U _ _)
theorem sum_U (bs : List UInt8) : U64 (sumI bs) := xor_U _ _
theorem state_snoc (bs : List UInt8) (b : UInt8) : stateI (bs ++ [b]) = feedI (stateI bs) (b.toNat : Int) := by unfold stateI; rw [List.foldl_append]; rfl

theorem feed_any (s b : Int) (w : World) (b0 : 0 ≤ b) (b1 : b ≤ 255) :
    Calls Try.prog 61 #[.int .u64 s, .int .u8 b] w fun e w' => e = .returned (.int .u64 (feedI s b)) ∧ w = w' := by
  go_enter Try.func61, Try.ntmps61
  go_wp2
  go_ret
  exact ⟨rfl, rfl⟩
theorem first_any (s : Int) (w : World) :
    Calls Try.prog 62 #[.int .u64 s] w fun e w' => e = .returned (.int .u64 (firstI s)) ∧ w = w' := by
  go_enter Try.func62, Try.ntmps62
  go_wp2
  go_ret
  exact ⟨rfl, rfl⟩
theorem second_any (s : Int) (w : World) :
    Calls Try.prog 63 #[.int .u64 s] w fun e w' => e = .returned (.int .u64 (secondI s)) ∧ w = w' := by
  go_enter Try.func63, Try.ntmps63
  go_wp2
  go_ret
  exact ⟨rfl, rfl⟩

/-- string(b), b a slice of bytes. -/
theorem conv_bytes {w : World} {A : Option Addr} {n c : Nat} {bs : List UInt8} (h : Bytes w A n c bs) : (convert 22 9 (.slice A n c)).run Try.prog w = .ok (.string ⟨bs.toArray⟩) w := by
  rcases A with _ | ad
  · obtain ⟨rfl, rfl⟩ := h.2.2.2.2.2 rfl
    obtain rfl : bs = [] := List.eq_nil_of_length_eq_zero h.1
    exact Lib.run_convert_nil_bytes w 22 9 5 0 Try.underlying22 Try.underlying5 Try.underlying9
  · obtain rfl := h.1
    refine run_convert_bytes_back w 22 9 5 ad c bs Try.underlying22 Try.underlying5 Try.underlying9 fun j hj => ?_
    obtain ⟨b, o, e, hc⟩ := h.at_ (by omega)
    injection e with e
    subst e
    have := hc j _ (List.getElem?_eq_getElem hj)
    unfold Addr.add
    split
    · rename_i h0; subst h0; simpa using this
    · exact this

theorem equal_any (A B : Option Addr) (n m c e : Nat) (xs ys : List UInt8) (w : World) (ha : Bytes w A n c xs) (hb : Bytes w B m e ys) :
    Calls Try.prog 64 #[.slice A n c, .slice B m e] w fun r w' => r = .returned (.bool (xs == ys)) ∧ w = w' := by
  have c1 := conv_bytes ha
  have c2 := conv_bytes hb
  clear ha hb
  go_enter Try.func64, Try.ntmps64
  go_wp2
  go_ret
  exact ⟨rfl, rfl⟩

set_option maxHeartbeats 1000000 in
theorem sum_any (bs : List UInt8) (w : World) (hs : bs.length ≤ 1000000) :
    Calls Try.prog 57 #[.string ⟨bs.toArray⟩] w fun e w' => e = .returned (.int .u64 (sumI bs)) ∧ w = w' := by
  have hsz : (ByteArray.mk bs.toArray).size = bs.length := by simp [ByteArray.size]
  generalize hss : ByteArray.mk bs.toArray = s at *
  have hd : s.data.toList = bs := by rw [← hss]
  have HD := Lib.hid hd
  have HSS := Lib.hid hss
  have hs2 : s.size ≤ 1000000 := by omega
  have HZ := Lib.hid hsz
  clear hd hsz hss
  go_enter Try.func57, Try.ntmps57
  go_wp2_with fail
  go_loop [3, 8] (fun v i => ∃ k : Nat, k ≤ s.size ∧ i = .int .i64 k ∧ v = .int .u64 (stateI (s.data.toList.take k))) (fun _ i => s.size - (intOf i).toNat)
  case atStart => exact ⟨0, Nat.zero_le _, rfl, rfl⟩
  case round =>
    obtain ⟨k, hk, rfl, rfl⟩ := hrel
    by_cases hlt : k < s.size
    · have HS : Hid (stateI (s.data.toList.take (k + 1)) = feedI (stateI (s.data.toList.take k)) (s[k].toNat : Int)) := by
        unfold Hid
        rw [List.take_succ_eq_append_getElem (by simpa using hlt), state_snoc]
        rfl
      have hb : s[k].toNat ≤ 255 := by have := s[k].toNat_lt; omega
      go_wp2_with (go_at_call 61; refine (feed_any _ _ _ (by omega) (by omega)).mono ?_; rintro e w' ⟨rfl, rfl⟩)
      go_round
      case rel => exact ⟨k + 1, by omega, by go_num, by rw [HS.out]⟩
      case measure => simp [intOf]; omega
    · obtain rfl : k = s.size := by omega
      have HE : Hid (stateI (s.data.toList.take s.size) = stateI bs) := by
        unfold Hid; rw [HD.out, HZ.out, List.take_length]
      rw [HE.out]
      have HX : Hid ((s.size : Int) = (bs.length : Int)) := by unfold Hid; rw [HZ.out]
      go_wp2_with (first | (go_at_call 62; refine (first_any _ _).mono ?_; rintro e w' ⟨rfl, rfl⟩) | (go_at_call 63; refine (second_any _ _).mono ?_; rintro e w' ⟨rfl, rfl⟩))
      go_ret
      have E : sumI bs = finI (secondI (firstI (bits .xor .u64 (stateI bs) (s.size : Int)))) := by unfold sumI; rw [← HX.out]
      rw [E]
      exact ⟨rfl, rfl⟩

/-! ### encode -/
def uv (z : Int) : Value := .int .u64 z
def encByte (z : Int) (sh : Nat) : UInt8 := UInt8.ofNat (z / 2 ^ sh % 256).toNat
theorem encByte_toNat (z : Int) (sh : Nat) : ((encByte z sh).toNat : Int) = z / 2 ^ sh % 256 := by
  unfold encByte
  rw [UInt8.toNat_ofNat']
  have h1 := Int.emod_nonneg (z / 2 ^ sh) (b := 256) (by decide)
  have h2 := Int.emod_lt_of_pos (z / 2 ^ sh) (b := 256) (by decide)
  omega
/-- The first j of the bytes of a number. -/
def encTo (width : Nat) (z : Int) (j : Nat) : List UInt8 := (List.range j).map fun i => encByte z (8 * (width - 1 - i))
def encB (width : Nat) (zs : List Int) : List UInt8 := zs.flatMap fun z => encTo width z width
theorem encTo_succ (width : Nat) (z : Int) (j : Nat) : encTo width z (j + 1) = encTo width z j ++ [encByte z (8 * (width - 1 - j))] := by
  unfold encTo; rw [List.range_succ, List.map_append]; rfl
theorem encTo_len (width : Nat) (z : Int) (j : Nat) : (encTo width z j).length = j := by unfold encTo; simp
theorem encB_snoc (width : Nat) (zs : List Int) (z : Int) : encB width (zs ++ [z]) = encB width zs ++ encTo width z width := by unfold encB; rw [List.flatMap_append]; simp
theorem encB_len (width : Nat) (zs : List Int) : (encB width zs).length = zs.length * width := by
  unfold encB
  induction zs with
  | nil => simp
  | cons z zs ih => simp only [List.flatMap_cons, List.length_append, encTo_len, ih, List.length_cons]; rw [Nat.add_mul]; omega

set_option maxRecDepth 100000 in
set_option maxHeartbeats 4000000 in
theorem encode_any (width : Nat) (A : Option Addr) (n c : Nat) (zs : List Int) (w : World) (hw0 : 1 ≤ width) (hw : width ≤ 8) (hn : zs.length = n) (hn2 : n ≤ 2) (h : Sl w 1 A n c (zs.map uv)) :
    Calls Try.prog 56 #[.int .i64 width, .slice A n c] w (RetOwn 5 (n * width) ((encB width zs).map bv) w) := by
  obtain ⟨i0, hi, hz0, hz1, hz2⟩ := info_parts info5
  have HS := Lib.hid h
  have HN := Lib.hid hn
  clear h hn
  go_enter Try.func56, Try.ntmps56
  go_wp2_with fail
  go_loopw [5, 11] (fun v i wr => ∃ (k : Nat) (Af : Option Addr) (cf : Nat), k ≤ n ∧ v = .slice Af (k * width) cf ∧ i = .int .i64 k ∧ wr.ownsRow w.heap.size 5 1 (.slice Af (k * width) cf) (k * width) ((encB width (zs.take k)).map bv) ∧ Grew w wr) (fun _ i _ => n - (intOf i).toNat)
  case atStart => exact ⟨0, none, 0, Nat.zero_le _, by rw [Nat.zero_mul], rfl, by rw [Nat.zero_mul]; exact World.ownsRow_nil _ _ _ _, Grew.refl _⟩
  case round =>
    obtain ⟨k, Af, cf, hk, rfl, rfl, hown, hg⟩ := hrel
    obtain ⟨wo, rfl⟩ : ∃ wo : World, wo = wr := ⟨_, rfl⟩
    by_cases hlt : k < n
    · obtain ⟨z, hz⟩ : ∃ z, zs[k]? = some z := ⟨_, List.getElem?_eq_getElem (by rw [HN.out]; exact hlt)⟩
      obtain ⟨b, o, rfl, hc⟩ := (HS.out.grew hg).2.2.2.1 (by intro e; have h1 := congrArg List.length e; rw [List.length_map, HN.out] at h1; simp at h1; omega)
      have c1 : wo.cell? ⟨b, o + k, none⟩ = some (.int .u64 z) := hc k _ (by rw [List.getElem?_map, hz]; rfl)
      have HT : Hid (encB width (zs.take (k + 1)) = encB width (zs.take k) ++ encTo width z width) := by
        unfold Hid; rw [List.take_add_one, hz]; exact encB_snoc _ _ _
      have hkw : k * width ≤ 16 := by have : k * width ≤ 2 * 8 := Nat.mul_le_mul (by omega) hw; omega
      generalize hkk : k * width = kw at *
      have HKK := Lib.hid hkk
      clear hz hc hkk
      go_wp2_with fail
      go_loopw [5, 8] (fun v i wr => ∃ (j : Nat) (Af : Option Addr) (cf : Nat), j ≤ width ∧ v = .slice Af (kw + j) cf ∧ i = .int .i64 (8 * ((width : Int) - 1 - j)) ∧ wr.ownsRow w.heap.size 5 1 (.slice Af (kw + j) cf) (kw + j) ((encB width (zs.take k) ++ encTo width z j).map bv) ∧ Grew w wr) (fun _ i _ => (intOf i + 8).toNat)
      case atStart => exact ⟨0, Af, cf, Nat.zero_le _, rfl, by simp, by rw [show encTo width z 0 = [] from rfl, List.append_nil]; exact hown, hg⟩
      case round =>
        obtain ⟨j, Ag, cg, hj, rfl, rfl, hown1, hg1⟩ := hrel
        by_cases hjt : j < width
        · have f0 : 0 ≤ 8 * ((width : Int) - 1 - j) := by omega
          have f1 : 8 * ((width : Int) - 1 - j) ≤ 63 := by omega
          have f2 : (8 * ((width : Int) - 1 - j)).toNat = 8 * (width - 1 - j) := by omega
          obtain ⟨bz, hbz⟩ : ∃ bz, bz = z / 2 ^ (8 * (width - 1 - j)) % 256 := ⟨_, rfl⟩
          have HB : Hid ((encTo width z (j + 1)).map bv = (encTo width z j).map bv ++ [.int .u8 bz]) := by
            unfold Hid; rw [encTo_succ, List.map_append, hbz, ← encByte_toNat]; rfl
          have HO := Lib.hid hown1
          have BI : Hid (Sl (wr.alloc (.cells #[.int .u8 (z / 2 ^ (8 * (width - 1 - j)) % 256)] 5)) 1 (some ⟨wr.heap.size, 0, none⟩) 1 1 [.int .u8 bz]) := by
            have := (built (w := wr) (t := 5) [encByte z (8 * (width - 1 - j))] #[.int .u8 (z / 2 ^ (8 * (width - 1 - j)) % 256)] (by rw [← encByte_toNat]; rfl) 1 rfl (by decide)).2
            rw [hbz, ← encByte_toNat]
            rw [← encByte_toNat] at this
            exact this
          have HBZ := Lib.hid hbz
          clear hown1 hbz hown
          go_wp2_with (at_builtin; refine wpList_append_sl _ rfl (.tmp 22) (.tmp 27) 22 rfl w.heap.size 5 i0 (.int .u8 0) 1 1 Try.underlying22 hi hz0 hz1 hz2 rfl (by decide) (.slice Ag (kw + j) cg) (kw + j) ((encB width (zs.take k) ++ encTo width z j).map bv) rfl (HO.out.alloc _) (some ⟨wr.heap.size, 0, none⟩) 1 1 [.int .u8 bz] rfl BI.out (by simp [Value.oneCell']) (by unfold maxLen; omega) (by omega) (by have := hg1.le; simp; omega) ?_; intro v1 x1 own1 hgr1 hat1; obtain ⟨Ah, ch, rfl⟩ := own_form own1)
          have hgx : Grew w x1 := (hg1.alloc _).grown hgr1 (fun j hj => (HO.out.lt j hj).1)
          have own2 : x1.ownsRow w.heap.size 5 1 (.slice Ah (kw + (j + 1)) ch) (kw + (j + 1)) ((encB width (zs.take k) ++ encTo width z (j + 1)).map bv) := by
            rw [List.map_append, HB.out, ← List.append_assoc, ← List.map_append]; exact own1
          clear own1 hgr1 hat1 HO BI
          go_roundw
          case rel => exact ⟨j + 1, Ah, ch, by omega, rfl, by congr 1; omega, own2, hgx⟩
          case measure => simp [intOf]; omega
        · obtain rfl : j = width := by omega
          have f0 : 8 * ((j : Int) - 1 - j) < 0 := by omega
          have hnx : kw + j = (k + 1) * j := by rw [← HKK.out, Nat.add_mul, Nat.one_mul]
          have HO : Hid (wr.ownsRow w.heap.size 5 1 (.slice Ag ((k + 1) * j) cg) ((k + 1) * j) ((encB j (zs.take (k + 1))).map bv)) := by
            unfold Hid; rw [HT.out, ← hnx]; exact hown1
          have HNX := Lib.hid hnx
          clear hown1 hnx hown
          go_wp2_with fail
          go_roundw
          case rel => exact ⟨k + 1, Ag, cg, by omega, by rw [HNX.out], by go_num, HO.out, hg1⟩
          case measure => simp [intOf]; omega
    · obtain rfl : k = n := by omega
      have hfin : wo.ownsRow w.heap.size 5 1 (.slice Af (k * width) cf) (k * width) ((encB width zs).map bv) := by
        have e : zs.take k = zs := by rw [← HN.out, List.take_length]
        rw [e] at hown; exact hown
      have HO := Lib.hid hfin
      clear hown hfin
      go_wp2_with fail
      go_ret
      exact ⟨Af, cf, rfl, HO.out, hg⟩
end Go.Proofs.Ytneipacdpojjkaa
