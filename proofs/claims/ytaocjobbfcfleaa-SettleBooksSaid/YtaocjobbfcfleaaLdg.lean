/-
  The ledger's functions on entries that are well-formed: isName, isDay, wellFormed, Valid.
-/
import Derived.Test.YtaocjobbfcfleaaLApp
import Derived.Test.YtaocjobbfcfleaaBookP
import Derived.Test.YtaocjobbfcfleaaSameD
namespace WageSet
open WageOrd WageMap
theorem ent_parts {e : Ent} (h : entB e = true) : (0 ≤ e.id ∧ e.id ≤ 1000000000000) ∧ nameB e.de = true ∧ nameB e.cr = true ∧ e.de ≠ e.cr ∧ (1 ≤ e.c ∧ e.c ≤ 1000000000000) ∧ (decide (0 ≤ e.d) && decide (e.d ≤ 36524)) = true ∧ (decide (0 ≤ e.b) && decide (e.b ≤ 36524)) = true := by
  unfold entB bigB centB dayB at h
  rw [Bool.and_eq_true, Bool.and_eq_true, Bool.and_eq_true, Bool.and_eq_true, Bool.and_eq_true, Bool.and_eq_true] at h
  obtain ⟨⟨⟨⟨⟨⟨h1, h2⟩, h3⟩, h4⟩, h5⟩, h6⟩, h7⟩ := h
  simp only [Bool.and_eq_true, decide_eq_true_eq, Bool.not_eq_true', decide_eq_false_iff_not] at h1 h4 h5
  exact ⟨h1, h2, h3, h4, h5, h6, h7⟩
/-- The numbers that were seen. -/
def seenM (l : List Ent) : Nat → List (Int × Bool)
  | 0 => []
  | i + 1 => match l[i]? with
    | some e => alPut e.id true (seenM l i)
    | none => seenM l i
theorem seenM_succ {l : List Ent} {i : Nat} {e : Ent} (h : l[i]? = some e) : seenM l (i + 1) = alPut e.id true (seenM l i) := by
  conv => lhs; unfold seenM
  rw [h]
theorem seen_keys {l : List Ent} (id : Int) : ∀ i, id ∉ (l.take i).map (·.id) → alFind id (seenM l i) = none
  | 0, _ => rfl
  | i + 1, h => by
    cases hx : l[i]? with
    | none =>
      unfold seenM; rw [hx]
      rw [List.take_add_one, hx] at h
      exact seen_keys id i (by simpa using h)
    | some e =>
      rw [List.take_add_one, hx] at h
      simp only [Option.toList_some, List.map_append, List.map_cons, List.map_nil, List.mem_append, List.mem_singleton, not_or] at h
      rw [seenM_succ hx, alFind_put_ne _ h.2]
      exact seen_keys id i h.1
theorem seen_none {l : List Ent} {k : Nat} {x : Ent} (h : (l.map (·.id)).Nodup) (hx : l[k]? = some x) : alFind x.id (seenM l k) = none := by
  refine seen_keys x.id k fun hm => ?_
  obtain ⟨y, hy, he⟩ := List.mem_map.1 hm
  obtain ⟨i, hi⟩ := List.mem_iff_getElem?.1 hy
  rw [List.getElem?_take] at hi
  split at hi
  · rename_i hik
    have h1 : (l.map (·.id)).Pairwise (· ≠ ·) := h
    rw [List.pairwise_map, List.pairwise_iff_getElem] at h1
    have h2 := h1 i k (List.getElem?_eq_some_iff.1 hi).1 (List.getElem?_eq_some_iff.1 hx).1 hik
    rw [(List.getElem?_eq_some_iff.1 hi).2, (List.getElem?_eq_some_iff.1 hx).2] at h2
    exact h2 he
  · cases hi
end WageSet
namespace Go.Proofs.Ytaocjobbfcfleaa
open Go.RowKit Go.Proofs WageMem WageOrd WageRec WageMap WageReg WageSet
theorem map90 : Try.prog.underlying 90 = some (.map 3 4) := by kernel_rfl
theorem zero4 (w : World) : (zeroValue 4).run Try.prog w = .ok (.bool false) w := by kernel_rfl
abbrev MapZ (w : World) (b : Nat) (m : List (Int × Bool)) : Prop := MapIs (fun z : Int => Value.int .i64 z) (fun z : Bool => Value.bool z) w b m
set_option maxRecDepth 100000 in
set_option maxHeartbeats 4000000 in
theorem lname_any (s : ByteArray) (w : World) (hs : s.size ≤ maxLen) : Calls Try.prog 64 #[.string s] w fun e w' => e = .returned (.bool (nameB s)) ∧ w = w' := by
  unfold maxLen at hs
  by_cases h0 : s.size = 0
  · rw [name_empty h0]
    have e1 : s.toList.isEmpty = true := by rw [ByteArray.toList_eq, List.isEmpty_iff]; exact List.eq_nil_of_length_eq_zero (by simpa using h0)
    have e2 : decide ((s.size : Int) < 1) = true := decide_eq_true (by omega)
    clear h0
    go_enter Try.func64, Try.ntmps64
    go_wp2
    go_ret
    exact ⟨rfl, rfl⟩
  · have e1 : s.toList.isEmpty = false := by rw [ByteArray.toList_eq, Bool.eq_false_iff]; intro h; rw [List.isEmpty_iff] at h; apply h0; have := congrArg List.length h; simpa using this
    have e2 : decide ((s.size : Int) < 1) = false := decide_eq_false (by omega)
    by_cases h1 : 16 < s.size
    · rw [name_long h1]
      have q1 : decide (16 < (s.size : Int)) = true := decide_eq_true (by omega)
      go_enter Try.func64, Try.ntmps64
      go_wp2
      go_ret
      exact ⟨rfl, rfl⟩
    · have h2 : 0 < s.size := by omega
      have q1 : decide (16 < (s.size : Int)) = false := decide_eq_false (by omega)
      by_cases h3 : (s[0].toNat : Int) < 97
      · rw [name_first h2 (by unfold loB; rw [decide_eq_false (by omega)]; rfl)]
        have q2 : decide ((s[0].toNat : Int) < 97) = true := decide_eq_true h3
        go_enter Try.func64, Try.ntmps64
        go_wp2
        go_ret
        exact ⟨rfl, rfl⟩
      · have q2 : decide ((s[0].toNat : Int) < 97) = false := decide_eq_false h3
        by_cases h4 : 122 < (s[0].toNat : Int)
        · rw [name_first h2 (by unfold loB; rw [Bool.and_eq_false_iff]; right; exact decide_eq_false (by omega))]
          have q3 : decide (122 < (s[0].toNat : Int)) = true := decide_eq_true h4
          go_enter Try.func64, Try.ntmps64
          go_wp2
          go_ret
          exact ⟨rfl, rfl⟩
        · have q3 : decide (122 < (s[0].toNat : Int)) = false := decide_eq_false h4
          have HLO : Hid (loB s[0] = true) := by unfold Hid loB; rw [decide_eq_true (by omega), decide_eq_true (by omega)]; rfl
          go_enter Try.func64, Try.ntmps64
          go_wp2
          clear q2 q3 h3 h4
          go_loop [24] (fun i => ∃ k : Nat, k ≤ s.size ∧ i = .int .i64 k ∧ Hid (∀ i (hi : i < s.size), i < k → chB s[i] = true)) (fun i => s.size - (intOf i).toNat)
          case atStart => exact ⟨0, Nat.zero_le _, rfl, fun i _ h => absurd h (by omega)⟩
          case round =>
            obtain ⟨k, hk, rfl, HA⟩ := hrel
            by_cases hlt : k < s.size
            · have ok : chB s[k] = true → Hid (∀ i (hi : i < s.size), i < k + 1 → chB s[i] = true) := fun h i hi hik => by
                by_cases e : i = k
                · subst e; exact h
                · exact HA.out i hi (by omega)
              have bd : chB s[k] = false → Hid (nameB s = false) := fun h => name_bad hlt h
              by_cases t1 : (s[k].toNat : Int) < 97
              · have u1 : decide ((s[k].toNat : Int) < 97) = true := decide_eq_true t1
                by_cases t2 : (s[k].toNat : Int) < 48
                · have u2 : decide ((s[k].toNat : Int) < 48) = true := decide_eq_true t2
                  have u3 : ((s[k].toNat : Int) != 95) = true := by rw [bne_iff_ne]; omega
                  have HB := bd (by unfold chB; rw [decide_eq_false (show ¬ 97 ≤ s[k].toNat by omega), decide_eq_false (show ¬ 48 ≤ s[k].toNat by omega), decide_eq_false (show ¬ s[k].toNat = 95 by omega)]; rfl)
                  clear ok bd
                  go_wp2
                  go_ret
                  exact ⟨ret_bool HB.out.symm, rfl⟩
                · have u2 : decide ((s[k].toNat : Int) < 48) = false := decide_eq_false t2
                  by_cases t3 : 57 < (s[k].toNat : Int)
                  · have u3 : decide (57 < (s[k].toNat : Int)) = true := decide_eq_true t3
                    by_cases t4 : (s[k].toNat : Int) = 95
                    · have u4 : ((s[k].toNat : Int) != 95) = false := by rw [bne_eq_false_iff_eq]; exact t4
                      have HOK := ok (by unfold chB; rw [decide_eq_true (show s[k].toNat = 95 by omega)]; simp)
                      clear ok bd t4
                      go_wp2
                      go_round
                      case rel => exact ⟨k + 1, by omega, by go_num, HOK⟩
                      case measure => simp [intOf]; omega
                    · have u4 : ((s[k].toNat : Int) != 95) = true := by rw [bne_iff_ne]; exact t4
                      have HB := bd (by unfold chB; rw [decide_eq_false (show ¬ 97 ≤ s[k].toNat by omega), decide_eq_false (show ¬ s[k].toNat ≤ 57 by omega), decide_eq_false (show ¬ s[k].toNat = 95 by omega)]; simp)
                      clear ok bd
                      go_wp2
                      go_ret
                      exact ⟨ret_bool HB.out.symm, rfl⟩
                  · have u3 : decide (57 < (s[k].toNat : Int)) = false := decide_eq_false t3
                    have HOK := ok (by unfold chB; rw [decide_eq_true (show 48 ≤ s[k].toNat by omega), decide_eq_true (show s[k].toNat ≤ 57 by omega)]; simp)
                    clear ok bd
                    go_wp2
                    go_round
                    case rel => exact ⟨k + 1, by omega, by go_num, HOK⟩
                    case measure => simp [intOf]; omega
              · have u1 : decide ((s[k].toNat : Int) < 97) = false := decide_eq_false t1
                by_cases t2 : 122 < (s[k].toNat : Int)
                · have u2 : decide (122 < (s[k].toNat : Int)) = true := decide_eq_true t2
                  have u3 : ((s[k].toNat : Int) != 95) = true := by rw [bne_iff_ne]; omega
                  have u4 : decide ((s[k].toNat : Int) < 48) = false := decide_eq_false (by omega)
                  have u5 : decide (57 < (s[k].toNat : Int)) = true := decide_eq_true (by omega)
                  have HB := bd (by unfold chB; rw [decide_eq_false (show ¬ s[k].toNat ≤ 122 by omega), decide_eq_false (show ¬ s[k].toNat ≤ 57 by omega), decide_eq_false (show ¬ s[k].toNat = 95 by omega)]; simp)
                  clear ok bd
                  go_wp2
                  go_ret
                  exact ⟨ret_bool HB.out.symm, rfl⟩
                · have u2 : decide (122 < (s[k].toNat : Int)) = false := decide_eq_false t2
                  have HOK := ok (by unfold chB; rw [decide_eq_true (show 97 ≤ s[k].toNat by omega), decide_eq_true (show s[k].toNat ≤ 122 by omega)]; simp)
                  clear ok bd
                  go_wp2
                  go_round
                  case rel => exact ⟨k + 1, by omega, by go_num, HOK⟩
                  case measure => simp [intOf]; omega
            · have HB : Hid (nameB s = true) := name_all h2 (by omega) HLO.out (fun i hi => HA.out i hi (by omega))
              go_wp2
              go_ret
              exact ⟨ret_bool HB.out.symm, rfl⟩
theorem lName_is {s : ByteArray} {t : Bool} (h : nameB s = t) (hs : s.size ≤ maxLen) (w : World) : Calls Try.prog 64 #[.string s] w fun e w' => e = .returned (.bool t) ∧ w = w' := by
  subst h; exact lname_any s w hs
theorem lname_val {s : ByteArray} {t : Bool} (h : nameB s = t) (hs : s.size ≤ maxLen) (w : World) : Calls Try.prog 64 #[.string s] w fun e w' => e = .returned (.bool t) ∧ Grew w w' := by
  subst h; exact (lname_any s w hs).mono fun _ _ ⟨h1, h2⟩ => ⟨h1, h2 ▸ Grew.refl _⟩

theorem lname_is {s : ByteArray} {t : Bool} (h : nameB s = t) (hs : s.size ≤ maxLen) (w : World) : Calls Try.prog 64 #[.string s] w fun e w' => e = .returned (.bool t) ∧ w = w' := by
  subst h; exact lname_any s w hs
set_option maxRecDepth 100000 in
set_option maxHeartbeats 1000000 in
theorem lday_is {n : Int} {t : Bool} (h : (decide (0 ≤ n) && decide (n ≤ 36524)) = t) (w : World) : Calls Try.prog 65 #[.int .i64 n] w fun e w' => e = .returned (.bool t) ∧ w = w' := by
  subst h
  by_cases h1 : 0 ≤ n
  · have q1 : decide (0 ≤ n) = true := decide_eq_true h1
    rcases bool_or (decide (n ≤ 36524)) with q2 | q2
    · have HV : Hid ((decide (0 ≤ n) && decide (n ≤ 36524)) = true) := by unfold Hid; rw [q1, q2]; rfl
      clear h1
      go_enter Try.func65, Try.ntmps65
      go_wp2
      go_ret
      exact ⟨ret_bool HV.out.symm, rfl⟩
    · have HV : Hid ((decide (0 ≤ n) && decide (n ≤ 36524)) = false) := by unfold Hid; rw [q1, q2]; rfl
      clear h1
      go_enter Try.func65, Try.ntmps65
      go_wp2
      go_ret
      exact ⟨ret_bool HV.out.symm, rfl⟩
  · have q1 : decide (0 ≤ n) = false := decide_eq_false h1
    have HV : Hid ((decide (0 ≤ n) && decide (n ≤ 36524)) = false) := by unfold Hid; rw [q1]; rfl
    clear h1
    go_enter Try.func65, Try.ntmps65
    go_wp2
    go_ret
    exact ⟨ret_bool HV.out.symm, rfl⟩
set_option maxRecDepth 100000 in
set_option maxHeartbeats 16000000 in
theorem wf_true {e : Ent} (h : entB e = true) (hw : e.de.size ≤ maxLen ∧ e.cr.size ≤ maxLen) (w : World) : Calls Try.prog 49 #[nv e] w fun r w' => r = .returned (.bool true) ∧ Grew w w' := by
  obtain ⟨h1, h2, h3, h4, h5, h6, h7⟩ := ent_parts h
  have H2 := Lib.hid h2
  have H3 := Lib.hid h3
  have H6 := Lib.hid h6
  have H7 := Lib.hid h7
  have q1 : decide (e.id < 0) = false := decide_eq_false (by omega)
  have q2 : decide (e.id > 1000000000000) = false := decide_eq_false (by omega)
  have q2' : decide ((1000000000000 : Int) < e.id) = false := decide_eq_false (by omega)
  have q4 : (e.de.toList == e.cr.toList) = false := by rw [str_eq]; exact decide_eq_false h4
  have q5 : decide (e.c ≥ 1) = true := decide_eq_true h5.1
  have q5' : decide (1 ≤ e.c) = true := decide_eq_true h5.1
  have q6 : decide (e.c ≤ 1000000000000) = true := decide_eq_true h5.2
  clear h h1 h2 h3 h4 h5 h6 h7
  show Calls Try.prog 49 #[.agg #[.int .i64 e.id, .string e.de, .string e.cr, .int .i64 e.c, .int .i64 e.d, .int .i64 e.b]] w _
  go_enter Try.func49, Try.ntmps49
  go_wp2_with (first | (go_at_call 64; ((with_reducible refine (lname_is H2.out hw.1 _).mono ?_); rintro r w' ⟨rfl, rfl⟩)) | (go_at_call 64; ((with_reducible refine (lname_is H3.out hw.2 _).mono ?_); rintro r w' ⟨rfl, rfl⟩)) | (go_at_call 65; ((with_reducible refine (lday_is H6.out _).mono ?_); rintro r w' ⟨rfl, rfl⟩)) | (go_at_call 65; ((with_reducible refine (lday_is H7.out _).mono ?_); rintro r w' ⟨rfl, rfl⟩)))
  go_ret
  exact ⟨rfl, (Grew.refl w).alloc _⟩
set_option maxRecDepth 100000 in
set_option maxHeartbeats 16000000 in
theorem lvalid_true (A : Option Addr) (n c : Nat) (l : List Ent) (w : World) (h : Ents w A n c l) (he : ∀ e ∈ l, entB e = true) (hs : SortedE l) (hd : (l.map (·.id)).Nodup) (hn : n ≤ 2000) :
    Calls Try.prog 25 #[.agg #[.slice A n c]] w fun r w' => r = .returned (.bool true) ∧ Grew w w' := by
  have HA := Lib.hid h.1
  have LA := Lib.hid h.1.1
  have HWF := Lib.hid h.2
  have HE := Lib.hid he
  have HSO := Lib.hid hs
  have HND := Lib.hid hd
  have un := h.1.le
  clear h he hs hd
  obtain ⟨b1, hb0⟩ : ∃ b, b = w.heap.size := ⟨_, rfl⟩
  obtain ⟨w1, hw1⟩ : ∃ x, x = w.alloc (.cells #[.slice A n c] 56) := ⟨_, rfl⟩
  have gg : Grew w w1 := by rw [hw1]; exact (Grew.refl w).alloc _
  have HBX : Hid (w1.rangeAt b1 0 [.slice A n c]) := by unfold Hid; rw [hw1, hb0]; exact range_new w _ 56
  have q0 : decide ((n : Int) > 2000) = false := decide_eq_false (by omega)
  have q0' : decide ((2000 : Int) < (n : Int)) = false := decide_eq_false (by omega)
  obtain ⟨w2, hw2⟩ : ∃ x, x = w1.alloc (.map #[] 0) := ⟨_, rfl⟩
  have g12 : Grew w1 w2 := by rw [hw2]; exact (Grew.refl _).alloc _
  obtain ⟨bm, hbm⟩ : ∃ z, z = w1.heap.size := ⟨_, rfl⟩
  have M1 := MapIs.made (ek := fun z : Int => Value.int .i64 z) (ev := fun z : Bool => Value.bool z) w1
  rw [← hw2, ← hbm] at M1
  have HM1 : Hid (MapZ w2 bm (seenM l 0)) := M1
  have hbmw : w.heap.size ≤ bm := by rw [hbm]; exact gg.le
  have HBX2 := Lib.hid (range_grew HBX.out g12)
  have HA2 := Lib.hid (HA.out.grew (gg.trans g12))
  have gg2 := gg.trans g12
  have hbb : b1 ≠ bm := by
    intro e
    have h1 := HBX.out 0 _ rfl
    obtain ⟨o1, h2, _⟩ := cells_of_cell h1
    have := (Array.getElem?_eq_some_iff.1 h2).1
    simp only at this
    omega
  have c0 := c_cell HBX.out
  have hmm := @run_makeMap Try.prog
  clear M1 g12 gg
  go_enter Try.func25, Try.ntmps25
  go_upto_region 1 with (fail)
  rw [← hw1, ← hb0]
  clear hw1 hb0 HBX HA
  go_upto_region 4 with (fail)
  rw [← hw2, ← hbm]
  clear hw2 hbm hmm c0 q0 q0'
  have c0 := c_cell HBX2.out
  go_wp2_with fail
  clear c0
  go_loopw [14] (fun i y => ∃ k : Nat, k ≤ n ∧ i = .int .i64 k ∧ Hid (MapZ y bm (seenM l k)) ∧ Hid (y.rangeAt b1 0 [.slice A n c]) ∧ Hid (Recs ne 6 y A n c l) ∧ Grew w y) (fun i _ => n - (intOf i).toNat)
  case atStart => exact ⟨0, Nat.zero_le _, rfl, HM1, HBX2, HA2, gg2⟩
  case round =>
    clear HM1 HBX2 HA2 gg2
    obtain ⟨k, hk, rfl, HM, HBX, HA, gg⟩ := hrel
    by_cases hlt : k < n
    · obtain ⟨b, o, x, hAx, hx, hr⟩ := HA.out.at_ ne_ok hlt
      have HX := Lib.hid hx
      have hxm := List.mem_of_getElem? hx
      have HXE := Lib.hid (HE.out x hxm)
      have hxw := HWF.out x hxm
      have k0 : (0 : Int) ≤ (k : Int) := by omega
      have k1 : (k : Int) < (n : Int) := by omega
      have HFI : Hid (alFind x.id (seenM l k) = none) := seen_none HND.out HX.out
      obtain ⟨c0, c1, c2, c3, c4, c5⟩ := n_cells hr
      obtain ⟨wa, hwa⟩ : ∃ y, y = wr.alloc (.cells #[.int .i64 x.id, .string x.de, .string x.cr, .int .i64 x.c, .int .i64 x.d, .int .i64 x.b] 50) := ⟨_, rfl⟩
      have g : Grew wr wa := by rw [hwa]; exact (Grew.refl wr).alloc _
      obtain ⟨bx, hbx⟩ : ∃ b, b = wr.heap.size := ⟨_, rfl⟩
      have HRX : Hid (wa.rangeAt bx 0 (ne x)) := by unfold Hid; rw [hwa, hbx]; exact range_new wr (ne x) 50
      have HMA := Lib.hid (HM.out.grew g)
      have HBXa := Lib.hid (range_grew HBX.out g)
      have HAa := Lib.hid (HA.out.grew g)
      replace gg := gg.trans g
      subst hAx
      clear hr hx HM HBX HA g hxm
      go_upto_region 7 with (fail)
      rw [← hwa, ← hbx]
      clear hwa hbx c0 c1 c2 c3 c4 c5
      have HRXd := Lib.hid (range_grew HRX.out (Grew.refl wa).drew)
      have HBXd := Lib.hid (range_grew HBXa.out (Grew.refl wa).drew)
      have HMd := Lib.hid (HMA.out.grew (Grew.refl wa).drew)
      have hlk : ∀ w', Grew wa.drew w' → (Instr.lookup 90 (.map (some bm)) (.int .i64 x.id) false).run Try.prog w' = .ok (.bool false) w' := fun w' g' => by
        have h1 := (HMd.out.grew g').lookup key3 map90 (zero4 _) x.id false
        rw [HFI.out] at h1
        simpa using h1
      by_cases hk0 : k = 0
      · have q0 : decide ((k : Int) > 0) = false := decide_eq_false (by omega)
        have q0' : decide ((0 : Int) < (k : Int)) = false := decide_eq_false (by omega)
        have q0n : decide (0 < k) = false := decide_eq_false (by omega)
        clear hk0
        have hC : ∀ w', Grew wa.drew w' → (w'.cell? ⟨b1, 0, none⟩ = some (.slice (some ⟨b, o, none⟩) n c)) ∧ (w'.cell? ⟨bx, 0, none⟩ = some (.int .i64 x.id) ∧ w'.cell? ⟨bx, 1, none⟩ = some (.string x.de) ∧ w'.cell? ⟨bx, 2, none⟩ = some (.string x.cr) ∧ w'.cell? ⟨bx, 3, none⟩ = some (.int .i64 x.c) ∧ w'.cell? ⟨bx, 4, none⟩ = some (.int .i64 x.d) ∧ w'.cell? ⟨bx, 5, none⟩ = some (.int .i64 x.b)) := fun w' g' => ⟨c_cell (range_grew HBXd.out g'), n_cells0 (range_grew HRXd.out g')⟩
        go_wp2_with fail
        refine wp_region_seq (by kernel_rfl) Grew.refl (fun _ _ _ => Grew.trans) (fun _ _ _ _ _ h => h) (by kernel_rfl) ?_
        repeat (first
          | (refine TakeAll.pure (v := ?_) (by rfl) ?_ ?_; rotate_left; (intro w' g'; obtain ⟨r0, x0, x1, x2, x3, x4, x5⟩ := hC w' g'; have lk := hlk w' g'; go_simp; first | done | with_reducible rfl); (simp only [Act.put, List.setIfInBounds_toArray, List.set_cons_zero, List.set_cons_succ]))
          | (refine TakeAll.skip (by rfl) ?_; (simp only [Act.put, List.setIfInBounds_toArray, List.set_cons_zero, List.set_cons_succ])))
        refine TakeAll.call (by rfl) 49 _ (fun _ => by go_simp; first | done | rfl) (fun w' g' => wf_true HXE.out hxw _) ?_
        simp only [Act.put, List.setIfInBounds_toArray, List.set_cons_zero, List.set_cons_succ]
        repeat (first
          | (refine TakeAll.pure (v := ?_) (by rfl) ?_ ?_; rotate_left; (intro w' g'; obtain ⟨r0, x0, x1, x2, x3, x4, x5⟩ := hC w' g'; have lk := hlk w' g'; go_simp; first | done | with_reducible rfl); (simp only [Act.put, List.setIfInBounds_toArray, List.set_cons_zero, List.set_cons_succ]))
          | (refine TakeAll.skip (by rfl) ?_; (simp only [Act.put, List.setIfInBounds_toArray, List.set_cons_zero, List.set_cons_succ])))
        refine TakeAll.nil ?_
        intro wd gd
        clear hC hlk HRXd HBXd HMd
        have g := (Grew.refl wa).drew.trans gd
        have HMw := Lib.hid (HMA.out.grew g)
        have HRw := Lib.hid (range_grew HRX.out g)
        have HBw := Lib.hid (range_grew HBXa.out g)
        have HAw := Lib.hid (HAa.out.grew g)
        replace gg := gg.trans g
        clear HMA HRX HBXa HAa g gd
        obtain ⟨x0, x1, x2, x3, x4, x5⟩ := n_cells0 HRw.out
        obtain ⟨wb, up, M2, gb⟩ := HMw.out.update key3 map90 x.id true
        rw [← seenM_succ HX.out] at M2
        have HM2 := Lib.hid M2
        have HB2 : Hid (wb.rangeAt b1 0 [.slice (some ⟨b, o, none⟩) n c]) := range_far HBw.out gb (fun e => hbb (by injection e))
        have HA2 : Hid (Recs ne 6 wb (some ⟨b, o, none⟩) n c l) := recs_kept HAw.out gb (fun p v hc => cell_ne_map hc HMw.out)
        have gE := gg.grown gb (fun j hj => by injection hj with hj; omega)
        clear M2 gb HMw HBw HAw
        go_wp2_with fail
        clear up x0 x1 x2 x3 x4 x5
        go_roundw
        case rel => exact ⟨k + 1, by omega, by go_num, HM2, HB2, HA2, gE⟩
        case measure => simp [intOf]; omega
      · have q0 : decide ((k : Int) > 0) = true := decide_eq_true (by omega)
        have q0' : decide ((0 : Int) < (k : Int)) = true := decide_eq_true (by omega)
        have q0n : decide (0 < k) = true := decide_eq_true (by omega)
        obtain ⟨j, hj⟩ : ∃ j, k = j + 1 := ⟨k - 1, by omega⟩
        obtain ⟨bb, oo, z, hAz, hz, hrz⟩ := (HAa.out.grew (Grew.refl wa).drew).at_ ne_ok (show j < n by omega)
        injection hAz with hAz
        injection hAz with hz1 hz2
        subst hz1 hz2
        have hm1 : IntKind.i64.wrap ((k : Int) - 1) = (j : Int) := by rw [IntWalk.i64_in _ (by omega)]; omega
        have j0 : (0 : Int) ≤ (j : Int) := by omega
        have j1 : (j : Int) < (n : Int) := by omega
        have hzx : z.b ≤ x.b := by
          have h1 := List.pairwise_iff_getElem.1 HSO.out j k (List.getElem?_eq_some_iff.1 hz).1 (List.getElem?_eq_some_iff.1 HX.out).1 (by omega)
          rw [(List.getElem?_eq_some_iff.1 hz).2, (List.getElem?_eq_some_iff.1 HX.out).2] at h1
          unfold ltE at h1
          omega
        have q9 : decide (x.b < z.b) = false := decide_eq_false (by omega)
        have HJ := Lib.hid hj
        clear hk0 hz hzx hj
        have hC : ∀ w', Grew wa.drew w' → (w'.cell? ⟨b1, 0, none⟩ = some (.slice (some ⟨b, o, none⟩) n c)) ∧ (w'.cell? ⟨bx, 0, none⟩ = some (.int .i64 x.id) ∧ w'.cell? ⟨bx, 1, none⟩ = some (.string x.de) ∧ w'.cell? ⟨bx, 2, none⟩ = some (.string x.cr) ∧ w'.cell? ⟨bx, 3, none⟩ = some (.int .i64 x.c) ∧ w'.cell? ⟨bx, 4, none⟩ = some (.int .i64 x.d) ∧ w'.cell? ⟨bx, 5, none⟩ = some (.int .i64 x.b)) ∧ (w'.cell? ⟨b, o + j * 6, none⟩ = some (.int .i64 z.id) ∧ w'.cell? ⟨b, o + j * 6 + 1, none⟩ = some (.string z.de) ∧ w'.cell? ⟨b, o + j * 6 + 2, none⟩ = some (.string z.cr) ∧ w'.cell? ⟨b, o + j * 6 + 3, none⟩ = some (.int .i64 z.c) ∧ w'.cell? ⟨b, o + j * 6 + 4, none⟩ = some (.int .i64 z.d) ∧ w'.cell? ⟨b, o + j * 6 + 5, none⟩ = some (.int .i64 z.b)) := fun w' g' => ⟨c_cell (range_grew HBXd.out g'), n_cells0 (range_grew HRXd.out g'), n_cells (range_grew hrz g')⟩
        go_wp2_with fail
        refine wp_region_seq (by kernel_rfl) Grew.refl (fun _ _ _ => Grew.trans) (fun _ _ _ _ _ h => h) (by kernel_rfl) ?_
        repeat (first
          | (refine TakeAll.pure (v := ?_) (by rfl) ?_ ?_; rotate_left; (intro w' g'; obtain ⟨r0, ⟨x0, x1, x2, x3, x4, x5⟩, z0, z1, z2, z3, z4, z5⟩ := hC w' g'; have lk := hlk w' g'; go_simp; first | done | with_reducible rfl); (simp only [Act.put, List.setIfInBounds_toArray, List.set_cons_zero, List.set_cons_succ]))
          | (refine TakeAll.skip (by rfl) ?_; (simp only [Act.put, List.setIfInBounds_toArray, List.set_cons_zero, List.set_cons_succ])))
        refine TakeAll.call (by rfl) 49 _ (fun _ => by go_simp; first | done | rfl) (fun w' g' => wf_true HXE.out hxw _) ?_
        simp only [Act.put, List.setIfInBounds_toArray, List.set_cons_zero, List.set_cons_succ]
        repeat (first
          | (refine TakeAll.pure (v := ?_) (by rfl) ?_ ?_; rotate_left; (intro w' g'; obtain ⟨r0, ⟨x0, x1, x2, x3, x4, x5⟩, z0, z1, z2, z3, z4, z5⟩ := hC w' g'; have lk := hlk w' g'; go_simp; first | done | with_reducible rfl); (simp only [Act.put, List.setIfInBounds_toArray, List.set_cons_zero, List.set_cons_succ]))
          | (refine TakeAll.skip (by rfl) ?_; (simp only [Act.put, List.setIfInBounds_toArray, List.set_cons_zero, List.set_cons_succ])))
        refine TakeAll.nil ?_
        intro wd gd
        clear hC hlk HRXd HBXd HMd
        have g := (Grew.refl wa).drew.trans gd
        have HMw := Lib.hid (HMA.out.grew g)
        have HRw := Lib.hid (range_grew HRX.out g)
        have HBw := Lib.hid (range_grew HBXa.out g)
        have HAw := Lib.hid (HAa.out.grew g)
        replace gg := gg.trans g
        clear HMA HRX HBXa HAa g gd
        obtain ⟨x0, x1, x2, x3, x4, x5⟩ := n_cells0 HRw.out
        obtain ⟨wb, up, M2, gb⟩ := HMw.out.update key3 map90 x.id true
        rw [← seenM_succ HX.out] at M2
        have HM2 := Lib.hid M2
        have HB2 : Hid (wb.rangeAt b1 0 [.slice (some ⟨b, o, none⟩) n c]) := range_far HBw.out gb (fun e => hbb (by injection e))
        have HA2 : Hid (Recs ne 6 wb (some ⟨b, o, none⟩) n c l) := recs_kept HAw.out gb (fun p v hc => cell_ne_map hc HMw.out)
        have gE := gg.grown gb (fun j hj => by injection hj with hj; omega)
        clear M2 gb HMw HBw HAw
        go_wp2_with fail
        clear up x0 x1 x2 x3 x4 x5
        go_roundw
        case rel => exact ⟨k + 1, by omega, by go_num, HM2, HB2, HA2, gE⟩
        case measure => simp [intOf]; omega
    · have gE := gg
      go_wp2_with fail
      go_ret
      exact ⟨rfl, gE⟩
end Go.Proofs.Ytaocjobbfcfleaa
