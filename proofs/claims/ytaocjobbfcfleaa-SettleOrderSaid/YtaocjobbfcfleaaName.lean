/-
  Names: the program's isName and the reference's Name.
-/
import Derived.Test.YtaocjobbfcfleaaNameP
import Derived.Test.YtaocjobbfcfleaaRec
import Derived.Test.YtaocjobbfcfleaaMapL
import Derived.Test.YtaocjobbfcfleaaProg
import Derived.WalkKit
import Derived.LoopTactic
import Derived.Outline
import Derived.IntWalk
namespace Go.Proofs.Ytaocjobbfcfleaa
open Go.RowKit Go.Proofs WageMem WageOrd

theorem ret_bool {a b : Bool} (h : a = b) : Ending.returned (.bool a) = .returned (.bool b) := by rw [h]

set_option maxRecDepth 100000 in
set_option maxHeartbeats 4000000 in
theorem isName_any (s : ByteArray) (w : World) (hs : s.size ≤ maxLen) : Calls Try.prog 53 #[.string s] w fun e w' => e = .returned (.bool (nameB s)) ∧ w = w' := by
  unfold maxLen at hs
  by_cases h0 : s.size = 0
  · rw [name_empty h0]
    have e1 : s.toList.isEmpty = true := by rw [ByteArray.toList_eq, List.isEmpty_iff]; exact List.eq_nil_of_length_eq_zero (by simpa using h0)
    have e2 : decide ((s.size : Int) < 1) = true := decide_eq_true (by omega)
    clear h0
    go_enter Try.func53, Try.ntmps53
    go_wp2
    go_ret
    exact ⟨rfl, rfl⟩
  · have e1 : s.toList.isEmpty = false := by rw [ByteArray.toList_eq, Bool.eq_false_iff]; intro h; rw [List.isEmpty_iff] at h; apply h0; have := congrArg List.length h; simpa using this
    have e2 : decide ((s.size : Int) < 1) = false := decide_eq_false (by omega)
    by_cases h1 : 16 < s.size
    · rw [name_long h1]
      have q1 : decide (16 < (s.size : Int)) = true := decide_eq_true (by omega)
      go_enter Try.func53, Try.ntmps53
      go_wp2
      go_ret
      exact ⟨rfl, rfl⟩
    · have h2 : 0 < s.size := by omega
      have q1 : decide (16 < (s.size : Int)) = false := decide_eq_false (by omega)
      by_cases h3 : (s[0].toNat : Int) < 97
      · rw [name_first h2 (by unfold loB; rw [decide_eq_false (by omega)]; rfl)]
        have q2 : decide ((s[0].toNat : Int) < 97) = true := decide_eq_true h3
        go_enter Try.func53, Try.ntmps53
        go_wp2
        go_ret
        exact ⟨rfl, rfl⟩
      · have q2 : decide ((s[0].toNat : Int) < 97) = false := decide_eq_false h3
        by_cases h4 : 122 < (s[0].toNat : Int)
        · rw [name_first h2 (by unfold loB; rw [Bool.and_eq_false_iff]; right; exact decide_eq_false (by omega))]
          have q3 : decide (122 < (s[0].toNat : Int)) = true := decide_eq_true h4
          go_enter Try.func53, Try.ntmps53
          go_wp2
          go_ret
          exact ⟨rfl, rfl⟩
        · have q3 : decide (122 < (s[0].toNat : Int)) = false := decide_eq_false h4
          have HLO : Hid (loB s[0] = true) := by unfold Hid loB; rw [decide_eq_true (by omega), decide_eq_true (by omega)]; rfl
          go_enter Try.func53, Try.ntmps53
          go_wp2
          clear q2 q3 h3 h4
          go_loop [24] (fun i => ∃ k : Nat, k ≤ s.size ∧ i = .int .i64 k ∧ Hid (∀ i (hi : i < s.size), i < k → chB s[i] = true)) (fun i => s.size - (intOf i).toNat)
          case atStart => exact ⟨0, Nat.zero_le _, rfl, fun i _ h => absurd h (by omega)⟩
          case round =>
            obtain ⟨k, hk, rfl, HA⟩ := hrel
            by_cases hlt : k < s.size
            · have ok : chB s[k] = true → Hid (∀ i (hi : i < s.size), i < k + 1 → chB s[i] = true) := fun h i hi hik => by
                by_cases e : i = k
                · subst e; exact h
                · exact HA.out i hi (by omega)
              have bd : chB s[k] = false → Hid (nameB s = false) := fun h => name_bad hlt h
              by_cases t1 : (s[k].toNat : Int) < 97
              · have u1 : decide ((s[k].toNat : Int) < 97) = true := decide_eq_true t1
                by_cases t2 : (s[k].toNat : Int) < 48
                · have u2 : decide ((s[k].toNat : Int) < 48) = true := decide_eq_true t2
                  have u3 : ((s[k].toNat : Int) != 95) = true := by rw [bne_iff_ne]; omega
                  have HB := bd (by unfold chB; rw [decide_eq_false (show ¬ 97 ≤ s[k].toNat by omega), decide_eq_false (show ¬ 48 ≤ s[k].toNat by omega), decide_eq_false (show ¬ s[k].toNat = 95 by omega)]; rfl)
                  clear ok bd
                  go_wp2
                  go_ret
                  exact ⟨ret_bool HB.out.symm, rfl⟩
                · have u2 : decide ((s[k].toNat : Int) < 48) = false := decide_eq_false t2
                  by_cases t3 : 57 < (s[k].toNat : Int)
                  · have u3 : decide (57 < (s[k].toNat : Int)) = true := decide_eq_true t3
                    by_cases t4 : (s[k].toNat : Int) = 95
                    · have u4 : ((s[k].toNat : Int) != 95) = false := by rw [bne_eq_false_iff_eq]; exact t4
                      have HOK := ok (by unfold chB; rw [decide_eq_true (show s[k].toNat = 95 by omega)]; simp)
                      clear ok bd t4
                      go_wp2
                      go_round
                      case rel => exact ⟨k + 1, by omega, by go_num, HOK⟩
                      case measure => simp [intOf]; omega
                    · have u4 : ((s[k].toNat : Int) != 95) = true := by rw [bne_iff_ne]; exact t4
                      have HB := bd (by unfold chB; rw [decide_eq_false (show ¬ 97 ≤ s[k].toNat by omega), decide_eq_false (show ¬ s[k].toNat ≤ 57 by omega), decide_eq_false (show ¬ s[k].toNat = 95 by omega)]; simp)
                      clear ok bd
                      go_wp2
                      go_ret
                      exact ⟨ret_bool HB.out.symm, rfl⟩
                  · have u3 : decide (57 < (s[k].toNat : Int)) = false := decide_eq_false t3
                    have HOK := ok (by unfold chB; rw [decide_eq_true (show 48 ≤ s[k].toNat by omega), decide_eq_true (show s[k].toNat ≤ 57 by omega)]; simp)
                    clear ok bd
                    go_wp2
                    go_round
                    case rel => exact ⟨k + 1, by omega, by go_num, HOK⟩
                    case measure => simp [intOf]; omega
              · have u1 : decide ((s[k].toNat : Int) < 97) = false := decide_eq_false t1
                by_cases t2 : 122 < (s[k].toNat : Int)
                · have u2 : decide (122 < (s[k].toNat : Int)) = true := decide_eq_true t2
                  have u3 : ((s[k].toNat : Int) != 95) = true := by rw [bne_iff_ne]; omega
                  have u4 : decide ((s[k].toNat : Int) < 48) = false := decide_eq_false (by omega)
                  have u5 : decide (57 < (s[k].toNat : Int)) = true := decide_eq_true (by omega)
                  have HB := bd (by unfold chB; rw [decide_eq_false (show ¬ s[k].toNat ≤ 122 by omega), decide_eq_false (show ¬ s[k].toNat ≤ 57 by omega), decide_eq_false (show ¬ s[k].toNat = 95 by omega)]; simp)
                  clear ok bd
                  go_wp2
                  go_ret
                  exact ⟨ret_bool HB.out.symm, rfl⟩
                · have u2 : decide (122 < (s[k].toNat : Int)) = false := decide_eq_false t2
                  have HOK := ok (by unfold chB; rw [decide_eq_true (show 97 ≤ s[k].toNat by omega), decide_eq_true (show s[k].toNat ≤ 122 by omega)]; simp)
                  clear ok bd
                  go_wp2
                  go_round
                  case rel => exact ⟨k + 1, by omega, by go_num, HOK⟩
                  case measure => simp [intOf]; omega
            · have HB : Hid (nameB s = true) := name_all h2 (by omega) HLO.out (fun i hi => HA.out i hi (by omega))
              go_wp2
              go_ret
              exact ⟨ret_bool HB.out.symm, rfl⟩
theorem isName_is {s : ByteArray} {t : Bool} (h : nameB s = t) (hs : s.size ≤ maxLen) (w : World) : Calls Try.prog 53 #[.string s] w fun e w' => e = .returned (.bool t) ∧ w = w' := by
  subst h; exact isName_any s w hs
theorem isName_val {s : ByteArray} {t : Bool} (h : nameB s = t) (hs : s.size ≤ maxLen) (w : World) : Calls Try.prog 53 #[.string s] w fun e w' => e = .returned (.bool t) ∧ Grew w w' := by
  subst h; exact (isName_any s w hs).mono fun _ _ ⟨h1, h2⟩ => ⟨h1, h2 ▸ Grew.refl _⟩

set_option maxRecDepth 100000 in
set_option maxHeartbeats 4000000 in
theorem rname_any (s : ByteArray) (w : World) (hs : s.size ≤ maxLen) : Calls Try.prog 56 #[.string s] w fun e w' => e = .returned (.bool (nameB s)) ∧ w = w' := by
  unfold maxLen at hs
  by_cases h0 : s.size = 0
  · rw [name_empty h0]
    have e1 : s.toList.isEmpty = true := by rw [ByteArray.toList_eq, List.isEmpty_iff]; exact List.eq_nil_of_length_eq_zero (by simpa using h0)
    have e2 : decide ((s.size : Int) < 1) = true := decide_eq_true (by omega)
    clear h0
    go_enter Try.func56, Try.ntmps56
    go_wp2
    go_ret
    exact ⟨rfl, rfl⟩
  · have e1 : s.toList.isEmpty = false := by rw [ByteArray.toList_eq, Bool.eq_false_iff]; intro h; rw [List.isEmpty_iff] at h; apply h0; have := congrArg List.length h; simpa using this
    have e2 : decide ((s.size : Int) < 1) = false := decide_eq_false (by omega)
    by_cases h1 : 16 < s.size
    · rw [name_long h1]
      have q1 : decide (16 < (s.size : Int)) = true := decide_eq_true (by omega)
      go_enter Try.func56, Try.ntmps56
      go_wp2
      go_ret
      exact ⟨rfl, rfl⟩
    · have h2 : 0 < s.size := by omega
      have q1 : decide (16 < (s.size : Int)) = false := decide_eq_false (by omega)
      by_cases h3 : (s[0].toNat : Int) < 97
      · rw [name_first h2 (by unfold loB; rw [decide_eq_false (by omega)]; rfl)]
        have q2 : decide ((s[0].toNat : Int) < 97) = true := decide_eq_true h3
        go_enter Try.func56, Try.ntmps56
        go_wp2
        go_ret
        exact ⟨rfl, rfl⟩
      · have q2 : decide ((s[0].toNat : Int) < 97) = false := decide_eq_false h3
        by_cases h4 : 122 < (s[0].toNat : Int)
        · rw [name_first h2 (by unfold loB; rw [Bool.and_eq_false_iff]; right; exact decide_eq_false (by omega))]
          have q3 : decide (122 < (s[0].toNat : Int)) = true := decide_eq_true h4
          go_enter Try.func56, Try.ntmps56
          go_wp2
          go_ret
          exact ⟨rfl, rfl⟩
        · have q3 : decide (122 < (s[0].toNat : Int)) = false := decide_eq_false h4
          have HLO : Hid (loB s[0] = true) := by unfold Hid loB; rw [decide_eq_true (by omega), decide_eq_true (by omega)]; rfl
          go_enter Try.func56, Try.ntmps56
          go_wp2
          clear q2 q3 h3 h4
          go_loop [3] (fun i => ∃ k : Nat, k ≤ s.size ∧ i = .int .i64 k ∧ Hid (∀ i (hi : i < s.size), i < k → chB s[i] = true)) (fun i => s.size - (intOf i).toNat)
          case atStart => exact ⟨0, Nat.zero_le _, rfl, fun i _ h => absurd h (by omega)⟩
          case round =>
            obtain ⟨k, hk, rfl, HA⟩ := hrel
            by_cases hlt : k < s.size
            · have ok : chB s[k] = true → Hid (∀ i (hi : i < s.size), i < k + 1 → chB s[i] = true) := fun h i hi hik => by
                by_cases e : i = k
                · subst e; exact h
                · exact HA.out i hi (by omega)
              have bd : chB s[k] = false → Hid (nameB s = false) := fun h => name_bad hlt h
              by_cases t1 : (s[k].toNat : Int) < 97
              · have u1 : decide ((s[k].toNat : Int) < 97) = true := decide_eq_true t1
                by_cases t2 : (s[k].toNat : Int) < 48
                · have u2 : decide ((s[k].toNat : Int) < 48) = true := decide_eq_true t2
                  have u3 : ((s[k].toNat : Int) != 95) = true := by rw [bne_iff_ne]; omega
                  have HB := bd (by unfold chB; rw [decide_eq_false (show ¬ 97 ≤ s[k].toNat by omega), decide_eq_false (show ¬ 48 ≤ s[k].toNat by omega), decide_eq_false (show ¬ s[k].toNat = 95 by omega)]; rfl)
                  clear ok bd
                  go_wp2
                  go_ret
                  exact ⟨ret_bool HB.out.symm, rfl⟩
                · have u2 : decide ((s[k].toNat : Int) < 48) = false := decide_eq_false t2
                  by_cases t3 : 57 < (s[k].toNat : Int)
                  · have u3 : decide (57 < (s[k].toNat : Int)) = true := decide_eq_true t3
                    by_cases t4 : (s[k].toNat : Int) = 95
                    · have u4 : ((s[k].toNat : Int) != 95) = false := by rw [bne_eq_false_iff_eq]; exact t4
                      have HOK := ok (by unfold chB; rw [decide_eq_true (show s[k].toNat = 95 by omega)]; simp)
                      clear ok bd t4
                      go_wp2
                      go_round
                      case rel => exact ⟨k + 1, by omega, by go_num, HOK⟩
                      case measure => simp [intOf]; omega
                    · have u4 : ((s[k].toNat : Int) != 95) = true := by rw [bne_iff_ne]; exact t4
                      have HB := bd (by unfold chB; rw [decide_eq_false (show ¬ 97 ≤ s[k].toNat by omega), decide_eq_false (show ¬ s[k].toNat ≤ 57 by omega), decide_eq_false (show ¬ s[k].toNat = 95 by omega)]; simp)
                      clear ok bd
                      go_wp2
                      go_ret
                      exact ⟨ret_bool HB.out.symm, rfl⟩
                  · have u3 : decide (57 < (s[k].toNat : Int)) = false := decide_eq_false t3
                    have HOK := ok (by unfold chB; rw [decide_eq_true (show 48 ≤ s[k].toNat by omega), decide_eq_true (show s[k].toNat ≤ 57 by omega)]; simp)
                    clear ok bd
                    go_wp2
                    go_round
                    case rel => exact ⟨k + 1, by omega, by go_num, HOK⟩
                    case measure => simp [intOf]; omega
              · have u1 : decide ((s[k].toNat : Int) < 97) = false := decide_eq_false t1
                by_cases t2 : 122 < (s[k].toNat : Int)
                · have u2 : decide (122 < (s[k].toNat : Int)) = true := decide_eq_true t2
                  have u3 : ((s[k].toNat : Int) != 95) = true := by rw [bne_iff_ne]; omega
                  have u4 : decide ((s[k].toNat : Int) < 48) = false := decide_eq_false (by omega)
                  have u5 : decide (57 < (s[k].toNat : Int)) = true := decide_eq_true (by omega)
                  have HB := bd (by unfold chB; rw [decide_eq_false (show ¬ s[k].toNat ≤ 122 by omega), decide_eq_false (show ¬ s[k].toNat ≤ 57 by omega), decide_eq_false (show ¬ s[k].toNat = 95 by omega)]; simp)
                  clear ok bd
                  go_wp2
                  go_ret
                  exact ⟨ret_bool HB.out.symm, rfl⟩
                · have u2 : decide (122 < (s[k].toNat : Int)) = false := decide_eq_false t2
                  have HOK := ok (by unfold chB; rw [decide_eq_true (show 97 ≤ s[k].toNat by omega), decide_eq_true (show s[k].toNat ≤ 122 by omega)]; simp)
                  clear ok bd
                  go_wp2
                  go_round
                  case rel => exact ⟨k + 1, by omega, by go_num, HOK⟩
                  case measure => simp [intOf]; omega
            · have HB : Hid (nameB s = true) := name_all h2 (by omega) HLO.out (fun i hi => HA.out i hi (by omega))
              go_wp2
              go_ret
              exact ⟨ret_bool HB.out.symm, rfl⟩
theorem rname_is {s : ByteArray} {t : Bool} (h : nameB s = t) (hs : s.size ≤ maxLen) (w : World) : Calls Try.prog 56 #[.string s] w fun e w' => e = .returned (.bool t) ∧ w = w' := by
  subst h; exact rname_any s w hs
theorem rname_val {s : ByteArray} {t : Bool} (h : nameB s = t) (hs : s.size ≤ maxLen) (w : World) : Calls Try.prog 56 #[.string s] w fun e w' => e = .returned (.bool t) ∧ Grew w w' := by
  subst h; exact (rname_any s w hs).mono fun _ _ ⟨h1, h2⟩ => ⟨h1, h2 ▸ Grew.refl _⟩
end Go.Proofs.Ytaocjobbfcfleaa
