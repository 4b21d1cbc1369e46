/-
 Sorted keys.
-/
import Derived.Shelf.SlIterI.Sorted
import Derived.Shelf.SortM.Plain
import Derived.Shelf.SortM.SortNone
import Derived.Shelf.SlGeneric
import Derived.Ground.GgzProg
import Derived.Ground.SlgmProg
import Derived.Test.YtnnbibmmofnkdaaGreatProg
import Derived.Test.YtnnbibmmofnkdaaGreatKit
namespace Go.Proofs
open Go.Shelf
def Tryz.keysA_ren : Go.Shelf.Ren := ⟨fun | 7 => 87 | 10 => 120 | n => n, fun | 23 => 179 | 26 => 3 | 3 => 3 | 28 => 185 | 0 => 0 | 27 => 184 | 33 => 105 | 4 => 4 | n => n, fun | n => n⟩
theorem Tryz.keysA : Go.Proofs.SlLaysZI.n7 Tryz.prog Tryz.keysA_ren := {
 mixed := by kernel_rfl
 f7 := ⟨Tryz.f87.name, by decide, Tryz.func87.trans (congrArg some (by kernel_rfl))⟩
 f10 := ⟨Tryz.f120.name, by decide, Tryz.func120.trans (congrArg some (by kernel_rfl))⟩
 t0 := Tryz.underlying0
 a0 := Tryz.isAgg0
 z0 := Tryz.sizeOf0
 v0 := Tryz.zeroValue0
 t4 := Tryz.underlying4
 a4 := Tryz.isAgg4
 z4 := Tryz.sizeOf4
 v4 := Tryz.zeroValue4
 t23 := Tryz.underlying179
 a23 := Tryz.isAgg179
 z23 := Tryz.sizeOf179
 v23 := Tryz.zeroValue179
 t26 := Tryz.underlying3
 a26 := Tryz.isAgg3
 z26 := Tryz.sizeOf3
 v26 := Tryz.zeroValue3
 t27 := Tryz.underlying184
 a27 := Tryz.isAgg184
 z27 := Tryz.sizeOf184
 v27 := Tryz.zeroValue184
 t28 := Tryz.underlying185
 a28 := Tryz.isAgg185
 z28 := Tryz.sizeOf185
 v28 := Tryz.zeroValue185
 t33 := Tryz.underlying105
 a33 := Tryz.isAgg105
 z33 := Tryz.sizeOf105
 v33 := Tryz.zeroValue105 }
def Tryz.sortedA_ren : Go.Shelf.Ren := ⟨fun | 6 => 86 | 8 => 118 | 9 => 119 | 11 => 144 | 13 => 99 | 12 => 145 | 23 => 132 | 24 => 133 | 14 => 160 | 15 => 161 | 16 => 162 | 17 => 163 | 18 => 164 | 19 => 165 | 20 => 166 | 21 => 167 | 22 => 168 | 25 => 172 | 26 => 150 | 27 => 151 | 28 => 173 | 29 => 174 | 30 => 100 | 31 => 176 | n => n, fun | 26 => 3 | 28 => 185 | 24 => 38 | 0 => 0 | 3 => 3 | 37 => 203 | 48 => 227 | 50 => 229 | 4 => 4 | 40 => 220 | 39 => 219 | 45 => 224 | 5 => 5 | 9 => 9 | 51 => 249 | 55 => 253 | 57 => 265 | 58 => 231 | 33 => 105 | n => n, fun | n => n⟩
theorem Tryz.sortedA : Go.Proofs.SlLaysZI.n6 Tryz.prog Tryz.sortedA_ren := {
 mixed := by kernel_rfl
 f6 := ⟨Tryz.f86.name, by decide, Tryz.func86.trans (congrArg some (by kernel_rfl))⟩
 f8 := ⟨Tryz.f118.name, by decide, Tryz.func118.trans (congrArg some (by kernel_rfl))⟩
 f11 := ⟨Tryz.f144.name, by decide, Tryz.func144.trans (congrArg some (by kernel_rfl))⟩
 t0 := Tryz.underlying0
 a0 := Tryz.isAgg0
 z0 := Tryz.sizeOf0
 v0 := Tryz.zeroValue0
 t24 := Tryz.underlying38
 a24 := Tryz.isAgg38
 z24 := Tryz.sizeOf38
 v24 := Tryz.zeroValue38
 t26 := Tryz.underlying3
 a26 := Tryz.isAgg3
 z26 := Tryz.sizeOf3
 v26 := Tryz.zeroValue3
 t28 := Tryz.underlying185
 a28 := Tryz.isAgg185
 z28 := Tryz.sizeOf185
 v28 := Tryz.zeroValue185
 i26 := by kernel_rfl }
def Tryz.sortA_ren : Go.Shelf.Ren := ⟨fun | 5 => 119 | 8 => 99 | 7 => 145 | 19 => 132 | 20 => 133 | 10 => 160 | 11 => 161 | 12 => 162 | 13 => 163 | 14 => 164 | 15 => 165 | 16 => 166 | 17 => 167 | 18 => 168 | 30 => 172 | 31 => 150 | 32 => 151 | 33 => 173 | 34 => 174 | 35 => 100 | 40 => 176 | n => n, fun | 23 => 38 | 25 => 3 | 3 => 3 | 32 => 203 | 22 => 38 | 0 => 0 | 44 => 227 | 46 => 229 | 4 => 4 | 36 => 220 | 35 => 219 | 41 => 224 | 5 => 5 | 9 => 9 | 53 => 249 | 57 => 253 | 63 => 265 | 64 => 231 | n => n, fun | n => n⟩
theorem Tryz.sortA : Go.Proofs.SlLaysM.n5 Tryz.prog Tryz.sortA_ren := {
 mixed := by kernel_rfl
 f5 := ⟨Tryz.f119.name, by decide, Tryz.func119.trans (congrArg some (by kernel_rfl))⟩
 f7 := ⟨Tryz.f145.name, by decide, Tryz.func145.trans (congrArg some (by kernel_rfl))⟩
 f8 := Tryz.func99.trans (congrArg some (by kernel_rfl))
 f10 := ⟨Tryz.f160.name, by decide, Tryz.func160.trans (congrArg some (by kernel_rfl))⟩
 f11 := ⟨Tryz.f161.name, by decide, Tryz.func161.trans (congrArg some (by kernel_rfl))⟩
 f12 := ⟨Tryz.f162.name, by decide, Tryz.func162.trans (congrArg some (by kernel_rfl))⟩
 f13 := ⟨Tryz.f163.name, by decide, Tryz.func163.trans (congrArg some (by kernel_rfl))⟩
 f14 := ⟨Tryz.f164.name, by decide, Tryz.func164.trans (congrArg some (by kernel_rfl))⟩
 f15 := ⟨Tryz.f165.name, by decide, Tryz.func165.trans (congrArg some (by kernel_rfl))⟩
 f16 := ⟨Tryz.f166.name, by decide, Tryz.func166.trans (congrArg some (by kernel_rfl))⟩
 f17 := ⟨Tryz.f167.name, by decide, Tryz.func167.trans (congrArg some (by kernel_rfl))⟩
 f18 := ⟨Tryz.f168.name, by decide, Tryz.func168.trans (congrArg some (by kernel_rfl))⟩
 f19 := Tryz.func132.trans (congrArg some (by kernel_rfl))
 f20 := Tryz.func133.trans (congrArg some (by kernel_rfl))
 f30 := ⟨Tryz.f172.name, by decide, Tryz.func172.trans (congrArg some (by kernel_rfl))⟩
 f31 := Tryz.func150.trans (congrArg some (by kernel_rfl))
 f32 := Tryz.func151.trans (congrArg some (by kernel_rfl))
 f33 := ⟨Tryz.f173.name, by decide, Tryz.func173.trans (congrArg some (by kernel_rfl))⟩
 f34 := ⟨Tryz.f174.name, by decide, Tryz.func174.trans (congrArg some (by kernel_rfl))⟩
 f35 := ⟨Tryz.f100.name, by decide, Tryz.func100.trans (congrArg some (by kernel_rfl))⟩
 f40 := ⟨Tryz.f176.name, by decide, Tryz.func176.trans (congrArg some (by kernel_rfl))⟩
 t0 := Tryz.underlying0
 a0 := Tryz.isAgg0
 z0 := Tryz.sizeOf0
 v0 := Tryz.zeroValue0
 t3 := Tryz.underlying3
 a3 := Tryz.isAgg3
 z3 := Tryz.sizeOf3
 v3 := Tryz.zeroValue3
 t4 := Tryz.underlying4
 a4 := Tryz.isAgg4
 z4 := Tryz.sizeOf4
 v4 := Tryz.zeroValue4
 t5 := Tryz.underlying5
 a5 := Tryz.isAgg5
 z5 := Tryz.sizeOf5
 v5 := Tryz.zeroValue5
 t9 := Tryz.underlying9
 a9 := Tryz.isAgg9
 z9 := Tryz.sizeOf9
 v9 := Tryz.zeroValue9
 t22 := Tryz.underlying38
 a22 := Tryz.isAgg38
 z22 := Tryz.sizeOf38
 v22 := Tryz.zeroValue38
 t23 := Tryz.underlying38
 a23 := Tryz.isAgg38
 z23 := Tryz.sizeOf38
 v23 := Tryz.zeroValue38
 t25 := Tryz.underlying3
 a25 := Tryz.isAgg3
 z25 := Tryz.sizeOf3
 v25 := Tryz.zeroValue3
 t32 := Tryz.underlying203
 a32 := Tryz.isAgg203
 z32 := Tryz.sizeOf203
 v32 := Tryz.zeroValue203
 t35 := Tryz.underlying219
 a35 := Tryz.isAgg219
 z35 := Tryz.sizeOf219
 v35 := Tryz.zeroValue219
 t36 := Tryz.underlying220
 a36 := Tryz.isAgg220
 z36 := Tryz.sizeOf220
 v36 := Tryz.zeroValue220
 t41 := Tryz.underlying224
 a41 := Tryz.isAgg224
 z41 := Tryz.sizeOf224
 v41 := Tryz.zeroValue224
 t44 := Tryz.underlying227
 a44 := Tryz.isAgg227
 z44 := Tryz.sizeOf227
 v44 := Tryz.zeroValue227
 t46 := Tryz.underlying229
 a46 := Tryz.isAgg229
 z46 := Tryz.sizeOf229
 v46 := Tryz.zeroValue229
 t53 := Tryz.underlying249
 a53 := Tryz.isAgg249
 z53 := Tryz.sizeOf249
 v53 := Tryz.zeroValue249
 t57 := Tryz.underlying253
 a57 := Tryz.isAgg253
 z57 := Tryz.sizeOf253
 v57 := Tryz.zeroValue253
 t63 := Tryz.underlying265
 a63 := Tryz.isAgg265
 z63 := Tryz.sizeOf265
 v63 := Tryz.zeroValue265
 t64 := Tryz.underlying231
 a64 := Tryz.isAgg231
 z64 := Tryz.sizeOf231
 v64 := Tryz.zeroValue231 }
end Go.Proofs
namespace Go.Proofs.YtnnbibmmofnkdaaGreat
open Go.RowKit Go.Shelf Go.Proofs Go.Maps WageMem WageRec WageMap
theorem sortsA (m : Nat) : AnyZI.SortsIn Tryz.prog Tryz.sortedA_ren Fence.wide m :=
 ⟨fun blk off cap ss W hH hblk hsz => callsIn_wide.2 (AnyM.slices_Sort_int Tryz.sortA blk off cap ss W hH hblk hsz),
 fun p cap W => callsIn_wide.2 (AnyM.slices_Sort_int_none Tryz.sortA p cap W)⟩
theorem keys87 (mb : Option Nat) (W : World) : Calls Tryz.prog 87 #[.map mb] W fun e w' => e = .returned (.func (.func 120) #[] #[.pointer (some ⟨W.heap.size, 0, none⟩)]) ∧ w' = W.alloc (.cells #[.map mb] 179) :=
 callsIn_wide.1 (AnyZI.keys_in Tryz.keysA Fence.wide 5 trivial rfl mb W)
def zk (z : Int) : Value := .int .i64 z
theorem map_owns {β : Type} {ev : β → Value} {w : World} {b : Nat} {m : List (Int × β)} (h : MapIs zk ev w b m) (hk : (m.map Prod.fst).Nodup) (hw : ∀ p ∈ m, -9223372036854775808 ≤ p.1 ∧ p.1 ≤ 9223372036854775807) (hl : m.length ≤ 1000000) :
  ∃ D : DataW Unit, w.ownsMap Tryz.prog 3 (fun _ => some (.nil, [])) b m.length D ∧ (intKeys D).Perm (m.map Prod.fst) ∧ Maps.size D = m.length := by
 obtain ⟨es, clock, hb, he, hn, hc⟩ := h
 have hlen : es.toList.length = m.length := by have := congrArg List.length he; simpa using this
 have hkeys : es.toList.map (·.key) = (m.map Prod.fst).map zk := keys_of he
 have hrd : ∀ x ∈ es.toList, ∃ z, x.key = zk z ∧ z ∈ m.map Prod.fst := fun x hx => by
  have : x.key ∈ (m.map Prod.fst).map zk := by rw [← hkeys]; exact List.mem_map_of_mem hx
  obtain ⟨z, hz, e⟩ := List.mem_map.1 this
  exact ⟨z, e.symm, hz⟩
 have hint : Tryz.prog.underlying 3 = some (.int .i64) := by kernel_rfl
 have hwf : ∀ z ∈ m.map Prod.fst, (Lit.int .i64 z).wf = true := fun z hz => by
  obtain ⟨p, hp, rfl⟩ := List.mem_map.1 hz
  have := hw p hp
  simp only [Lit.wf, IntKind.min, IntKind.max, IntKind.signed, IntKind.bits, Bool.and_eq_true, decide_eq_true_eq, if_true]
  omega
 have hr : ∀ x ∈ es.toList, ∃ z, x.key = zk z ∧ Go.WideElems.rd Tryz.prog 3 (fun _ => some ((.nil : DataW Unit), [])) x = some (.int .i64 z, .nil) := fun x hx => by
  obtain ⟨z, e, hz⟩ := hrd x hx
  refine ⟨z, e, ?_⟩
  unfold Go.WideElems.rd
  rw [e, show zk z = Value.int .i64 z from rfl, keyOf_int_mk hint (hwf z hz)]
  rfl
 refine ⟨_, ⟨es, clock, hb, ⟨by rw [← Array.length_toList, hlen]; unfold maxLen; omega, ⟨hc, hn, ?_⟩, fun x hx => by obtain ⟨z, _, h⟩ := hr x hx; exact ⟨_, h⟩⟩, by rw [← Array.length_toList, hlen]; exact Nat.le_refl _, rfl⟩, ?_, ?_⟩
 ·rw [hkeys]
  exact List.pairwise_map.2 (hk.imp fun h e => h (by injection e))
 ·let f : Value → Int := fun v => match v with
   | .int _ z => z
   | _ => 0
  have e1 : (es.toList.map (·.key)).map f = m.map Prod.fst := by
   rw [hkeys, List.map_map]
   exact (List.map_congr_left fun z _ => rfl).trans (List.map_id _)
  rw [← e1, List.map_map]
  show (List.map _ (List.foldr DataW.insert [] _)).Perm _
  refine ((Go.WideShapes.sorted_perm _).map _).trans ?_
  rw [List.map_map]
  refine List.Perm.of_eq (List.map_congr_left fun x hx => ?_)
  obtain ⟨z, e, h⟩ := hr x hx
  simp only [Function.comp_apply, Go.WideElems.rg_of h, e]
  rfl
 ·show (List.foldr DataW.insert [] _).length = _
  rw [length_sorted]; simpa using hlen
def sortI (l : List Int) : List Int := l.mergeSort fun x y => decide (x ≤ y)
set_option maxHeartbeats 1000000 in
theorem sorted86 {β : Type} {ev : β → Value} {bm b : Nat} {m : List (Int × β)} {W : World} (hm : W.cell? ⟨bm, 0, none⟩ = some (.map (some b))) (h : MapIs zk ev W b m) (hk : (m.map Prod.fst).Nodup) (hw : ∀ p ∈ m, -9223372036854775808 ≤ p.1 ∧ p.1 ≤ 9223372036854775807) (hl : m.length ≤ 1000000) :
  Calls Tryz.prog 86 #[.func (.func 120) #[] #[.pointer (some ⟨bm, 0, none⟩)]] W fun e w' => ∃ v : Value, e = .returned v ∧ w'.ownsRow W.heap.size 3 1 v m.length ((sortI (m.map Prod.fst)).map zk) ∧ Grew W w' := by
 obtain ⟨D, hD, hp, hs⟩ := map_owns h hk hw hl
 have hbm := World.block_lt_of_cell? _ _ hm
 have hseq : SeqGives Fence.wide 2 Tryz.prog 120 #[.pointer (some ⟨bm, 0, none⟩)] encZ (fun ss => ss.Perm (intKeys D)) (Maps.size D) W :=
  AnyZI.keys_gives (ρ := Tryz.keysA_ren) { Tryz.keysA with } Fence.wide _ trivial rfl (by omega) bm b m.length D _ hbm hm hD
 have cS := AnyZI.sorted_in Tryz.sortedA Fence.wide 5 trivial trivial trivial trivial rfl (by omega) (sortsA _) (enters_of Tryz.func119 (by kernel_rfl) rfl) 120 #[.pointer (some ⟨bm, 0, none⟩)] trivial (enters_of Tryz.func120 (by kernel_rfl) rfl) _ _ (by rw [hs]; unfold maxLen; omega) (by rw [hs]; omega) _ hseq
 refine (callsIn_wide.1 cS).mono ?_
 rintro e w' ⟨v, ss, rfl, hS, hrow, _, hb⟩
 have hlen : ss.length = m.length := by rw [hS.length_eq, hp.length_eq, List.length_map]
 rw [hlen, mergeSort_of_perm_i (hS.trans hp)] at hrow
 exact ⟨v, rfl, hrow, hb⟩
end Go.Proofs.YtnnbibmmofnkdaaGreat
