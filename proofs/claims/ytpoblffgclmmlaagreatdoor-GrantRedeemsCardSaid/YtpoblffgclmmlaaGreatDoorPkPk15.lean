/- A part of the proof of a card: what some functions of the program come to, each under the conditions that its theorem names. -/
import Derived.Shelf.SlGeneric
import Derived.Shelf.SlIter.Nil
import Derived.Shelf.SortM.Plain
import Derived.Shelf.SortM.SortNone
import Derived.Ground.GgzProg
import Derived.Ground.SlgmProg
import Derived.Test.YtpoblffgclmmlaaGreatDoorProg
section
namespace Go.Proofs
open Go.Shelf
def Tryz.keys108_ren : Go.Shelf.Ren := ⟨fun | 7 => 108 | 10 => 150 | n => n, fun | 23 => 123 | 26 => 9 | 3 => 9 | 28 => 147 | 0 => 0 | 27 => 146 | 33 => 194 | 4 => 4 | n => n, fun | n => n⟩
theorem Tryz.keys108 : Go.Proofs.SlLaysZ.n7 Tryz.prog Tryz.keys108_ren := {
 mixed := by kernel_rfl
 f7 := ⟨Tryz.f108.name, by decide, Tryz.func108.trans (congrArg some (by kernel_rfl))⟩
 f10 := ⟨Tryz.f150.name, by decide, Tryz.func150.trans (congrArg some (by kernel_rfl))⟩
 t0 := Tryz.underlying0
 a0 := Tryz.isAgg0
 z0 := Tryz.sizeOf0
 v0 := Tryz.zeroValue0
 t4 := Tryz.underlying4
 a4 := Tryz.isAgg4
 z4 := Tryz.sizeOf4
 v4 := Tryz.zeroValue4
 t23 := Tryz.underlying123
 a23 := Tryz.isAgg123
 z23 := Tryz.sizeOf123
 v23 := Tryz.zeroValue123
 t26 := Tryz.underlying9
 a26 := Tryz.isAgg9
 z26 := Tryz.sizeOf9
 v26 := Tryz.zeroValue9
 t27 := Tryz.underlying146
 a27 := Tryz.isAgg146
 z27 := Tryz.sizeOf146
 v27 := Tryz.zeroValue146
 t28 := Tryz.underlying147
 a28 := Tryz.isAgg147
 z28 := Tryz.sizeOf147
 v28 := Tryz.zeroValue147
 t33 := Tryz.underlying194
 a33 := Tryz.isAgg194
 z33 := Tryz.sizeOf194
 v33 := Tryz.zeroValue194 }
def Tryz.sorted107_ren : Go.Shelf.Ren := ⟨fun | 6 => 107 | 8 => 148 | 9 => 149 | 11 => 168 | 13 => 170 | 12 => 169 | 23 => 192 | 24 => 193 | 14 => 183 | 15 => 184 | 16 => 185 | 17 => 186 | 18 => 187 | 19 => 188 | 20 => 189 | 21 => 190 | 22 => 191 | 25 => 211 | 26 => 212 | 27 => 213 | 28 => 214 | 29 => 215 | 30 => 216 | 31 => 229 | n => n, fun | 26 => 9 | 28 => 147 | 24 => 88 | 0 => 0 | 3 => 3 | 37 => 199 | 48 => 178 | 50 => 191 | 4 => 4 | 40 => 221 | 39 => 220 | 45 => 136 | 5 => 5 | 9 => 9 | 51 => 244 | 55 => 248 | 57 => 262 | 58 => 263 | 33 => 194 | n => n, fun | n => n⟩
theorem Tryz.sorted107 : Go.Proofs.SlLaysZ.n6 Tryz.prog Tryz.sorted107_ren := {
 mixed := by kernel_rfl
 f6 := ⟨Tryz.f107.name, by decide, Tryz.func107.trans (congrArg some (by kernel_rfl))⟩
 f8 := ⟨Tryz.f148.name, by decide, Tryz.func148.trans (congrArg some (by kernel_rfl))⟩
 f11 := ⟨Tryz.f168.name, by decide, Tryz.func168.trans (congrArg some (by kernel_rfl))⟩
 t0 := Tryz.underlying0
 a0 := Tryz.isAgg0
 z0 := Tryz.sizeOf0
 v0 := Tryz.zeroValue0
 t24 := Tryz.underlying88
 a24 := Tryz.isAgg88
 z24 := Tryz.sizeOf88
 v24 := Tryz.zeroValue88
 t26 := Tryz.underlying9
 a26 := Tryz.isAgg9
 z26 := Tryz.sizeOf9
 v26 := Tryz.zeroValue9
 t28 := Tryz.underlying147
 a28 := Tryz.isAgg147
 z28 := Tryz.sizeOf147
 v28 := Tryz.zeroValue147
 i26 := by kernel_rfl }
def Tryz.sort149_ren : Go.Shelf.Ren := ⟨fun | 6 => 149 | 8 => 170 | 9 => 169 | 19 => 192 | 20 => 193 | 21 => 183 | 22 => 184 | 23 => 185 | 24 => 186 | 25 => 187 | 26 => 188 | 27 => 189 | 28 => 190 | 29 => 191 | 36 => 211 | 31 => 212 | 32 => 213 | 37 => 214 | 38 => 215 | 39 => 216 | 41 => 229 | n => n, fun | 27 => 88 | 29 => 9 | 3 => 3 | 32 => 199 | 26 => 88 | 0 => 0 | 44 => 178 | 46 => 191 | 4 => 4 | 36 => 221 | 35 => 220 | 41 => 136 | 5 => 5 | 9 => 9 | 53 => 244 | 57 => 248 | 63 => 262 | 64 => 263 | n => n, fun | n => n⟩
theorem Tryz.sort149 : Go.Proofs.SlLaysM.n6 Tryz.prog Tryz.sort149_ren := {
 mixed := by kernel_rfl
 f6 := ⟨Tryz.f149.name, by decide, Tryz.func149.trans (congrArg some (by kernel_rfl))⟩
 f8 := Tryz.func170.trans (congrArg some (by kernel_rfl))
 f9 := ⟨Tryz.f169.name, by decide, Tryz.func169.trans (congrArg some (by kernel_rfl))⟩
 f19 := Tryz.func192.trans (congrArg some (by kernel_rfl))
 f20 := Tryz.func193.trans (congrArg some (by kernel_rfl))
 f21 := ⟨Tryz.f183.name, by decide, Tryz.func183.trans (congrArg some (by kernel_rfl))⟩
 f22 := ⟨Tryz.f184.name, by decide, Tryz.func184.trans (congrArg some (by kernel_rfl))⟩
 f23 := ⟨Tryz.f185.name, by decide, Tryz.func185.trans (congrArg some (by kernel_rfl))⟩
 f24 := ⟨Tryz.f186.name, by decide, Tryz.func186.trans (congrArg some (by kernel_rfl))⟩
 f25 := ⟨Tryz.f187.name, by decide, Tryz.func187.trans (congrArg some (by kernel_rfl))⟩
 f26 := ⟨Tryz.f188.name, by decide, Tryz.func188.trans (congrArg some (by kernel_rfl))⟩
 f27 := ⟨Tryz.f189.name, by decide, Tryz.func189.trans (congrArg some (by kernel_rfl))⟩
 f28 := ⟨Tryz.f190.name, by decide, Tryz.func190.trans (congrArg some (by kernel_rfl))⟩
 f29 := ⟨Tryz.f191.name, by decide, Tryz.func191.trans (congrArg some (by kernel_rfl))⟩
 f31 := Tryz.func212.trans (congrArg some (by kernel_rfl))
 f32 := Tryz.func213.trans (congrArg some (by kernel_rfl))
 f36 := ⟨Tryz.f211.name, by decide, Tryz.func211.trans (congrArg some (by kernel_rfl))⟩
 f37 := ⟨Tryz.f214.name, by decide, Tryz.func214.trans (congrArg some (by kernel_rfl))⟩
 f38 := ⟨Tryz.f215.name, by decide, Tryz.func215.trans (congrArg some (by kernel_rfl))⟩
 f39 := ⟨Tryz.f216.name, by decide, Tryz.func216.trans (congrArg some (by kernel_rfl))⟩
 f41 := ⟨Tryz.f229.name, by decide, Tryz.func229.trans (congrArg some (by kernel_rfl))⟩
 t0 := Tryz.underlying0
 a0 := Tryz.isAgg0
 z0 := Tryz.sizeOf0
 v0 := Tryz.zeroValue0
 t3 := Tryz.underlying3
 a3 := Tryz.isAgg3
 z3 := Tryz.sizeOf3
 v3 := Tryz.zeroValue3
 t4 := Tryz.underlying4
 a4 := Tryz.isAgg4
 z4 := Tryz.sizeOf4
 v4 := Tryz.zeroValue4
 t5 := Tryz.underlying5
 a5 := Tryz.isAgg5
 z5 := Tryz.sizeOf5
 v5 := Tryz.zeroValue5
 t9 := Tryz.underlying9
 a9 := Tryz.isAgg9
 z9 := Tryz.sizeOf9
 v9 := Tryz.zeroValue9
 t26 := Tryz.underlying88
 a26 := Tryz.isAgg88
 z26 := Tryz.sizeOf88
 v26 := Tryz.zeroValue88
 t27 := Tryz.underlying88
 a27 := Tryz.isAgg88
 z27 := Tryz.sizeOf88
 v27 := Tryz.zeroValue88
 t29 := Tryz.underlying9
 a29 := Tryz.isAgg9
 z29 := Tryz.sizeOf9
 v29 := Tryz.zeroValue9
 t32 := Tryz.underlying199
 a32 := Tryz.isAgg199
 z32 := Tryz.sizeOf199
 v32 := Tryz.zeroValue199
 t35 := Tryz.underlying220
 a35 := Tryz.isAgg220
 z35 := Tryz.sizeOf220
 v35 := Tryz.zeroValue220
 t36 := Tryz.underlying221
 a36 := Tryz.isAgg221
 z36 := Tryz.sizeOf221
 v36 := Tryz.zeroValue221
 t41 := Tryz.underlying136
 a41 := Tryz.isAgg136
 z41 := Tryz.sizeOf136
 v41 := Tryz.zeroValue136
 t44 := Tryz.underlying178
 a44 := Tryz.isAgg178
 z44 := Tryz.sizeOf178
 v44 := Tryz.zeroValue178
 t46 := Tryz.underlying191
 a46 := Tryz.isAgg191
 z46 := Tryz.sizeOf191
 v46 := Tryz.zeroValue191
 t53 := Tryz.underlying244
 a53 := Tryz.isAgg244
 z53 := Tryz.sizeOf244
 v53 := Tryz.zeroValue244
 t57 := Tryz.underlying248
 a57 := Tryz.isAgg248
 z57 := Tryz.sizeOf248
 v57 := Tryz.zeroValue248
 t63 := Tryz.underlying262
 a63 := Tryz.isAgg262
 z63 := Tryz.sizeOf262
 v63 := Tryz.zeroValue262
 t64 := Tryz.underlying263
 a64 := Tryz.isAgg263
 z64 := Tryz.sizeOf263
 v64 := Tryz.zeroValue263 }
open Go.RowKit Go.Maps Go.Sort in
/-- slices.Sort's two contracts at this dump, at the fence that asks nothing. -/
theorem Tryz.sorts107 (m : Nat) : AnyZ.SortsIn Tryz.prog Tryz.sorted107_ren Fence.wide m :=
 ⟨fun blk off cap ss W hH hblk hsz => callsIn_wide.2 (AnyM.slices_Sort_string Tryz.sort149 blk off cap ss W hH hblk hsz),
  fun p cap W => callsIn_wide.2 (AnyM.slices_Sort_string_none Tryz.sort149 p cap W)⟩
open Go.RowKit Go.Maps Go.Sort in
/-- **maps.Keys[map[string]string,string,string], at whatever map, the nil one too:** a function value over ONE NEW BLOCK, which holds the map. -/
theorem Tryz.maps_Keys_108 (mb : Option Nat) (W : World) : CallsIn Fence.wide 5 Tryz.prog 108 #[.map mb] W fun e w' => e = .returned (.func (.func 150) #[] #[.pointer (some ⟨W.heap.size, 0, none⟩)]) ∧ w' = W.alloc (.cells #[.map mb] 123) :=
 AnyZ.keys_in Tryz.keys108 Fence.wide 5 trivial rfl mb W
open Go.RowKit Go.Maps Go.Sort in
/-- **slices.Sorted[string] AT WHAT maps.Keys[map[string]string,string,string] HANDED BACK FOR A MAP THAT IS NOT nil** ('w': the world AHEAD of maps.Keys' call): A NEW SLICE THAT HOLDS THE MAP's KEYS, SORTED; nil just where it has none; nothing that lay before has turned. -/
theorem Tryz.slices_Sorted_keys_107_108 {H : Type} (b nn : Nat) (D0 : DataW H) (R : Value → Option (DataW H × List MemPlace)) (w : World) (hown : w.ownsMap Tryz.prog 9 R b nn D0) (hmax : Maps.size D0 ≤ maxLen) (hbytes : Maps.size D0 * 16 ≤ 140737488355328) :
  CallsIn Fence.wide 5 Tryz.prog 107 #[.func (.func 150) #[] #[.pointer (some ⟨w.heap.size, 0, none⟩)]] (w.alloc (.cells #[.map (some b)] 123)) fun e w' => ∃ (v : Value) (ss : List (List UInt8)), e = .returned v ∧ ss.Perm (strKeys D0) ∧
   w'.ownsRow (w.alloc (.cells #[.map (some b)] 123)).heap.size 9 1 v ss.length ((ss.mergeSort (fun x y => decide (x ≤ y))).map encStr) ∧ (v = .slice none 0 0 ↔ ss = []) ∧ Below (w.alloc (.cells #[.map (some b)] 123)).heap.size (w.alloc (.cells #[.map (some b)] 123)) w' := by
 have hbl := hown.lt
 have hseq : SeqGives Fence.wide 2 Tryz.prog 150 #[.pointer (some ⟨w.heap.size, 0, none⟩)] encStr (fun ss => ss.Perm (strKeys D0)) (Maps.size D0) (w.alloc (.cells #[.map (some b)] 123)) :=
  AnyZ.keys_gives (ρ := Tryz.keys108_ren) { Tryz.keys108 with } Fence.wide _ trivial rfl (by omega) w.heap.size b nn D0 _ (by simp) (by simp) (by
   obtain ⟨es, clock, hb, Ft, hs, hD⟩ := hown
   exact ⟨es, clock, (Below.heap_alloc _ _ b hbl).trans hb, Ft, hs, hD⟩)
 exact AnyZ.sorted_in Tryz.sorted107 Fence.wide 5 trivial trivial trivial trivial rfl (by omega) (Tryz.sorts107 _) (enters_of Tryz.func149 (by kernel_rfl) rfl) 150 #[.pointer (some ⟨w.heap.size, 0, none⟩)] trivial (enters_of Tryz.func150 (by kernel_rfl) rfl) _ _ hmax hbytes _ hseq
end Go.Proofs
end
