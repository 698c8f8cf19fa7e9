/- LinkFull: the tied card: whatever the input the law answers true and leaves it alone, the listed tables being as the program's text lays them; conditions: as the row's cells say ('laid') (part 14 of 24). -/
import Derived.Shelf.SlGeneric
import Derived.Shelf.SlIter.Nil
import Derived.Shelf.SortM.Plain
import Derived.Shelf.SortM.SortNone
import Derived.Ground.GgzProg
import Derived.Ground.SlgmProg
import Derived.Test.YtpoblffgclmmlaaDoorProg
section
namespace Go.Proofs
open Go.Shelf
def Tryd.keys27_ren : Go.Shelf.Ren := ⟨fun | 7 => 27 | 10 => 44 | n => n, fun | 23 => 53 | 26 => 9 | 3 => 9 | 28 => 72 | 0 => 0 | 27 => 71 | 33 => 94 | 4 => 4 | n => n, fun | n => n⟩
theorem Tryd.keys27 : Go.Proofs.SlLaysZ.n7 Tryd.prog Tryd.keys27_ren := {
  mixed := by kernel_rfl
  f7 := ⟨Tryd.f27.name, by decide, Tryd.func27.trans (congrArg some (by kernel_rfl))⟩
  f10 := ⟨Tryd.f44.name, by decide, Tryd.func44.trans (congrArg some (by kernel_rfl))⟩
  t0 := Tryd.underlying0
  a0 := Tryd.isAgg0
  z0 := Tryd.sizeOf0
  v0 := Tryd.zeroValue0
  t4 := Tryd.underlying4
  a4 := Tryd.isAgg4
  z4 := Tryd.sizeOf4
  v4 := Tryd.zeroValue4
  t23 := Tryd.underlying53
  a23 := Tryd.isAgg53
  z23 := Tryd.sizeOf53
  v23 := Tryd.zeroValue53
  t26 := Tryd.underlying9
  a26 := Tryd.isAgg9
  z26 := Tryd.sizeOf9
  v26 := Tryd.zeroValue9
  t27 := Tryd.underlying71
  a27 := Tryd.isAgg71
  z27 := Tryd.sizeOf71
  v27 := Tryd.zeroValue71
  t28 := Tryd.underlying72
  a28 := Tryd.isAgg72
  z28 := Tryd.sizeOf72
  v28 := Tryd.zeroValue72
  t33 := Tryd.underlying94
  a33 := Tryd.isAgg94
  z33 := Tryd.sizeOf94
  v33 := Tryd.zeroValue94 }
def Tryd.sorted26_ren : Go.Shelf.Ren := ⟨fun | 6 => 26 | 8 => 42 | 9 => 43 | 11 => 52 | 13 => 54 | 12 => 53 | 23 => 68 | 24 => 69 | 14 => 59 | 15 => 60 | 16 => 61 | 17 => 62 | 18 => 63 | 19 => 64 | 20 => 65 | 21 => 66 | 22 => 67 | 25 => 76 | 26 => 77 | 27 => 78 | 28 => 79 | 29 => 80 | 30 => 81 | 31 => 89 | n => n, fun | 26 => 9 | 28 => 72 | 24 => 49 | 0 => 0 | 3 => 3 | 37 => 104 | 48 => 79 | 50 => 122 | 4 => 4 | 40 => 115 | 39 => 114 | 45 => 91 | 5 => 5 | 9 => 9 | 51 => 131 | 55 => 135 | 57 => 144 | 58 => 145 | 33 => 94 | n => n, fun | n => n⟩
theorem Tryd.sorted26 : Go.Proofs.SlLaysZ.n6 Tryd.prog Tryd.sorted26_ren := {
  mixed := by kernel_rfl
  f6 := ⟨Tryd.f26.name, by decide, Tryd.func26.trans (congrArg some (by kernel_rfl))⟩
  f8 := ⟨Tryd.f42.name, by decide, Tryd.func42.trans (congrArg some (by kernel_rfl))⟩
  f11 := ⟨Tryd.f52.name, by decide, Tryd.func52.trans (congrArg some (by kernel_rfl))⟩
  t0 := Tryd.underlying0
  a0 := Tryd.isAgg0
  z0 := Tryd.sizeOf0
  v0 := Tryd.zeroValue0
  t24 := Tryd.underlying49
  a24 := Tryd.isAgg49
  z24 := Tryd.sizeOf49
  v24 := Tryd.zeroValue49
  t26 := Tryd.underlying9
  a26 := Tryd.isAgg9
  z26 := Tryd.sizeOf9
  v26 := Tryd.zeroValue9
  t28 := Tryd.underlying72
  a28 := Tryd.isAgg72
  z28 := Tryd.sizeOf72
  v28 := Tryd.zeroValue72
  i26 := by kernel_rfl }
def Tryd.sort43_ren : Go.Shelf.Ren := ⟨fun | 6 => 43 | 8 => 54 | 9 => 53 | 19 => 68 | 20 => 69 | 21 => 59 | 22 => 60 | 23 => 61 | 24 => 62 | 25 => 63 | 26 => 64 | 27 => 65 | 28 => 66 | 29 => 67 | 36 => 76 | 31 => 77 | 32 => 78 | 37 => 79 | 38 => 80 | 39 => 81 | 41 => 89 | n => n, fun | 27 => 49 | 29 => 9 | 3 => 3 | 32 => 104 | 26 => 49 | 0 => 0 | 44 => 79 | 46 => 122 | 4 => 4 | 36 => 115 | 35 => 114 | 41 => 91 | 5 => 5 | 9 => 9 | 53 => 131 | 57 => 135 | 63 => 144 | 64 => 145 | n => n, fun | n => n⟩
theorem Tryd.sort43 : Go.Proofs.SlLaysM.n6 Tryd.prog Tryd.sort43_ren := {
  mixed := by kernel_rfl
  f6 := ⟨Tryd.f43.name, by decide, Tryd.func43.trans (congrArg some (by kernel_rfl))⟩
  f8 := Tryd.func54.trans (congrArg some (by kernel_rfl))
  f9 := ⟨Tryd.f53.name, by decide, Tryd.func53.trans (congrArg some (by kernel_rfl))⟩
  f19 := Tryd.func68.trans (congrArg some (by kernel_rfl))
  f20 := Tryd.func69.trans (congrArg some (by kernel_rfl))
  f21 := ⟨Tryd.f59.name, by decide, Tryd.func59.trans (congrArg some (by kernel_rfl))⟩
  f22 := ⟨Tryd.f60.name, by decide, Tryd.func60.trans (congrArg some (by kernel_rfl))⟩
  f23 := ⟨Tryd.f61.name, by decide, Tryd.func61.trans (congrArg some (by kernel_rfl))⟩
  f24 := ⟨Tryd.f62.name, by decide, Tryd.func62.trans (congrArg some (by kernel_rfl))⟩
  f25 := ⟨Tryd.f63.name, by decide, Tryd.func63.trans (congrArg some (by kernel_rfl))⟩
  f26 := ⟨Tryd.f64.name, by decide, Tryd.func64.trans (congrArg some (by kernel_rfl))⟩
  f27 := ⟨Tryd.f65.name, by decide, Tryd.func65.trans (congrArg some (by kernel_rfl))⟩
  f28 := ⟨Tryd.f66.name, by decide, Tryd.func66.trans (congrArg some (by kernel_rfl))⟩
  f29 := ⟨Tryd.f67.name, by decide, Tryd.func67.trans (congrArg some (by kernel_rfl))⟩
  f31 := Tryd.func77.trans (congrArg some (by kernel_rfl))
  f32 := Tryd.func78.trans (congrArg some (by kernel_rfl))
  f36 := ⟨Tryd.f76.name, by decide, Tryd.func76.trans (congrArg some (by kernel_rfl))⟩
  f37 := ⟨Tryd.f79.name, by decide, Tryd.func79.trans (congrArg some (by kernel_rfl))⟩
  f38 := ⟨Tryd.f80.name, by decide, Tryd.func80.trans (congrArg some (by kernel_rfl))⟩
  f39 := ⟨Tryd.f81.name, by decide, Tryd.func81.trans (congrArg some (by kernel_rfl))⟩
  f41 := ⟨Tryd.f89.name, by decide, Tryd.func89.trans (congrArg some (by kernel_rfl))⟩
  t0 := Tryd.underlying0
  a0 := Tryd.isAgg0
  z0 := Tryd.sizeOf0
  v0 := Tryd.zeroValue0
  t3 := Tryd.underlying3
  a3 := Tryd.isAgg3
  z3 := Tryd.sizeOf3
  v3 := Tryd.zeroValue3
  t4 := Tryd.underlying4
  a4 := Tryd.isAgg4
  z4 := Tryd.sizeOf4
  v4 := Tryd.zeroValue4
  t5 := Tryd.underlying5
  a5 := Tryd.isAgg5
  z5 := Tryd.sizeOf5
  v5 := Tryd.zeroValue5
  t9 := Tryd.underlying9
  a9 := Tryd.isAgg9
  z9 := Tryd.sizeOf9
  v9 := Tryd.zeroValue9
  t26 := Tryd.underlying49
  a26 := Tryd.isAgg49
  z26 := Tryd.sizeOf49
  v26 := Tryd.zeroValue49
  t27 := Tryd.underlying49
  a27 := Tryd.isAgg49
  z27 := Tryd.sizeOf49
  v27 := Tryd.zeroValue49
  t29 := Tryd.underlying9
  a29 := Tryd.isAgg9
  z29 := Tryd.sizeOf9
  v29 := Tryd.zeroValue9
  t32 := Tryd.underlying104
  a32 := Tryd.isAgg104
  z32 := Tryd.sizeOf104
  v32 := Tryd.zeroValue104
  t35 := Tryd.underlying114
  a35 := Tryd.isAgg114
  z35 := Tryd.sizeOf114
  v35 := Tryd.zeroValue114
  t36 := Tryd.underlying115
  a36 := Tryd.isAgg115
  z36 := Tryd.sizeOf115
  v36 := Tryd.zeroValue115
  t41 := Tryd.underlying91
  a41 := Tryd.isAgg91
  z41 := Tryd.sizeOf91
  v41 := Tryd.zeroValue91
  t44 := Tryd.underlying79
  a44 := Tryd.isAgg79
  z44 := Tryd.sizeOf79
  v44 := Tryd.zeroValue79
  t46 := Tryd.underlying122
  a46 := Tryd.isAgg122
  z46 := Tryd.sizeOf122
  v46 := Tryd.zeroValue122
  t53 := Tryd.underlying131
  a53 := Tryd.isAgg131
  z53 := Tryd.sizeOf131
  v53 := Tryd.zeroValue131
  t57 := Tryd.underlying135
  a57 := Tryd.isAgg135
  z57 := Tryd.sizeOf135
  v57 := Tryd.zeroValue135
  t63 := Tryd.underlying144
  a63 := Tryd.isAgg144
  z63 := Tryd.sizeOf144
  v63 := Tryd.zeroValue144
  t64 := Tryd.underlying145
  a64 := Tryd.isAgg145
  z64 := Tryd.sizeOf145
  v64 := Tryd.zeroValue145 }
open Go.RowKit Go.Maps Go.Sort in
/-- slices.Sort's two contracts at this dump, at the fence that asks nothing. -/
theorem Tryd.sorts26 (m : Nat) : AnyZ.SortsIn Tryd.prog Tryd.sorted26_ren Fence.wide m :=
  ⟨fun blk off cap ss W hH hblk hsz => callsIn_wide.2 (AnyM.slices_Sort_string Tryd.sort43 blk off cap ss W hH hblk hsz),
   fun p cap W => callsIn_wide.2 (AnyM.slices_Sort_string_none Tryd.sort43 p cap W)⟩
open Go.RowKit Go.Maps Go.Sort in
/-- **maps.Keys[map[string]string,string,string], at whatever map, the nil one too:** a function value over ONE NEW BLOCK, which holds the map. -/
theorem Tryd.maps_Keys_27 (mb : Option Nat) (W : World) : CallsIn Fence.wide 5 Tryd.prog 27 #[.map mb] W fun e w' => e = .returned (.func (.func 44) #[] #[.pointer (some ⟨W.heap.size, 0, none⟩)]) ∧ w' = W.alloc (.cells #[.map mb] 53) :=
  AnyZ.keys_in Tryd.keys27 Fence.wide 5 trivial rfl mb W
open Go.RowKit Go.Maps Go.Sort in
/-- **slices.Sorted[string] AT WHAT maps.Keys[map[string]string,string,string] HANDED BACK FOR A MAP THAT IS NOT nil** ('w': the world AHEAD of maps.Keys' call): A NEW SLICE THAT HOLDS THE MAP's KEYS, SORTED; nil just where it has none; nothing that lay before has turned. -/
theorem Tryd.slices_Sorted_keys_26_27 {H : Type} (b nn : Nat) (D0 : DataW H) (R : Value → Option (DataW H × List MemPlace)) (w : World) (hown : w.ownsMap Tryd.prog 9 R b nn D0) (hmax : Maps.size D0 ≤ maxLen) (hbytes : Maps.size D0 * 16 ≤ 140737488355328) :
    CallsIn Fence.wide 5 Tryd.prog 26 #[.func (.func 44) #[] #[.pointer (some ⟨w.heap.size, 0, none⟩)]] (w.alloc (.cells #[.map (some b)] 53)) fun e w' => ∃ (v : Value) (ss : List (List UInt8)), e = .returned v ∧ ss.Perm (strKeys D0) ∧
      w'.ownsRow (w.alloc (.cells #[.map (some b)] 53)).heap.size 9 1 v ss.length ((ss.mergeSort (fun x y => decide (x ≤ y))).map encStr) ∧ (v = .slice none 0 0 ↔ ss = []) ∧ Below (w.alloc (.cells #[.map (some b)] 53)).heap.size (w.alloc (.cells #[.map (some b)] 53)) w' := by
  have hbl := hown.lt
  have hseq : SeqGives Fence.wide 2 Tryd.prog 44 #[.pointer (some ⟨w.heap.size, 0, none⟩)] encStr (fun ss => ss.Perm (strKeys D0)) (Maps.size D0) (w.alloc (.cells #[.map (some b)] 53)) :=
    AnyZ.keys_gives (ρ := Tryd.keys27_ren) { Tryd.keys27 with } Fence.wide _ trivial rfl (by omega) w.heap.size b nn D0 _ (by simp) (by simp) (by
      obtain ⟨es, clock, hb, Ft, hs, hD⟩ := hown
      exact ⟨es, clock, (Below.heap_alloc _ _ b hbl).trans hb, Ft, hs, hD⟩)
  exact AnyZ.sorted_in Tryd.sorted26 Fence.wide 5 trivial trivial trivial trivial rfl (by omega) (Tryd.sorts26 _) (enters_of Tryd.func43 (by kernel_rfl) rfl) 44 #[.pointer (some ⟨w.heap.size, 0, none⟩)] trivial (enters_of Tryd.func44 (by kernel_rfl) rfl) _ _ hmax hbytes _ hseq
end Go.Proofs
end
