/- The store in memory: its map's operations. -/
import Derived.Test.YtkmokcfnfhabgaaDoorQ0
import Derived.Test.YtkmokcfnfhabgaaDoorTpe
import Derived.Maps.OwnSet
import Derived.Maps.OwnOps
import Derived.Maps.StringElems
import Derived.Lib.Hide
import Derived.StringKeys
import Derived.Shelf.SlMaps.Clone
set_option linter.unusedVariables false
set_option linter.unusedSimpArgs false
namespace Go.Proofs.YtkmokcfnfhabgaaDoor.X
open Go.RowKit Go.WideMaps Go.Maps Go.Proofs.YtkmokcfnfhabgaaDoorW.PrintWords Go.Proofs.YtkmokcfnfhabgaaDoorW.PrintLast Go.Proofs.YtkmokcfnfhabgaaDoorW.PrintMore Go.Proofs.YtkmokcfnfhabgaaDoor.Q

/-- A key, as a map reads it. -/
abbrev kb (s : ByteArray) : Lit := .string s.data.toList
theorem keyLaw : Keyed Tryd.prog 9 := string_keyed Tryd.underlying9
theorem zeroS (w : World) : (zeroValue 9).run Tryd.prog w = .ok (.string ⟨#[]⟩) w := by kernel_rfl
def MapAt (W : World) (m n : Nat) (D : DataW Unit) : Prop := W.ownsMap Tryd.prog 9 (plainElem Tryd.prog 9) m n D
/-- What a map has at a key. -/
def valS (D : DataW Unit) (key : ByteArray) : ByteArray := match D.atKey (kb key) (.lit (.string [])) with | .lit (.string b) => ⟨b.toArray⟩ | _ => ⟨#[]⟩
def hasS (D : DataW Unit) (key : ByteArray) : Bool := Maps.has D (kb key)
theorem MapAt.kept {W W2 : World} {m n : Nat} {D : DataW Unit} {S : Nat → Prop} (h : MapAt W m n D) (hk : Tur W W2 S) (hne : ¬ S m) : MapAt W2 m n D := by
  obtain ⟨es, clock, hb, r⟩ := h
  exact ⟨es, clock, blk_kept hb hk.kept hne, r⟩
theorem MapAt.lt {W : World} {m n : Nat} {D : DataW Unit} (h : MapAt W m n D) : m < W.heap.size := World.ownsMap.lt h
/-- A map's block is no row. -/
theorem MapAt.ne {W : World} {m n : Nat} {D : DataW Unit} (h : MapAt W m n D) {g T : Nat} {cs : Array Value} {fz : Nat × Nat} (hb : W.heap[g]? = some (.cells cs T fz)) : m ≠ g := by
  obtain ⟨es, clock, hm, _⟩ := h
  intro e; subst e; rw [hm] at hb; cases hb
structure StoreAt (W : World) (base s t m n : Nat) (D : DataW Unit) : Prop where
  blk : W.heap[s]? = some (.cells #[.pointer (some ⟨t, 0, none⟩), .map (some m)] 74 (0, 0))
  map : MapAt W m n D
  ge : base ≤ s
  mge : base ≤ m
theorem StoreAt.kept {W W2 : World} {base s t m n : Nat} {D : DataW Unit} {S : Nat → Prop} (h : StoreAt W base s t m n D) (hk : Tur W W2 S) (hs : ¬ S s) (hm : ¬ S m) : StoreAt W2 base s t m n D :=
  ⟨blk_kept h.blk hk.kept hs, h.map.kept hk hm, h.ge, h.mge⟩
theorem valS_of {v : Value} {ps : List MemPlace} {D : DataW Unit} {key : ByteArray} (h : plainElem Tryd.prog 9 v = some (D.atKey (kb key) (.lit (.string [])), ps)) : v = .string (valS D key) := by
  obtain ⟨s, rfl, he, _⟩ := plainElem_string_inv Tryd.underlying9 h
  simp only [Prod.mk.injEq] at he
  unfold valS
  rw [he.1]
set_option maxHeartbeats 4000000 in
set_option maxRecDepth 100000 in
theorem get_says (base s t m n : Nat) (D : DataW Unit) (key : ByteArray) (hk : key.size ≤ maxLen) (w : World) (h : StoreAt w base s t m n D) :
    Calls Tryd.prog 17 #[.pointer (some ⟨s, 0, none⟩), .string key] w fun e w' => e = .returned (.tuple #[.string (valS D key), .bool (hasS D key)]) ∧ w' = w := by
  have c1 := blk_cell h.blk 1
  have hown : w.ownsMap Tryd.prog 9 (plainElem Tryd.prog 9) m n D := h.map
  have hkey : keyOf Tryd.prog 9 (.string key) = some (kb key) := keyOf_string_mk Tryd.underlying9 hk
  have hz : plainElem (H := Unit) Tryd.prog 9 (.string ⟨#[]⟩) = some (.lit (.string []), []) := plainElem_string Tryd.underlying9 (by decide)
  go_enter Tryd.func17, Tryd.ntmps17
  go_wp2_with (at_lookup; refine wpList_lookup_own_ok _ rfl _ _ 72 rfl 9 9 keyLaw Tryd.underlying72 _ (zeroS _) (.lit (.string [])) [] hz m n D rfl hown _ _ rfl hkey ?_; intro v ps hv; have hv := valS_of hv; subst hv)
  go_ret2
  exact ⟨rfl, rfl⟩
set_option maxHeartbeats 4000000 in
set_option maxRecDepth 100000 in
theorem mclone_says (m n : Nat) (D : DataW Unit) (w : World) (h : MapAt w m n D) :
    Calls Tryd.prog 45 #[.map (some m)] w fun e w' => e = .returned (.map (some w.heap.size)) ∧ MapAt w' w.heap.size n D ∧ Below w.heap.size w w' ∧ w'.heap.size = w.heap.size + 1 := by
  obtain ⟨es, clock, hb, F, hs, hD⟩ := h
  have hq := fun w => run_eql_map_nil_sl (P := Tryd.prog) w 72 _ _ (some m) Tryd.underlying72
  go_enter Tryd.func45, Tryd.ntmps45
  go_wp2
  rw [run_callFunc_extern Tryd.func61 (by kernel_rfl) (by kernel_rfl) (by kernel_rfl) (e := Extern.MapsClone.clone) (by kernel_rfl), run_maps_clone_sl w 72 hb]
  simp only [Result.andThen]
  rw [Oper.upon_value]
  go_wp2
  rw [run_typeAssert_map_sl _ 72 20 _ _ _ Tryd.underlying72]
  simp only [Result.andThen]
  rw [Oper.upon_value]
  go_wp2
  go_ret
  have hB : Below w.heap.size w (w.alloc (.map es clock)) := (Below.refl _ w).alloc (Nat.le_refl _) _
  exact ⟨rfl, ⟨es, clock, (MapKept.heap_alloc w _).1, F, hs, hD⟩, hB, by simp⟩
/-- A map behind changes. -/
def turnD (D : DataW Unit) (l : List S49) : DataW Unit := l.foldl (fun D c => if c.f2 = true then D.del (kb c.f0) else D.put (kb c.f0) (.lit (.string c.f1.data.toList))) D
theorem turnD_take (D : DataW Unit) (l : List S49) (i : Nat) (h : i < l.length) : turnD D (l.take (i + 1)) = if (l.getD i z49).f2 = true then (turnD D (l.take i)).del (kb (l.getD i z49).f0) else (turnD D (l.take i)).put (kb (l.getD i z49).f0) (.lit (.string (l.getD i z49).f1.data.toList)) := by
  unfold turnD
  rw [List.take_add_one, List.foldl_append]
  simp [List.getD_eq_getElem?_getD, List.getElem?_eq_getElem h]
set_option maxHeartbeats 4000000 in
set_option maxRecDepth 100000 in
theorem turned_says (m n : Nat) (D : DataW Unit) (A : Option Addr) (c : Nat) (l : List S49) (w : World) (h : MapAt w m n D) (hC : Kd.C k49 w A l.length l) (hn : n + l.length < maxLen) (hk : ∀ x ∈ l, x.f0.size ≤ maxLen ∧ x.f1.size ≤ maxLen) :
    Calls Tryd.prog 32 #[.map (some m), .slice A l.length c] w fun e w' => ∃ m', e = .returned (.map (some m')) ∧ w.heap.size ≤ m' ∧ MapAt w' m' (n + l.length) (turnD D l) ∧ Below w.heap.size w w' := by
  go_enter Tryd.func32, Tryd.ntmps32
  go_wp2_with fail
  refine (mclone_says m n D w h).mono ?_
  rintro e w1 ⟨rfl, hm1, hb1, hs1⟩
  go_wp2_with fail
  go_loopw [11] (fun v11 wr => ∃ i : Nat, v11 = .int .i64 i ∧ i ≤ l.length ∧ MapAt wr w.heap.size (n + i) (turnD D (l.take i)) ∧ Below w.heap.size w wr) (fun v11 _ => l.length - (intOf v11).toNat)
  case atStart => exact ⟨0, rfl, Nat.zero_le _, by simpa [turnD] using hm1, hb1⟩
  case round =>
    obtain ⟨i, rfl, hi, hm, hb⟩ := hrel
    by_cases hlt : i < l.length
    · have d1 : decide ((i : Int) < (l.length : Int)) = true := decide_eq_true (by omega)
      have hCr := Kd.C_below hC hb
      obtain ⟨ad, rfl, hx0, hx1, hx2⟩ := at_T49 hCr (i : Int) (by omega) (by omega)
      have hstep := turnD_take D l i hlt
      have hkk := hk (l.getD i z49) (by simp [List.getD_eq_getElem?_getD, List.getElem?_eq_getElem hlt])
      have hrd : rd_T49 l (i : Int) = l.getD i z49 := by unfold rd_T49; rw [Int.toNat_natCast]
      rw [hrd] at hx0 hx1 hx2
      obtain ⟨x, hx⟩ : ∃ x, x = l.getD i z49 := ⟨_, rfl⟩
      rw [← hx] at hx0 hx1 hx2 hstep hkk
      clear hx hrd
      simp only [Int.toNat_natCast] at hx0 hx1 hx2
      have i3 : ((i : Int) < (l.length : Int)) = True := eq_true (by omega)
      have i0 : (0 ≤ (i : Int)) = True := eq_true (by omega)
      have e1 : IntKind.i64.wrap ((i : Int) + 1) = (i : Int) + 1 := IntWalk.i64_in _ (by have := hC.2.1; omega)
      have hkey : keyOf Tryd.prog 9 (.string x.f0) = some (kb x.f0) := keyOf_string_mk Tryd.underlying9 hkk.1
      have hval : plainElem (H := Unit) Tryd.prog 9 (.string x.f1) = some (.lit (.string x.f1.data.toList), []) := plainElem_string Tryd.underlying9 hkk.2
      have hown : ∀ o, (wr.alloc o).ownsMap Tryd.prog 9 (plainElem Tryd.prog 9) w.heap.size (n + i) (turnD D (l.take i)) := fun o => World.ownsMap.alloc hm o
      have hba : ∀ o, Below w.heap.size w (wr.alloc o) := fun o => below_then hb hb.size ((Below.refl _ wr).alloc (Nat.le_refl _) o)
      have Hn := Lib.hid (show n + i < maxLen by omega)
      have Hi := Lib.hid (show i + 1 ≤ l.length by omega)
      have Hst := Lib.hid hstep
      clear hstep hkk hb hm hi hlt hCr hC hk hn
      obtain ⟨f0, f1, f2⟩ := x
      cases f2 with
      | true =>
        go_wp2_with (at_delete; refine wpList_delete_own _ rfl _ _ 72 9 rfl 9 keyLaw Tryd.underlying72 _ w.heap.size (n + i) _ rfl (hown _) _ _ rfl hkey ?_; intro w2 hown2 hturn2; have hb2 := (hba _).grown (World.mapTurned.grown hturn2) (hba _).size (fun k e => by cases e; exact Nat.le_refl _))
        refine ⟨⟨i + 1, rfl, Hi, ?_, hb2⟩, ?_⟩
        · have hst := (show turnD D (l.take (i + 1)) = _ from Hst)
          rw [hst]
          exact World.ownsMap.mono hown2 (by omega)
        · have := (show i + 1 ≤ l.length from Hi); simp only [intOf]; omega
      | false =>
        go_wp2_with (at_mapUpdate; refine wpList_mapUpdate_own _ rfl _ _ _ 72 rfl 9 9 keyLaw Tryd.underlying72 _ w.heap.size (n + i) _ rfl (hown _) Hn _ _ _ rfl rfl hkey _ [] hval ?_; intro w2 hown2 hgrow2; have hb2 := (hba _).grown hgrow2 (hba _).size (fun k e => by cases e; exact Nat.le_refl _))
        refine ⟨⟨i + 1, rfl, Hi, ?_, hb2⟩, ?_⟩
        · have hst := (show turnD D (l.take (i + 1)) = _ from Hst)
          rw [hst]
          exact World.ownsMap.mono hown2 (by omega)
        · have := (show i + 1 ≤ l.length from Hi); simp only [intOf]; omega
    · have d1 : decide ((i : Int) < (l.length : Int)) = false := decide_eq_false (by omega)
      have hil : i = l.length := by omega
      subst hil
      rw [List.take_length] at hm
      go_wp2_with fail
      go_ret
      exact ⟨_, rfl, Nat.le_refl _, hm, hb⟩
end Go.Proofs.YtkmokcfnfhabgaaDoor.X
