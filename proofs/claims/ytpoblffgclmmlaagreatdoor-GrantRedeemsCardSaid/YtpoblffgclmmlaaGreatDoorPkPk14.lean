/- A part of the proof of a card: what some functions of the program come to, each under the conditions that its theorem names. -/
import Derived.Maps.OwnSet
import Derived.Maps.OwnOps
import Derived.Maps.StringElems
import Derived.Lib.Hide
import Derived.StringKeys
import Derived.Shelf.SlMaps.Clone
import Derived.Test.YtpoblffgclmmlaaGreatDoorPkPk9
import Derived.Test.YtpoblffgclmmlaaGreatDoorPkPk12
section
set_option linter.unusedVariables false
set_option linter.unusedSimpArgs false
namespace Go.Proofs.YtpoblffgclmmlaaGreatDoor.X
open Go.RowKit Go.WideMaps Go.Maps Go.Proofs.YtpoblffgclmmlaaGreatDoorW.PrintWords Go.Proofs.YtpoblffgclmmlaaGreatDoorW.PrintLast Go.Proofs.YtpoblffgclmmlaaGreatDoorW.PrintMore Go.Proofs.YtpoblffgclmmlaaGreatDoor.Q

/-- A key, as a map reads it. -/
abbrev kb (s : ByteArray) : Lit := .string s.data.toList
theorem keyLaw : Keyed Tryz.prog 9 := string_keyed Tryz.underlying9
theorem zeroS (w : World) : (zeroValue 9).run Tryz.prog w = .ok (.string ⟨#[]⟩) w := by kernel_rfl
def MapAt (W : World) (m n : Nat) (D : DataW Unit) : Prop := W.ownsMap Tryz.prog 9 (plainElem Tryz.prog 9) m n D
/-- What a map has at a key. -/
def valS (D : DataW Unit) (key : ByteArray) : ByteArray := match D.atKey (kb key) (.lit (.string [])) with | .lit (.string b) => ⟨b.toArray⟩ | _ => ⟨#[]⟩
def hasS (D : DataW Unit) (key : ByteArray) : Bool := Maps.has D (kb key)
theorem MapAt.kept {W W2 : World} {m n : Nat} {D : DataW Unit} {S : Nat → Prop} (h : MapAt W m n D) (hk : Tur W W2 S) (hne : ¬ S m) : MapAt W2 m n D := by
 obtain ⟨es, clock, hb, r⟩ := h
 exact ⟨es, clock, blk_kept hb hk.kept hne, r⟩
theorem MapAt.lt {W : World} {m n : Nat} {D : DataW Unit} (h : MapAt W m n D) : m < W.heap.size := World.ownsMap.lt h
/-- A map's block is no row. -/
theorem MapAt.ne {W : World} {m n : Nat} {D : DataW Unit} (h : MapAt W m n D) {g T : Nat} {cs : Array Value} {fz : Nat × Nat} (hb : W.heap[g]? = some (.cells cs T fz)) : m ≠ g := by
 obtain ⟨es, clock, hm, _⟩ := h
 intro e; subst e; rw [hm] at hb; cases hb
structure StoreAt (W : World) (base s t m n : Nat) (D : DataW Unit) : Prop where
 blk : W.heap[s]? = some (.cells #[.pointer (some ⟨t, 0, none⟩), .map (some m)] 125 (0, 0))
 map : MapAt W m n D
 ge : base ≤ s
 mge : base ≤ m
theorem StoreAt.kept {W W2 : World} {base s t m n : Nat} {D : DataW Unit} {S : Nat → Prop} (h : StoreAt W base s t m n D) (hk : Tur W W2 S) (hs : ¬ S s) (hm : ¬ S m) : StoreAt W2 base s t m n D :=
 ⟨blk_kept h.blk hk.kept hs, h.map.kept hk hm, h.ge, h.mge⟩
theorem valS_of {v : Value} {ps : List MemPlace} {D : DataW Unit} {key : ByteArray} (h : plainElem Tryz.prog 9 v = some (D.atKey (kb key) (.lit (.string [])), ps)) : v = .string (valS D key) := by
 obtain ⟨s, rfl, he, _⟩ := plainElem_string_inv Tryz.underlying9 h
 simp only [Prod.mk.injEq] at he
 unfold valS
 rw [he.1]
set_option maxHeartbeats 4000000 in
set_option maxRecDepth 100000 in
theorem get_says (base s t m n : Nat) (D : DataW Unit) (key : ByteArray) (hk : key.size ≤ maxLen) (w : World) (h : StoreAt w base s t m n D) :
  Calls Tryz.prog 79 #[.pointer (some ⟨s, 0, none⟩), .string key] w fun e w' => e = .returned (.tuple #[.string (valS D key), .bool (hasS D key)]) ∧ w' = w := by
 have c1 := blk_cell h.blk 1
 have hown : w.ownsMap Tryz.prog 9 (plainElem Tryz.prog 9) m n D := h.map
 have hkey : keyOf Tryz.prog 9 (.string key) = some (kb key) := keyOf_string_mk Tryz.underlying9 hk
 have hz : plainElem (H := Unit) Tryz.prog 9 (.string ⟨#[]⟩) = some (.lit (.string []), []) := plainElem_string Tryz.underlying9 (by decide)
 go_enter Tryz.func79, Tryz.ntmps79
 go_wp2_with (at_lookup; refine wpList_lookup_own_ok _ rfl _ _ 123 rfl 9 9 keyLaw Tryz.underlying123 _ (zeroS _) (.lit (.string [])) [] hz m n D rfl hown _ _ rfl hkey ?_; intro v ps hv; have hv := valS_of hv; subst hv)
 go_ret2
 exact ⟨rfl, rfl⟩
set_option maxHeartbeats 4000000 in
set_option maxRecDepth 100000 in
theorem mclone_says (m n : Nat) (D : DataW Unit) (w : World) (h : MapAt w m n D) :
  Calls Tryz.prog 128 #[.map (some m)] w fun e w' => e = .returned (.map (some w.heap.size)) ∧ MapAt w' w.heap.size n D ∧ Below w.heap.size w w' ∧ w'.heap.size = w.heap.size + 1 := by
 obtain ⟨es, clock, hb, F, hs, hD⟩ := h
 have hq := fun w => run_eql_map_nil_sl (P := Tryz.prog) w 123 _ _ (some m) Tryz.underlying123
 go_enter Tryz.func128, Tryz.ntmps128
 go_wp2
 rw [run_callFunc_extern Tryz.func161 (by kernel_rfl) (by kernel_rfl) (by kernel_rfl) (e := Extern.MapsClone.clone) (by kernel_rfl), run_maps_clone_sl w 123 hb]
 simp only [Result.andThen]
 rw [Oper.upon_value]
 go_wp2
 rw [run_typeAssert_map_sl _ 123 20 _ _ _ Tryz.underlying123]
 simp only [Result.andThen]
 rw [Oper.upon_value]
 go_wp2
 go_ret
 have hB : Below w.heap.size w (w.alloc (.map es clock)) := (Below.refl _ w).alloc (Nat.le_refl _) _
 exact ⟨rfl, ⟨es, clock, (MapKept.heap_alloc w _).1, F, hs, hD⟩, hB, by simp⟩
/-- A map behind changes. -/
def turnD (D : DataW Unit) (l : List S69) : DataW Unit := l.foldl (fun D c => if c.f2 = true then D.del (kb c.f0) else D.put (kb c.f0) (.lit (.string c.f1.data.toList))) D
theorem turnD_take (D : DataW Unit) (l : List S69) (i : Nat) (h : i < l.length) : turnD D (l.take (i + 1)) = if (l.getD i z69).f2 = true then (turnD D (l.take i)).del (kb (l.getD i z69).f0) else (turnD D (l.take i)).put (kb (l.getD i z69).f0) (.lit (.string (l.getD i z69).f1.data.toList)) := by
 unfold turnD
 rw [List.take_add_one, List.foldl_append]
 simp [List.getD_eq_getElem?_getD, List.getElem?_eq_getElem h]
set_option maxHeartbeats 4000000 in
set_option maxRecDepth 100000 in
theorem turned_says (m n : Nat) (D : DataW Unit) (A : Option Addr) (c : Nat) (l : List S69) (w : World) (h : MapAt w m n D) (hC : Kd.C k69 w A l.length l) (hn : n + l.length < maxLen) (hk : ∀ x ∈ l, x.f0.size ≤ maxLen ∧ x.f1.size ≤ maxLen) :
  Calls Tryz.prog 82 #[.map (some m), .slice A l.length c] w fun e w' => ∃ m', e = .returned (.map (some m')) ∧ w.heap.size ≤ m' ∧ MapAt w' m' (n + l.length) (turnD D l) ∧ Below w.heap.size w w' := by
 go_enter Tryz.func82, Tryz.ntmps82
 go_wp2_with fail
 refine (mclone_says m n D w h).mono ?_
 rintro e w1 ⟨rfl, hm1, hb1, hs1⟩
 go_wp2_with fail
 go_loopw [11] (fun v11 wr => ∃ i : Nat, v11 = .int .i64 i ∧ i ≤ l.length ∧ MapAt wr w.heap.size (n + i) (turnD D (l.take i)) ∧ Below w.heap.size w wr) (fun v11 _ => l.length - (intOf v11).toNat)
 case atStart => exact ⟨0, rfl, Nat.zero_le _, by simpa [turnD] using hm1, hb1⟩
 case round =>
  obtain ⟨i, rfl, hi, hm, hb⟩ := hrel
  by_cases hlt : i < l.length
  ·
   have d1 : decide ((i : Int) < (l.length : Int)) = true := decide_eq_true (by omega)
   have hCr := Kd.C_below hC hb
   obtain ⟨ad, rfl, hx0, hx1, hx2⟩ := at_T69 hCr (i : Int) (by omega) (by omega)
   have hstep := turnD_take D l i hlt
   have hkk := hk (l.getD i z69) (by simp [List.getD_eq_getElem?_getD, List.getElem?_eq_getElem hlt])
   have hrd : rd_T69 l (i : Int) = l.getD i z69 := by unfold rd_T69; rw [Int.toNat_natCast]
   rw [hrd] at hx0 hx1 hx2
   obtain ⟨x, hx⟩ : ∃ x, x = l.getD i z69 := ⟨_, rfl⟩
   rw [← hx] at hx0 hx1 hx2 hstep hkk
   clear hx hrd
   simp only [Int.toNat_natCast] at hx0 hx1 hx2
   have i3 : ((i : Int) < (l.length : Int)) = True := eq_true (by omega)
   have i0 : (0 ≤ (i : Int)) = True := eq_true (by omega)
   have e1 : IntKind.i64.wrap ((i : Int) + 1) = (i : Int) + 1 := IntWalk.i64_in _ (by have := hC.2.1; omega)
   have hkey : keyOf Tryz.prog 9 (.string x.f0) = some (kb x.f0) := keyOf_string_mk Tryz.underlying9 hkk.1
   have hval : plainElem (H := Unit) Tryz.prog 9 (.string x.f1) = some (.lit (.string x.f1.data.toList), []) := plainElem_string Tryz.underlying9 hkk.2
   have hown : ∀ o, (wr.alloc o).ownsMap Tryz.prog 9 (plainElem Tryz.prog 9) w.heap.size (n + i) (turnD D (l.take i)) := fun o => World.ownsMap.alloc hm o
   have hba : ∀ o, Below w.heap.size w (wr.alloc o) := fun o => below_then hb hb.size ((Below.refl _ wr).alloc (Nat.le_refl _) o)
   have Hn := Lib.hid (show n + i < maxLen by omega)
   have Hi := Lib.hid (show i + 1 ≤ l.length by omega)
   have Hst := Lib.hid hstep
   clear hstep hkk hb hm hi hlt hCr hC hk hn
   obtain ⟨f0, f1, f2⟩ := x
   cases f2 with
   | true =>
    go_wp2_with (at_delete; refine wpList_delete_own _ rfl _ _ 123 9 rfl 9 keyLaw Tryz.underlying123 _ w.heap.size (n + i) _ rfl (hown _) _ _ rfl hkey ?_; intro w2 hown2 hturn2; have hb2 := (hba _).grown (World.mapTurned.grown hturn2) (hba _).size (fun k e => by cases e; exact Nat.le_refl _))
    refine ⟨⟨i + 1, rfl, Hi, ?_, hb2⟩, ?_⟩
    ·
     have hst := (show turnD D (l.take (i + 1)) = _ from Hst)
     rw [hst]
     exact World.ownsMap.mono hown2 (by omega)
    ·
     have := (show i + 1 ≤ l.length from Hi); simp only [intOf]; omega
   | false =>
    go_wp2_with (at_mapUpdate; refine wpList_mapUpdate_own _ rfl _ _ _ 123 rfl 9 9 keyLaw Tryz.underlying123 _ w.heap.size (n + i) _ rfl (hown _) Hn _ _ _ rfl rfl hkey _ [] hval ?_; intro w2 hown2 hgrow2; have hb2 := (hba _).grown hgrow2 (hba _).size (fun k e => by cases e; exact Nat.le_refl _))
    refine ⟨⟨i + 1, rfl, Hi, ?_, hb2⟩, ?_⟩
    ·
     have hst := (show turnD D (l.take (i + 1)) = _ from Hst)
     rw [hst]
     exact World.ownsMap.mono hown2 (by omega)
    ·
     have := (show i + 1 ≤ l.length from Hi); simp only [intOf]; omega
  ·
   have d1 : decide ((i : Int) < (l.length : Int)) = false := decide_eq_false (by omega)
   have hil : i = l.length := by omega
   subst hil
   rw [List.take_length] at hm
   go_wp2_with fail
   go_ret
   exact ⟨_, rfl, Nat.le_refl _, hm, hb⟩
end Go.Proofs.YtpoblffgclmmlaaGreatDoor.X
end
section
set_option linter.unusedVariables false
set_option linter.unusedSimpArgs false
namespace Go.Proofs.YtpoblffgclmmlaaGreatDoor.X
open Go.RowKit Go.Proofs.YtpoblffgclmmlaaGreatDoorW.PrintWords Go.Proofs.YtpoblffgclmmlaaGreatDoorW.PrintLast Go.Proofs.YtpoblffgclmmlaaGreatDoorW.PrintMore Go.Proofs.YtpoblffgclmmlaaGreatDoor.Q

/-- A change as bytes. -/
def chgL (c : S69) : List Int := four (if c.f2 = true then 1 else 0) ++ four (c.f0.size : Int) ++ bytesOf c.f0 ++ four (if c.f2 = true then 0 else (c.f1.size : Int)) ++ (if c.f2 = true then [] else bytesOf c.f1)
/-- Changes as bytes. -/
def recL (l : List S69) : List Int := four (l.length : Int) ++ l.flatMap chgL
theorem recL_take (l : List S69) (i : Nat) (h : i < l.length) : (l.take (i + 1)).flatMap chgL = (l.take i).flatMap chgL ++ chgL (l.getD i z69) := by
 rw [List.take_add_one, List.flatMap_append]
 simp [List.getD_eq_getElem?_getD, List.getElem?_eq_getElem h]
theorem number_says (P0 : Nat → Prop) (v : Value) (l0 : List Int) (a1 : Int) (w0 w : World) (hB : Below w0.heap.size w0 w) (ho : Kd.R (Kd.int .u8) 5 w w0.heap.size P0 v l0) (ha : 0 ≤ a1 ∧ a1 < 4294967296) (hl : l0.length + 4 < 140737488355328) :
  Calls Tryz.prog 134 #[v, .int .i64 a1] w fun e w' => ∃ v', e = .returned v' ∧ Kd.R (Kd.int .u8) 5 w' w0.heap.size (fun k => P0 k ∨ w.heap.size ≤ k) v' (l0 ++ four a1) ∧ Below w0.heap.size w0 w' ∧ Kept w w' P0 := by
 have hf : store_number.f l0 a1 = some (l0 ++ four a1) := by
  unfold store_number.f
  rw [show a1 % 4294967296 = a1 by omega, put_is l0 a1 hl, Option.bind_some]
 exact store_number.calls P0 v l0 a1 _ w0 w hB ho hf
theorem chgL_len (c : S69) : (chgL c).length = 12 + c.f0.size + (if c.f2 = true then 0 else c.f1.size) := by
 unfold chgL
 cases c.f2 <;> simp [bytesOf_length, four] <;> omega
theorem recL_len (l : List S69) (i : Nat) : (four (l.length : Int) ++ (l.take i).flatMap chgL).length ≤ (recL l).length := by
 unfold recL
 rw [List.length_append, List.length_append]
 have : (l.flatMap chgL).length = ((l.take i).flatMap chgL).length + ((l.drop i).flatMap chgL).length := by rw [← List.length_append, ← List.flatMap_append, List.take_append_drop]
 omega
set_option maxHeartbeats 8000000 in
set_option maxRecDepth 100000 in
theorem record_says (A : Option Addr) (c : Nat) (l : List S69) (w : World) (hC : Kd.C k69 w A l.length l) (hl : (recL l).length ≤ 1000000000) :
  Calls Tryz.prog 88 #[.slice A l.length c] w fun e w' => ∃ v, e = .returned v ∧ Kd.R (Kd.int .u8) 5 w' w.heap.size (fun _ => True) v (recL l) ∧ Below w.heap.size w w' := by
 go_enter Tryz.func88, Tryz.ntmps88
 go_wp2_with fail
 have hln : l.length ≤ 1000000000 := by
  have h1 : ∀ (l : List S69), l.length ≤ (l.flatMap chgL).length := by
   intro l
   induction l with
   | nil => simp
   | cons x r ih => rw [List.flatMap_cons, List.length_append, chgL_len, List.length_cons]; omega
  have := h1 l
  unfold recL at hl
  rw [List.length_append] at hl
  omega
 refine (number_says (fun _ => True) (.slice none 0 0) [] (l.length : Int) w w (Below.refl _ _) (Kd.R_nil _ _ _ _ _) (by omega) (by rw [List.length_nil]; omega)).mono ?_
 rintro e w1 ⟨v1, rfl, hr1, hb1, _⟩
 have hr1 := Kd.R_mono (ok' := fun _ => True) hr1 (fun _ _ => trivial)
 rw [List.nil_append] at hr1
 go_wp2_with fail
 go_loopw [3, 12] (fun v3 v12 wr => ∃ i : Nat, v12 = .int .i64 i ∧ i ≤ l.length ∧ Kd.R (Kd.int .u8) 5 wr w.heap.size (fun _ => True) v3 (four (l.length : Int) ++ (l.take i).flatMap chgL) ∧ Below w.heap.size w wr) (fun _ v12 _ => l.length - (intOf v12).toNat)
 case atStart => exact ⟨0, rfl, Nat.zero_le _, by simpa using hr1, hb1⟩
 case round =>
  obtain ⟨i, rfl, hi, hr, hb⟩ := hrel
  by_cases hlt : i < l.length
  ·
   have d1 : decide ((i : Int) < (l.length : Int)) = true := decide_eq_true (by omega)
   have hCr := Kd.C_below hC hb
   obtain ⟨ad, rfl, hx0, hx1, hx2⟩ := at_T69 hCr (i : Int) (by omega) (by omega)
   have hstep := recL_take l i hlt
   have hrl := recL_len l (i + 1)
   have hrd : rd_T69 l (i : Int) = l.getD i z69 := by unfold rd_T69; rw [Int.toNat_natCast]
   rw [hrd] at hx0 hx1 hx2
   obtain ⟨x, hx⟩ : ∃ x, x = l.getD i z69 := ⟨_, rfl⟩
   rw [← hx] at hx0 hx1 hx2 hstep
   clear hx hrd
   simp only [Int.toNat_natCast] at hx0 hx1 hx2
   have i3 : ((i : Int) < (l.length : Int)) = True := eq_true (by omega)
   have i0 : (0 ≤ (i : Int)) = True := eq_true (by omega)
   have e1 : IntKind.i64.wrap ((i : Int) + 1) = (i : Int) + 1 := IntWalk.i64_in _ (by have := hC.2.1; omega)
   rw [hstep, ← List.append_assoc, List.length_append, chgL_len] at hrl
   obtain ⟨xs, hxs⟩ : ∃ xs, xs = four (l.length : Int) ++ (l.take i).flatMap chgL := ⟨_, rfl⟩
   rw [← hxs] at hr hrl
   have Hfin := Lib.hid (show four (l.length : Int) ++ (l.take (i + 1)).flatMap chgL = xs ++ chgL x by rw [hstep, hxs, List.append_assoc])
   have Hi := Lib.hid (show i + 1 ≤ l.length by omega)
   obtain ⟨f0, f1, f2⟩ := x
   simp only at hrl
   have L0 := Lib.hid (show xs.length + 12 + f0.size + (if f2 = true then 0 else f1.size) ≤ 1000000000 by omega)
   clear hxs hstep hrl hlt hCr hi hl hln hr1 hb1
   cases f2 with
   | true =>
-- [T
    go_wp2_with fail
    refine wp_world ?_
    intro w7 hw7
    have hg7 : w7.drew.heap[wr.heap.size]? = some (.cells #[.string f0, .string ⟨#[]⟩, .bool true] 69 (0, 0)) := by rw [hw7]; exact heap_alloc_new wr _
    have hb7 : Below w.heap.size w w7.drew := by rw [hw7]; exact below_drew (below_then hb hb.size ((Below.refl _ wr).alloc (Nat.le_refl _) _))
    have hr7 : Kd.R (Kd.int .u8) 5 w7.drew w.heap.size (fun k => k ≠ wr.heap.size) u3 xs := by rw [hw7]; exact Kd.R_drew (Kd.R_alloc (Kd.R_mono (Kd.R_elderB hr wr.heap.size (Nat.le_refl _)) (fun _ h => h.2)) _)
    clear hw7 hr hb
    have L0 : xs.length + 12 + f0.size + 0 ≤ 1000000000 := L0
    have K1 := Lib.hid (show xs.length + 4 < 140737488355328 by omega)
    have K2 := Lib.hid (show (xs ++ four 1).length + 4 < 140737488355328 by rw [List.length_append]; show xs.length + 4 + 4 < _; omega)
    have K3 := Lib.hid (show (xs ++ four 1 ++ four (f0.size : Int)).length + f0.size ≤ 140737488355328 by rw [List.length_append, List.length_append]; show xs.length + 4 + 4 + _ ≤ _; omega)
    have N1 : 0 ≤ (1 : Int) ∧ (1 : Int) < 4294967296 := by omega
    have N2 : 0 ≤ (f0.size : Int) ∧ (f0.size : Int) < 4294967296 := by omega
    have N3 : 0 ≤ (0 : Int) ∧ (0 : Int) < 4294967296 := by omega
    have L1 := Lib.hid L0
    clear L0
    refine start_ (n := 11) (S := fun w' => w'.heap[wr.heap.size]? = some (.cells #[.string f0, .string ⟨#[]⟩, .bool true] 69 (0, 0)) ∧ w'.cell? ⟨wr.heap.size, 0, none⟩ = some (.string f0) ∧ w'.cell? ⟨wr.heap.size, 1, none⟩ = some (.string ⟨#[]⟩)) (ds := []) #[false, false, false, false, false, false, false, false, false, false, false] (by kernel_rfl) rfl rfl ⟨hg7, blk_cell hg7 0, blk_cell hg7 1⟩ (fun hHeld => ?_)
    generalize w7.drew = w7 at hg7 hb7 hr7 hHeld ⊢
    refine pure_ (i := 0) (N := some 19) (v := ?_) (a' := ?_) #[true, false, false, false, false, false, false, false, false, false, false] rfl rfl (by kernel_rfl) (fun _ _ _ h => h) (Or.inl ⟨by rfl, ?_⟩) ?_ ?_
    rotate_left
    ·
     intro w'
     go_simp
     with_reducible rfl
    rotate_left
    ·
     simp only [Act.put, List.setIfInBounds_toArray, List.set_cons_zero, List.set_cons_succ, i64_w, i32_w]
     rfl
    refine pure_ (i := 1) (N := some 20) (v := ?_) (a' := ?_) #[true, true, false, false, false, false, false, false, false, false, false] rfl rfl (by kernel_rfl) (fun _ _ _ h => h) (Or.inl ⟨by rfl, ?_⟩) ?_ ?_
    rotate_left
    ·
     intro w'
     go_simp
     with_reducible rfl
    rotate_left
    ·
     simp only [Act.put, List.setIfInBounds_toArray, List.set_cons_zero, List.set_cons_succ, i64_w, i32_w]
     rfl
    refine pure_ (i := 3) (N := some 22) (v := ?_) (a' := ?_) #[true, true, false, true, false, false, false, false, false, false, false] rfl rfl (by kernel_rfl) (fun _ _ _ h => h) (Or.inl ⟨by rfl, ?_⟩) ?_ ?_
    rotate_left
    ·
     intro w'
     go_simp
     with_reducible rfl
    rotate_left
    ·
     simp only [Act.put, List.setIfInBounds_toArray, List.set_cons_zero, List.set_cons_succ, i64_w, i32_w]
     rfl
    refine pure_ (i := 7) (N := some 26) (v := ?_) (a' := ?_) #[true, true, false, true, false, false, false, true, false, false, false] rfl rfl (by kernel_rfl) (fun _ _ _ h => h) (Or.inl ⟨by rfl, ?_⟩) ?_ ?_
    rotate_left
    ·
     intro w'
     go_simp
     with_reducible rfl
    rotate_left
    ·
     simp only [Act.put, List.setIfInBounds_toArray, List.set_cons_zero, List.set_cons_succ, i64_w, i32_w]
     rfl
    refine take_ (i := 4) (N := some 23) (v := ?_) (a' := ?_) #[true, true, false, true, true, false, false, true, false, false, false] rfl rfl (by kernel_rfl) (fun _ _ _ h => h) (Or.inl ⟨by rfl, ?_⟩) hHeld ?_ ?_
    rotate_left
    ·
     rintro w' ⟨s0, s1, s2⟩
     go_simp
     with_reducible rfl
    rotate_left
    ·
     simp only [Act.put, List.setIfInBounds_toArray, List.set_cons_zero, List.set_cons_succ, i64_w, i32_w]
     rfl
    refine pure_ (i := 5) (N := some 24) (v := ?_) (a' := ?_) #[true, true, false, true, true, true, false, true, false, false, false] rfl rfl (by kernel_rfl) (fun _ _ _ h => h) (Or.inl ⟨by rfl, ?_⟩) ?_ ?_
    rotate_left
    ·
     intro w'
     go_simp
     with_reducible rfl
    rotate_left
    ·
     simp only [Act.put, List.setIfInBounds_toArray, List.set_cons_zero, List.set_cons_succ, i64_w, i32_w]
     rfl
    refine take_ (i := 8) (N := some 27) (v := ?_) (a' := ?_) #[true, true, false, true, true, true, false, true, true, false, false] rfl rfl (by kernel_rfl) (fun _ _ _ h => h) (Or.inl ⟨by rfl, ?_⟩) hHeld ?_ ?_
    rotate_left
    ·
     rintro w' ⟨s0, s1, s2⟩
     go_simp
     with_reducible rfl
    rotate_left
    ·
     simp only [Act.put, List.setIfInBounds_toArray, List.set_cons_zero, List.set_cons_succ, i64_w, i32_w]
     rfl
    refine one_ (i := 2) (N := some 21) #[true, true, true, true, true, true, false, true, true, false, false] rfl rfl (by kernel_rfl) (by decide) (fun K hK => ?_)
    refine goes_ Tryz.func134 (by kernel_rfl) rfl #[u3, .int .i64 1] (by rfl) rfl rfl (by simp only [List.map_toArray, List.map_cons, List.map_nil]; rfl) ?_
    refine (number_says (fun k => k ≠ wr.heap.size) u3 (xs) 1 w w7 hb7 hr7 N1 K1).mono ?_
    rintro e w8 ⟨v8, rfl, hr8, hb8, hk8⟩
    refine ⟨_, rfl, ?_⟩
    have hg8 := blk_kept hg7 hk8 (fun h => h rfl)
    have hr8 := Kd.R_mono (ok' := fun k => k ≠ wr.heap.size) hr8 (fun k hk => hk.elim id (fun h => by have := blk_lt hg7; omega))
    refine hK.out _ _ ⟨hg8, blk_cell hg8 0, blk_cell hg8 1⟩ (fun hHeld => ?_)
    clear hK K
    refine norm_ (a' := ?_) ?_ ?_
    rotate_left
    ·
     show Act.put _ (some 21) _ = _
     simp only [Act.put, List.setIfInBounds_toArray, List.set_cons_zero, List.set_cons_succ, i64_w, i32_w]
     rfl
    refine one_ (i := 6) (N := some 25) #[true, true, true, true, true, true, true, true, true, false, false] rfl rfl (by kernel_rfl) (by decide) (fun K hK => ?_)
    refine goes_ Tryz.func134 (by kernel_rfl) rfl #[v8, .int .i64 (f0.size : Int)] (by rfl) rfl rfl (by simp only [List.map_toArray, List.map_cons, List.map_nil]; rfl) ?_
    refine (number_says (fun k => k ≠ wr.heap.size) v8 (xs ++ four 1) (f0.size : Int) w w8 hb8 hr8 N2 K2).mono ?_
    rintro e w9 ⟨v9, rfl, hr9, hb9, hk9⟩
    refine ⟨_, rfl, ?_⟩
    have hg9 := blk_kept hg8 hk9 (fun h => h rfl)
    have hr9 := Kd.R_mono (ok' := fun k => k ≠ wr.heap.size) hr9 (fun k hk => hk.elim id (fun h => by have := blk_lt hg8; omega))
    refine hK.out _ _ ⟨hg9, blk_cell hg9 0, blk_cell hg9 1⟩ (fun hHeld => ?_)
    clear hK K
    refine norm_ (a' := ?_) ?_ ?_
    rotate_left
    ·
     show Act.put _ (some 25) _ = _
     simp only [Act.put, List.setIfInBounds_toArray, List.set_cons_zero, List.set_cons_succ, i64_w, i32_w]
     rfl
    refine one_ (i := 9) (N := some 28) #[true, true, true, true, true, true, true, true, true, true, false] rfl rfl (by kernel_rfl) (by decide) (fun K hK => ?_)
    refine append_str_step (W := w9) w.heap.size ?hw (.tmp 25) (.tmp 27) 40 9 5 rfl Tryz.underlying40 Tryz.underlying9 (show (Tryz.prog.info? 5).map (fun i => (i.zero, i.size, i.bytes)) = some (some (.int .u8 0), 1, 1) by kernel_rfl) v9 (xs ++ four 1 ++ four (f0.size : Int)) f0 rfl rfl hr9 hb9.size K3 ?_
    (case hw => rfl)
    intro v10 w10 hr10 hgw10
    obtain ⟨ys10, hys10⟩ : ∃ ys, ys = xs ++ four 1 ++ four (f0.size : Int) ++ bytesOf f0 := ⟨_, rfl⟩
    rw [← hys10] at hr10
    have Hys10 := Lib.hid hys10
    clear hys10
    obtain ⟨Aq10, cq10, eq10⟩ := Kd.R_slice hr10
    subst eq10
    have hg10 := blk_grown hg9 hgw10 (fun e => absurd rfl (hr9.1 _ e.symm))
    have hb10 := hb9.grown hgw10 hb9.size (fun k e => Kd.R_base hr9 k e)
    refine hK.out _ _ ⟨hg10, blk_cell hg10 0, blk_cell hg10 1⟩ (fun hHeld => ?_)
    clear hK K
    refine norm_ (a' := ?_) ?_ ?_
    rotate_left
    ·
     show Act.put _ (some 28) _ = _
     simp only [Act.put, List.setIfInBounds_toArray, List.set_cons_zero, List.set_cons_succ, i64_w, i32_w]
     rfl
    refine pure_ (i := 10) (N := some 3) (v := ?_) (a' := ?_) #[true, true, true, true, true, true, true, true, true, true, true] rfl rfl (by kernel_rfl) (fun _ _ _ h => h) (Or.inl ⟨by rfl, ?_⟩) ?_ ?_
    rotate_left
    ·
     intro w'
     go_simp
     with_reducible rfl
    rotate_left
    ·
     simp only [Act.put, List.setIfInBounds_toArray, List.set_cons_zero, List.set_cons_succ, i64_w, i32_w]
     rfl
    refine done_ (by kernel_rfl) ?_
    go_wp2_with fail
    have hyl : ys10.length = xs.length + 8 + f0.size := by rw [(show ys10 = xs ++ four 1 ++ four (f0.size : Int) ++ bytesOf f0 from Hys10), List.length_append, List.length_append, List.length_append, bytesOf_length]; rfl
    have L0 : xs.length + 12 + f0.size + 0 ≤ 1000000000 := L1
    have K4 := Lib.hid (show ys10.length + 4 < 140737488355328 by omega)
    have K5 := Lib.hid (show (ys10 ++ four (0 : Int)).length + (⟨#[]⟩ : ByteArray).size ≤ 140737488355328 by rw [List.length_append]; show ys10.length + 4 + 0 ≤ _; omega)
    clear hyl L0
    have hr11 : Kd.R (Kd.int .u8) 5 w10.drew w.heap.size (fun k => k ≠ wr.heap.size) _ ys10 := Kd.R_drew (R_own_ok hr10 (fun k hk => by obtain ⟨cs, hc⟩ := Kd.R_typed hr10 k hk; exact blk_ne hc hg10 (by decide)))
    have hb11 : Below w.heap.size w w10.drew := below_drew hb10
    have hg11 : w10.drew.heap[wr.heap.size]? = _ := hg10
    refine start_ (n := 9) (S := fun w' => w'.heap[wr.heap.size]? = some (.cells #[.string f0, .string ⟨#[]⟩, .bool true] 69 (0, 0)) ∧ w'.cell? ⟨wr.heap.size, 0, none⟩ = some (.string f0) ∧ w'.cell? ⟨wr.heap.size, 1, none⟩ = some (.string ⟨#[]⟩)) (ds := []) #[false, false, false, false, false, false, false, false, false] (by kernel_rfl) rfl rfl ⟨hg11, blk_cell hg11 0, blk_cell hg11 1⟩ (fun hHeld => ?_)
    generalize w10.drew = w11 at hg11 hb11 hr11 hHeld ⊢
    refine pure_ (i := 0) (N := some 29) (v := ?_) (a' := ?_) #[true, false, false, false, false, false, false, false, false] rfl rfl (by kernel_rfl) (fun _ _ _ h => h) (Or.inl ⟨by rfl, ?_⟩) ?_ ?_
    rotate_left
    ·
     intro w'
     go_simp
     with_reducible rfl
    rotate_left
    ·
     simp only [Act.put, List.setIfInBounds_toArray, List.set_cons_zero, List.set_cons_succ, i64_w, i32_w]
     rfl
    refine pure_ (i := 1) (N := some 30) (v := ?_) (a' := ?_) #[true, true, false, false, false, false, false, false, false] rfl rfl (by kernel_rfl) (fun _ _ _ h => h) (Or.inl ⟨by rfl, ?_⟩) ?_ ?_
    rotate_left
    ·
     intro w'
     go_simp
     with_reducible rfl
    rotate_left
    ·
     simp only [Act.put, List.setIfInBounds_toArray, List.set_cons_zero, List.set_cons_succ, i64_w, i32_w]
     rfl
    refine pure_ (i := 5) (N := some 34) (v := ?_) (a' := ?_) #[true, true, false, false, false, true, false, false, false] rfl rfl (by kernel_rfl) (fun _ _ _ h => h) (Or.inl ⟨by rfl, ?_⟩) ?_ ?_
    rotate_left
    ·
     intro w'
     go_simp
     with_reducible rfl
    rotate_left
    ·
     simp only [Act.put, List.setIfInBounds_toArray, List.set_cons_zero, List.set_cons_succ, i64_w, i32_w]
     rfl
    refine take_ (i := 2) (N := some 31) (v := ?_) (a' := ?_) #[true, true, true, false, false, true, false, false, false] rfl rfl (by kernel_rfl) (fun _ _ _ h => h) (Or.inl ⟨by rfl, ?_⟩) hHeld ?_ ?_
    rotate_left
    ·
     rintro w' ⟨s0, s1, s2⟩
     go_simp
     with_reducible rfl
    rotate_left
    ·
     simp only [Act.put, List.setIfInBounds_toArray, List.set_cons_zero, List.set_cons_succ, i64_w, i32_w]
     rfl
    refine pure_ (i := 3) (N := some 32) (v := ?_) (a' := ?_) #[true, true, true, true, false, true, false, false, false] rfl rfl (by kernel_rfl) (fun _ _ _ h => h) (Or.inl ⟨by rfl, ?_⟩) ?_ ?_
    rotate_left
    ·
     intro w'
     go_simp
     with_reducible rfl
    rotate_left
    ·
     simp only [Act.put, List.setIfInBounds_toArray, List.set_cons_zero, List.set_cons_succ, i64_w, i32_w]
     rfl
    refine take_ (i := 6) (N := some 35) (v := ?_) (a' := ?_) #[true, true, true, true, false, true, true, false, false] rfl rfl (by kernel_rfl) (fun _ _ _ h => h) (Or.inl ⟨by rfl, ?_⟩) hHeld ?_ ?_
    rotate_left
    ·
     rintro w' ⟨s0, s1, s2⟩
     go_simp
     with_reducible rfl
    rotate_left
    ·
     simp only [Act.put, List.setIfInBounds_toArray, List.set_cons_zero, List.set_cons_succ, i64_w, i32_w]
     rfl
    refine one_ (i := 4) (N := some 33) #[true, true, true, true, true, true, true, false, false] rfl rfl (by kernel_rfl) (by decide) (fun K hK => ?_)
    refine goes_ Tryz.func134 (by kernel_rfl) rfl #[(.slice Aq10 ys10.length cq10), .int .i64 (0 : Int)] (by rfl) rfl rfl (by simp only [List.map_toArray, List.map_cons, List.map_nil]; rfl) ?_
    refine (number_says (fun k => k ≠ wr.heap.size) (.slice Aq10 ys10.length cq10) (ys10) (0 : Int) w w11 hb11 hr11 N3 K4).mono ?_
    rintro e w12 ⟨v12, rfl, hr12, hb12, hk12⟩
    refine ⟨_, rfl, ?_⟩
    have hg12 := blk_kept hg11 hk12 (fun h => h rfl)
    have hr12 := Kd.R_mono (ok' := fun k => k ≠ wr.heap.size) hr12 (fun k hk => hk.elim id (fun h => by have := blk_lt hg11; omega))
    refine hK.out _ _ ⟨hg12, blk_cell hg12 0, blk_cell hg12 1⟩ (fun hHeld => ?_)
    clear hK K
    refine norm_ (a' := ?_) ?_ ?_
    rotate_left
    ·
     show Act.put _ (some 33) _ = _
     simp only [Act.put, List.setIfInBounds_toArray, List.set_cons_zero, List.set_cons_succ, i64_w, i32_w]
     rfl
    refine one_ (i := 7) (N := some 36) #[true, true, true, true, true, true, true, true, false] rfl rfl (by kernel_rfl) (by decide) (fun K hK => ?_)
    refine append_str_step (W := w12) w.heap.size ?hw (.tmp 33) (.tmp 35) 40 9 5 rfl Tryz.underlying40 Tryz.underlying9 (show (Tryz.prog.info? 5).map (fun i => (i.zero, i.size, i.bytes)) = some (some (.int .u8 0), 1, 1) by kernel_rfl) v12 (ys10 ++ four (0 : Int)) ⟨#[]⟩ rfl rfl hr12 hb12.size K5 ?_
    (case hw => rfl)
    intro v13 w13 hr13 hgw13
    obtain ⟨ys13, hys13⟩ : ∃ ys, ys = ys10 ++ four (0 : Int) ++ bytesOf ⟨#[]⟩ := ⟨_, rfl⟩
    rw [← hys13] at hr13
    have Hys13 := Lib.hid hys13
    clear hys13
    obtain ⟨Aq13, cq13, eq13⟩ := Kd.R_slice hr13
    subst eq13
    have hg13 := blk_grown hg12 hgw13 (fun e => absurd rfl (hr12.1 _ e.symm))
    have hb13 := hb12.grown hgw13 hb12.size (fun k e => Kd.R_base hr12 k e)
    refine hK.out _ _ ⟨hg13, blk_cell hg13 0, blk_cell hg13 1⟩ (fun hHeld => ?_)
    clear hK K
    refine norm_ (a' := ?_) ?_ ?_
    rotate_left
    ·
     show Act.put _ (some 36) _ = _
     simp only [Act.put, List.setIfInBounds_toArray, List.set_cons_zero, List.set_cons_succ, i64_w, i32_w]
     rfl
    refine pure_ (i := 8) (N := some 3) (v := ?_) (a' := ?_) #[true, true, true, true, true, true, true, true, true] rfl rfl (by kernel_rfl) (fun _ _ _ h => h) (Or.inl ⟨by rfl, ?_⟩) ?_ ?_
    rotate_left
    ·
     intro w'
     go_simp
     with_reducible rfl
    rotate_left
    ·
     simp only [Act.put, List.setIfInBounds_toArray, List.set_cons_zero, List.set_cons_succ, i64_w, i32_w]
     rfl
    refine done_ (by kernel_rfl) ?_
    go_wp2_with fail
    refine ⟨⟨i + 1, rfl, Hi, ?_, hb13⟩, ?_⟩
    ·
     rw [(show four (l.length : Int) ++ (l.take (i + 1)).flatMap chgL = xs ++ chgL _ from Hfin)]
     have e : xs ++ chgL ⟨f0, f1, true⟩ = ys13 := by rw [(show ys13 = _ from Hys13), (show ys10 = _ from Hys10)]; simp [chgL, bytesOf]
     rw [e]
     exact hr13
    ·
     have := (show i + 1 ≤ l.length from Hi); simp only [intOf]; omega
-- T]
   | false =>
-- [F
    go_wp2_with fail
    refine wp_world ?_
    intro w7 hw7
    have hg7 : w7.drew.heap[wr.heap.size]? = some (.cells #[.string f0, .string f1, .bool false] 69 (0, 0)) := by rw [hw7]; exact heap_alloc_new wr _
    have hb7 : Below w.heap.size w w7.drew := by rw [hw7]; exact below_drew (below_then hb hb.size ((Below.refl _ wr).alloc (Nat.le_refl _) _))
    have hr7 : Kd.R (Kd.int .u8) 5 w7.drew w.heap.size (fun k => k ≠ wr.heap.size) u3 xs := by rw [hw7]; exact Kd.R_drew (Kd.R_alloc (Kd.R_mono (Kd.R_elderB hr wr.heap.size (Nat.le_refl _)) (fun _ h => h.2)) _)
    clear hw7 hr hb
    have L0 : xs.length + 12 + f0.size + f1.size ≤ 1000000000 := L0
    have K1 := Lib.hid (show xs.length + 4 < 140737488355328 by omega)
    have K2 := Lib.hid (show (xs ++ four 0).length + 4 < 140737488355328 by rw [List.length_append]; show xs.length + 4 + 4 < _; omega)
    have K3 := Lib.hid (show (xs ++ four 0 ++ four (f0.size : Int)).length + f0.size ≤ 140737488355328 by rw [List.length_append, List.length_append]; show xs.length + 4 + 4 + _ ≤ _; omega)
    have N1 : 0 ≤ (0 : Int) ∧ (0 : Int) < 4294967296 := by omega
    have N2 : 0 ≤ (f0.size : Int) ∧ (f0.size : Int) < 4294967296 := by omega
    have N3 : 0 ≤ (f1.size : Int) ∧ (f1.size : Int) < 4294967296 := by omega
    have L1 := Lib.hid L0
    clear L0
    refine start_ (n := 11) (S := fun w' => w'.heap[wr.heap.size]? = some (.cells #[.string f0, .string f1, .bool false] 69 (0, 0)) ∧ w'.cell? ⟨wr.heap.size, 0, none⟩ = some (.string f0) ∧ w'.cell? ⟨wr.heap.size, 1, none⟩ = some (.string f1)) (ds := []) #[false, false, false, false, false, false, false, false, false, false, false] (by kernel_rfl) rfl rfl ⟨hg7, blk_cell hg7 0, blk_cell hg7 1⟩ (fun hHeld => ?_)
    generalize w7.drew = w7 at hg7 hb7 hr7 hHeld ⊢
    refine pure_ (i := 0) (N := some 19) (v := ?_) (a' := ?_) #[true, false, false, false, false, false, false, false, false, false, false] rfl rfl (by kernel_rfl) (fun _ _ _ h => h) (Or.inl ⟨by rfl, ?_⟩) ?_ ?_
    rotate_left
    ·
     intro w'
     go_simp
     with_reducible rfl
    rotate_left
    ·
     simp only [Act.put, List.setIfInBounds_toArray, List.set_cons_zero, List.set_cons_succ, i64_w, i32_w]
     rfl
    refine pure_ (i := 1) (N := some 20) (v := ?_) (a' := ?_) #[true, true, false, false, false, false, false, false, false, false, false] rfl rfl (by kernel_rfl) (fun _ _ _ h => h) (Or.inl ⟨by rfl, ?_⟩) ?_ ?_
    rotate_left
    ·
     intro w'
     go_simp
     with_reducible rfl
    rotate_left
    ·
     simp only [Act.put, List.setIfInBounds_toArray, List.set_cons_zero, List.set_cons_succ, i64_w, i32_w]
     rfl
    refine pure_ (i := 3) (N := some 22) (v := ?_) (a' := ?_) #[true, true, false, true, false, false, false, false, false, false, false] rfl rfl (by kernel_rfl) (fun _ _ _ h => h) (Or.inl ⟨by rfl, ?_⟩) ?_ ?_
    rotate_left
    ·
     intro w'
     go_simp
     with_reducible rfl
    rotate_left
    ·
     simp only [Act.put, List.setIfInBounds_toArray, List.set_cons_zero, List.set_cons_succ, i64_w, i32_w]
     rfl
    refine pure_ (i := 7) (N := some 26) (v := ?_) (a' := ?_) #[true, true, false, true, false, false, false, true, false, false, false] rfl rfl (by kernel_rfl) (fun _ _ _ h => h) (Or.inl ⟨by rfl, ?_⟩) ?_ ?_
    rotate_left
    ·
     intro w'
     go_simp
     with_reducible rfl
    rotate_left
    ·
     simp only [Act.put, List.setIfInBounds_toArray, List.set_cons_zero, List.set_cons_succ, i64_w, i32_w]
     rfl
    refine take_ (i := 4) (N := some 23) (v := ?_) (a' := ?_) #[true, true, false, true, true, false, false, true, false, false, false] rfl rfl (by kernel_rfl) (fun _ _ _ h => h) (Or.inl ⟨by rfl, ?_⟩) hHeld ?_ ?_
    rotate_left
    ·
     rintro w' ⟨s0, s1, s2⟩
     go_simp
     with_reducible rfl
    rotate_left
    ·
     simp only [Act.put, List.setIfInBounds_toArray, List.set_cons_zero, List.set_cons_succ, i64_w, i32_w]
     rfl
    refine pure_ (i := 5) (N := some 24) (v := ?_) (a' := ?_) #[true, true, false, true, true, true, false, true, false, false, false] rfl rfl (by kernel_rfl) (fun _ _ _ h => h) (Or.inl ⟨by rfl, ?_⟩) ?_ ?_
    rotate_left
    ·
     intro w'
     go_simp
     with_reducible rfl
    rotate_left
    ·
     simp only [Act.put, List.setIfInBounds_toArray, List.set_cons_zero, List.set_cons_succ, i64_w, i32_w]
     rfl
    refine take_ (i := 8) (N := some 27) (v := ?_) (a' := ?_) #[true, true, false, true, true, true, false, true, true, false, false] rfl rfl (by kernel_rfl) (fun _ _ _ h => h) (Or.inl ⟨by rfl, ?_⟩) hHeld ?_ ?_
    rotate_left
    ·
     rintro w' ⟨s0, s1, s2⟩
     go_simp
     with_reducible rfl
    rotate_left
    ·
     simp only [Act.put, List.setIfInBounds_toArray, List.set_cons_zero, List.set_cons_succ, i64_w, i32_w]
     rfl
    refine one_ (i := 2) (N := some 21) #[true, true, true, true, true, true, false, true, true, false, false] rfl rfl (by kernel_rfl) (by decide) (fun K hK => ?_)
    refine goes_ Tryz.func134 (by kernel_rfl) rfl #[u3, .int .i64 0] (by rfl) rfl rfl (by simp only [List.map_toArray, List.map_cons, List.map_nil]; rfl) ?_
    refine (number_says (fun k => k ≠ wr.heap.size) u3 (xs) 0 w w7 hb7 hr7 N1 K1).mono ?_
    rintro e w8 ⟨v8, rfl, hr8, hb8, hk8⟩
    refine ⟨_, rfl, ?_⟩
    have hg8 := blk_kept hg7 hk8 (fun h => h rfl)
    have hr8 := Kd.R_mono (ok' := fun k => k ≠ wr.heap.size) hr8 (fun k hk => hk.elim id (fun h => by have := blk_lt hg7; omega))
    refine hK.out _ _ ⟨hg8, blk_cell hg8 0, blk_cell hg8 1⟩ (fun hHeld => ?_)
    clear hK K
    refine norm_ (a' := ?_) ?_ ?_
    rotate_left
    ·
     show Act.put _ (some 21) _ = _
     simp only [Act.put, List.setIfInBounds_toArray, List.set_cons_zero, List.set_cons_succ, i64_w, i32_w]
     rfl
    refine one_ (i := 6) (N := some 25) #[true, true, true, true, true, true, true, true, true, false, false] rfl rfl (by kernel_rfl) (by decide) (fun K hK => ?_)
    refine goes_ Tryz.func134 (by kernel_rfl) rfl #[v8, .int .i64 (f0.size : Int)] (by rfl) rfl rfl (by simp only [List.map_toArray, List.map_cons, List.map_nil]; rfl) ?_
    refine (number_says (fun k => k ≠ wr.heap.size) v8 (xs ++ four 0) (f0.size : Int) w w8 hb8 hr8 N2 K2).mono ?_
    rintro e w9 ⟨v9, rfl, hr9, hb9, hk9⟩
    refine ⟨_, rfl, ?_⟩
    have hg9 := blk_kept hg8 hk9 (fun h => h rfl)
    have hr9 := Kd.R_mono (ok' := fun k => k ≠ wr.heap.size) hr9 (fun k hk => hk.elim id (fun h => by have := blk_lt hg8; omega))
    refine hK.out _ _ ⟨hg9, blk_cell hg9 0, blk_cell hg9 1⟩ (fun hHeld => ?_)
    clear hK K
    refine norm_ (a' := ?_) ?_ ?_
    rotate_left
    ·
     show Act.put _ (some 25) _ = _
     simp only [Act.put, List.setIfInBounds_toArray, List.set_cons_zero, List.set_cons_succ, i64_w, i32_w]
     rfl
    refine one_ (i := 9) (N := some 28) #[true, true, true, true, true, true, true, true, true, true, false] rfl rfl (by kernel_rfl) (by decide) (fun K hK => ?_)
    refine append_str_step (W := w9) w.heap.size ?hw (.tmp 25) (.tmp 27) 40 9 5 rfl Tryz.underlying40 Tryz.underlying9 (show (Tryz.prog.info? 5).map (fun i => (i.zero, i.size, i.bytes)) = some (some (.int .u8 0), 1, 1) by kernel_rfl) v9 (xs ++ four 0 ++ four (f0.size : Int)) f0 rfl rfl hr9 hb9.size K3 ?_
    (case hw => rfl)
    intro v10 w10 hr10 hgw10
    obtain ⟨ys10, hys10⟩ : ∃ ys, ys = xs ++ four 0 ++ four (f0.size : Int) ++ bytesOf f0 := ⟨_, rfl⟩
    rw [← hys10] at hr10
    have Hys10 := Lib.hid hys10
    clear hys10
    obtain ⟨Aq10, cq10, eq10⟩ := Kd.R_slice hr10
    subst eq10
    have hg10 := blk_grown hg9 hgw10 (fun e => absurd rfl (hr9.1 _ e.symm))
    have hb10 := hb9.grown hgw10 hb9.size (fun k e => Kd.R_base hr9 k e)
    refine hK.out _ _ ⟨hg10, blk_cell hg10 0, blk_cell hg10 1⟩ (fun hHeld => ?_)
    clear hK K
    refine norm_ (a' := ?_) ?_ ?_
    rotate_left
    ·
     show Act.put _ (some 28) _ = _
     simp only [Act.put, List.setIfInBounds_toArray, List.set_cons_zero, List.set_cons_succ, i64_w, i32_w]
     rfl
    refine pure_ (i := 10) (N := some 3) (v := ?_) (a' := ?_) #[true, true, true, true, true, true, true, true, true, true, true] rfl rfl (by kernel_rfl) (fun _ _ _ h => h) (Or.inl ⟨by rfl, ?_⟩) ?_ ?_
    rotate_left
    ·
     intro w'
     go_simp
     with_reducible rfl
    rotate_left
    ·
     simp only [Act.put, List.setIfInBounds_toArray, List.set_cons_zero, List.set_cons_succ, i64_w, i32_w]
     rfl
    refine done_ (by kernel_rfl) ?_
    go_wp2_with fail
    have hyl : ys10.length = xs.length + 8 + f0.size := by rw [(show ys10 = xs ++ four 0 ++ four (f0.size : Int) ++ bytesOf f0 from Hys10), List.length_append, List.length_append, List.length_append, bytesOf_length]; rfl
    have L0 : xs.length + 12 + f0.size + f1.size ≤ 1000000000 := L1
    have K4 := Lib.hid (show ys10.length + 4 < 140737488355328 by omega)
    have K5 := Lib.hid (show (ys10 ++ four (f1.size : Int)).length + f1.size ≤ 140737488355328 by rw [List.length_append]; show ys10.length + 4 + _ ≤ _; omega)
    clear hyl L0
    have hr11 : Kd.R (Kd.int .u8) 5 w10.drew w.heap.size (fun k => k ≠ wr.heap.size) _ ys10 := Kd.R_drew (R_own_ok hr10 (fun k hk => by obtain ⟨cs, hc⟩ := Kd.R_typed hr10 k hk; exact blk_ne hc hg10 (by decide)))
    have hb11 : Below w.heap.size w w10.drew := below_drew hb10
    have hg11 : w10.drew.heap[wr.heap.size]? = _ := hg10
    refine start_ (n := 9) (S := fun w' => w'.heap[wr.heap.size]? = some (.cells #[.string f0, .string f1, .bool false] 69 (0, 0)) ∧ w'.cell? ⟨wr.heap.size, 0, none⟩ = some (.string f0) ∧ w'.cell? ⟨wr.heap.size, 1, none⟩ = some (.string f1)) (ds := []) #[false, false, false, false, false, false, false, false, false] (by kernel_rfl) rfl rfl ⟨hg11, blk_cell hg11 0, blk_cell hg11 1⟩ (fun hHeld => ?_)
    generalize w10.drew = w11 at hg11 hb11 hr11 hHeld ⊢
    refine pure_ (i := 0) (N := some 29) (v := ?_) (a' := ?_) #[true, false, false, false, false, false, false, false, false] rfl rfl (by kernel_rfl) (fun _ _ _ h => h) (Or.inl ⟨by rfl, ?_⟩) ?_ ?_
    rotate_left
    ·
     intro w'
     go_simp
     with_reducible rfl
    rotate_left
    ·
     simp only [Act.put, List.setIfInBounds_toArray, List.set_cons_zero, List.set_cons_succ, i64_w, i32_w]
     rfl
    refine pure_ (i := 1) (N := some 30) (v := ?_) (a' := ?_) #[true, true, false, false, false, false, false, false, false] rfl rfl (by kernel_rfl) (fun _ _ _ h => h) (Or.inl ⟨by rfl, ?_⟩) ?_ ?_
    rotate_left
    ·
     intro w'
     go_simp
     with_reducible rfl
    rotate_left
    ·
     simp only [Act.put, List.setIfInBounds_toArray, List.set_cons_zero, List.set_cons_succ, i64_w, i32_w]
     rfl
    refine pure_ (i := 5) (N := some 34) (v := ?_) (a' := ?_) #[true, true, false, false, false, true, false, false, false] rfl rfl (by kernel_rfl) (fun _ _ _ h => h) (Or.inl ⟨by rfl, ?_⟩) ?_ ?_
    rotate_left
    ·
     intro w'
     go_simp
     with_reducible rfl
    rotate_left
    ·
     simp only [Act.put, List.setIfInBounds_toArray, List.set_cons_zero, List.set_cons_succ, i64_w, i32_w]
     rfl
    refine take_ (i := 2) (N := some 31) (v := ?_) (a' := ?_) #[true, true, true, false, false, true, false, false, false] rfl rfl (by kernel_rfl) (fun _ _ _ h => h) (Or.inl ⟨by rfl, ?_⟩) hHeld ?_ ?_
    rotate_left
    ·
     rintro w' ⟨s0, s1, s2⟩
     go_simp
     with_reducible rfl
    rotate_left
    ·
     simp only [Act.put, List.setIfInBounds_toArray, List.set_cons_zero, List.set_cons_succ, i64_w, i32_w]
     rfl
    refine pure_ (i := 3) (N := some 32) (v := ?_) (a' := ?_) #[true, true, true, true, false, true, false, false, false] rfl rfl (by kernel_rfl) (fun _ _ _ h => h) (Or.inl ⟨by rfl, ?_⟩) ?_ ?_
    rotate_left
    ·
     intro w'
     go_simp
     with_reducible rfl
    rotate_left
    ·
     simp only [Act.put, List.setIfInBounds_toArray, List.set_cons_zero, List.set_cons_succ, i64_w, i32_w]
     rfl
    refine take_ (i := 6) (N := some 35) (v := ?_) (a' := ?_) #[true, true, true, true, false, true, true, false, false] rfl rfl (by kernel_rfl) (fun _ _ _ h => h) (Or.inl ⟨by rfl, ?_⟩) hHeld ?_ ?_
    rotate_left
    ·
     rintro w' ⟨s0, s1, s2⟩
     go_simp
     with_reducible rfl
    rotate_left
    ·
     simp only [Act.put, List.setIfInBounds_toArray, List.set_cons_zero, List.set_cons_succ, i64_w, i32_w]
     rfl
    refine one_ (i := 4) (N := some 33) #[true, true, true, true, true, true, true, false, false] rfl rfl (by kernel_rfl) (by decide) (fun K hK => ?_)
    refine goes_ Tryz.func134 (by kernel_rfl) rfl #[(.slice Aq10 ys10.length cq10), .int .i64 (f1.size : Int)] (by rfl) rfl rfl (by simp only [List.map_toArray, List.map_cons, List.map_nil]; rfl) ?_
    refine (number_says (fun k => k ≠ wr.heap.size) (.slice Aq10 ys10.length cq10) (ys10) (f1.size : Int) w w11 hb11 hr11 N3 K4).mono ?_
    rintro e w12 ⟨v12, rfl, hr12, hb12, hk12⟩
    refine ⟨_, rfl, ?_⟩
    have hg12 := blk_kept hg11 hk12 (fun h => h rfl)
    have hr12 := Kd.R_mono (ok' := fun k => k ≠ wr.heap.size) hr12 (fun k hk => hk.elim id (fun h => by have := blk_lt hg11; omega))
    refine hK.out _ _ ⟨hg12, blk_cell hg12 0, blk_cell hg12 1⟩ (fun hHeld => ?_)
    clear hK K
    refine norm_ (a' := ?_) ?_ ?_
    rotate_left
    ·
     show Act.put _ (some 33) _ = _
     simp only [Act.put, List.setIfInBounds_toArray, List.set_cons_zero, List.set_cons_succ, i64_w, i32_w]
     rfl
    refine one_ (i := 7) (N := some 36) #[true, true, true, true, true, true, true, true, false] rfl rfl (by kernel_rfl) (by decide) (fun K hK => ?_)
    refine append_str_step (W := w12) w.heap.size ?hw (.tmp 33) (.tmp 35) 40 9 5 rfl Tryz.underlying40 Tryz.underlying9 (show (Tryz.prog.info? 5).map (fun i => (i.zero, i.size, i.bytes)) = some (some (.int .u8 0), 1, 1) by kernel_rfl) v12 (ys10 ++ four (f1.size : Int)) f1 rfl rfl hr12 hb12.size K5 ?_
    (case hw => rfl)
    intro v13 w13 hr13 hgw13
    obtain ⟨ys13, hys13⟩ : ∃ ys, ys = ys10 ++ four (f1.size : Int) ++ bytesOf f1 := ⟨_, rfl⟩
    rw [← hys13] at hr13
    have Hys13 := Lib.hid hys13
    clear hys13
    obtain ⟨Aq13, cq13, eq13⟩ := Kd.R_slice hr13
    subst eq13
    have hg13 := blk_grown hg12 hgw13 (fun e => absurd rfl (hr12.1 _ e.symm))
    have hb13 := hb12.grown hgw13 hb12.size (fun k e => Kd.R_base hr12 k e)
    refine hK.out _ _ ⟨hg13, blk_cell hg13 0, blk_cell hg13 1⟩ (fun hHeld => ?_)
    clear hK K
    refine norm_ (a' := ?_) ?_ ?_
    rotate_left
    ·
     show Act.put _ (some 36) _ = _
     simp only [Act.put, List.setIfInBounds_toArray, List.set_cons_zero, List.set_cons_succ, i64_w, i32_w]
     rfl
    refine pure_ (i := 8) (N := some 3) (v := ?_) (a' := ?_) #[true, true, true, true, true, true, true, true, true] rfl rfl (by kernel_rfl) (fun _ _ _ h => h) (Or.inl ⟨by rfl, ?_⟩) ?_ ?_
    rotate_left
    ·
     intro w'
     go_simp
     with_reducible rfl
    rotate_left
    ·
     simp only [Act.put, List.setIfInBounds_toArray, List.set_cons_zero, List.set_cons_succ, i64_w, i32_w]
     rfl
    refine done_ (by kernel_rfl) ?_
    go_wp2_with fail
    refine ⟨⟨i + 1, rfl, Hi, ?_, hb13⟩, ?_⟩
    ·
     rw [(show four (l.length : Int) ++ (l.take (i + 1)).flatMap chgL = xs ++ chgL _ from Hfin)]
     have e : xs ++ chgL ⟨f0, f1, false⟩ = ys13 := by rw [(show ys13 = _ from Hys13), (show ys10 = _ from Hys10)]; simp [chgL, bytesOf]
     rw [e]
     exact hr13
    ·
     have := (show i + 1 ≤ l.length from Hi); simp only [intOf]; omega
-- F]
  ·
   have d1 : decide ((i : Int) < (l.length : Int)) = false := decide_eq_false (by omega)
   have hil : i = l.length := by omega
   subst hil
   rw [List.take_length] at hr
   go_wp2_with fail
   go_ret
   exact ⟨_, rfl, hr, hb⟩
end Go.Proofs.YtpoblffgclmmlaaGreatDoor.X
namespace Go.Proofs.YtpoblffgclmmlaaGreatDoor.X
open Go.RowKit Go.Proofs.YtpoblffgclmmlaaGreatDoorW.PrintWords Go.Proofs.YtpoblffgclmmlaaGreatDoorW.PrintLast Go.Proofs.YtpoblffgclmmlaaGreatDoorW.PrintMore Go.Proofs.YtpoblffgclmmlaaGreatDoor.Q

theorem tur_below {w0 w w1 : World} {S : Nat → Prop} (hB : Below w0.heap.size w0 w) (hk : Tur w w1 S) (hS : ∀ k, S k → w0.heap.size ≤ k) : Below w0.heap.size w0 w1 :=
 ((Tur.of_below hB S).then_ hk (fun k h => .inl h)).toBelow (Nat.le_refl _) hS
/-- A reader in memory. -/
structure RdAt (w0 W : World) (g : Nat) (A : Option Addr) (c : Nat) (xs : List Int) (bad : Bool) : Prop where
 blk : W.heap[g]? = some (.cells #[.slice A xs.length c, .bool bad] 167 (0, 0))
 row : ∀ W', Below w0.heap.size w0 W' → Kd.C (Kd.int .u8) W' A xs.length xs
 le : xs.length ≤ c
theorem drop_row_all {w0 w : World} {A : Option Addr} {l : List Int} {c : Nat} (hB : Below w0.heap.size w0 w) (h : ∀ W', Below w0.heap.size w0 W' → Kd.C (Kd.int .u8) W' A l.length l) (hc : l.length ≤ c) (lo : Nat) (h1 : lo ≤ l.length) :
  ∃ Ad cd, (∀ W, Sem.run Tryz.prog (Instr.slice 40 (.slice A l.length c) (some (.int .i64 (lo : Int))) none none) W = .ok (.slice Ad (l.drop lo).length cd) W) ∧ (∀ W', Below w0.heap.size w0 W' → Kd.C (Kd.int .u8) W' Ad (l.drop lo).length (l.drop lo)) ∧ (l.drop lo).length ≤ cd := by
 obtain ⟨Ad, cd, hrun, hC, hle⟩ := drop_row (h w hB) hc lo h1
 refine ⟨Ad, cd, hrun, fun W' hb => ?_, hle⟩
 obtain ⟨Ad', cd', hrun', hC', hle'⟩ := drop_row (h W' hb) hc lo h1
 have e := (hrun w).symm.trans (hrun' w)
 simp only [Result.ok.injEq, Value.slice.injEq, and_true] at e
 rw [e.1]
 exact hC'
set_option maxHeartbeats 4000000 in
set_option maxRecDepth 100000 in
/-- The next number; fewer than four bytes: there is none. -/
theorem rnum_says (g : Nat) (A : Option Addr) (c : Nat) (xs : List Int) (bad : Bool) (w0 w : World) (hB : Below w0.heap.size w0 w) (h : RdAt w0 w g A c xs bad) :
  Calls Tryz.prog 126 #[.pointer (some ⟨g, 0, none⟩)] w fun e w' => e = .returned (.int .i64 (if xs.length < 4 then 0 else getL (xs.take 4))) ∧ Tur w w' (fun k => k = g) ∧ ∃ A' c', RdAt w0 w' g A' c' (if xs.length < 4 then xs else xs.drop 4) (if xs.length < 4 then true else bad) := by
 have c0 := blk_cell h.blk 0
 have c1 := blk_cell h.blk 1
 have f0 := blk_frozen h.blk 0
 have f1 := blk_frozen h.blk 1
 by_cases h4 : xs.length < 4
 ·
  have d1 : decide ((xs.length : Int) < 4) = true := decide_eq_true (by omega)
  have hb2 := blk_put h.blk 1 (.bool true) rfl
  have hk2 := (Tur.refl w (fun k => k = g)).setCell (p := ⟨g, 1, none⟩) (.inl rfl) (.bool true)
  have hC2 := h.row
  have hle := h.le
  simp only [if_pos h4]
  go_enter Tryz.func126, Tryz.ntmps126
  go_wp2_with fail
  go_ret
  exact ⟨rfl, hk2, _, _, ⟨hb2, hC2, hle⟩⟩
 ·
  have d1 : decide ((xs.length : Int) < 4) = false := decide_eq_false (by omega)
  simp only [if_neg h4]
  have hle := h.le
  have hgr := getL_range (xs.take 4)
  obtain ⟨Ad, cd, hcut, hCd, hcd⟩ := drop_row_all hB h.row h.le 4 (by omega)
  simp only [Int.cast_ofNat_Int] at hcut
  have e1 : IntKind.i64.wrap (getL (xs.take 4)) = getL (xs.take 4) := IntWalk.i64_in _ (by omega)
  obtain ⟨ys, hys⟩ : ∃ ys, ys = xs.drop 4 := ⟨_, rfl⟩
  rw [← hys] at hcut hCd hcd ⊢
  have hb2 := blk_put h.blk 0 (.slice Ad ys.length cd) rfl
  have hk2 := (Tur.refl w (fun k => k = g)).setCell (p := ⟨g, 0, none⟩) (.inl rfl) (.slice Ad ys.length cd)
  have hC2 := hCd
  have hrow := h.row w hB
  clear hys
  go_enter Tryz.func126, Tryz.ntmps126
  go_wp2_with fail
  refine (be_Get.says A _ c xs w rfl hrow hle).mono ?_
  rintro e w1 ⟨rfl, rfl⟩
  go_wp2_with fail
  go_ret
  exact ⟨rfl, hk2, _, _, ⟨hb2, hC2, hcd⟩⟩
/-- The next number, and what is left. -/
def rnumL (xs : List Int) (bad : Bool) : Int × List Int × Bool := if xs.length < 4 then (0, xs, true) else (getL (xs.take 4), xs.drop 4, bad)
theorem rnum_says2 (g : Nat) (A : Option Addr) (c : Nat) (xs : List Int) (bad : Bool) (n : Int) (ys : List Int) (bad1 : Bool) (hn : rnumL xs bad = (n, ys, bad1)) (w0 w : World) (hB : Below w0.heap.size w0 w) (h : RdAt w0 w g A c xs bad) :
  Calls Tryz.prog 126 #[.pointer (some ⟨g, 0, none⟩)] w fun e w' => e = .returned (.int .i64 n) ∧ Tur w w' (fun k => k = g) ∧ ∃ A' c', RdAt w0 w' g A' c' ys bad1 := by
 refine (rnum_says g A c xs bad w0 w hB h).mono ?_
 unfold rnumL at hn
 split at hn
 ·
  rename_i h4
  simp only [if_pos h4]
  cases hn
  exact fun e w' h => h
 ·
  rename_i h4
  simp only [if_neg h4]
  cases hn
  exact fun e w' h => h
theorem rnumL_range (xs : List Int) (bad : Bool) : 0 ≤ (rnumL xs bad).1 ∧ (rnumL xs bad).1 < 4294967296 := by
 unfold rnumL
 split
 ·
  exact ⟨Int.le_refl _, (by decide : (0 : Int) < 4294967296)⟩
 ·
  exact getL_range _
/-- The next text, and what is left. -/
def rtextL (xs : List Int) (bad : Bool) : ByteArray × List Int × Bool :=
 if (rnumL xs bad).2.2 = true ∨ ((rnumL xs bad).2.1.length : Int) < (rnumL xs bad).1 then (⟨#[]⟩, (rnumL xs bad).2.1, true)
 else (strOfNums ((rnumL xs bad).2.1.take (rnumL xs bad).1.toNat), (rnumL xs bad).2.1.drop (rnumL xs bad).1.toNat, (rnumL xs bad).2.2)
set_option maxHeartbeats 4000000 in
set_option maxRecDepth 100000 in
theorem rtext_says (g : Nat) (A : Option Addr) (c : Nat) (xs : List Int) (bad : Bool) (s : ByteArray) (zs : List Int) (bad2 : Bool) (hs : rtextL xs bad = (s, zs, bad2)) (w0 w : World) (hg0 : w0.heap.size ≤ g) (hB : Below w0.heap.size w0 w) (h : RdAt w0 w g A c xs bad) :
  Calls Tryz.prog 127 #[.pointer (some ⟨g, 0, none⟩)] w fun e w' => e = .returned (.string s) ∧ Tur w w' (fun k => k = g) ∧ ∃ A' c', RdAt w0 w' g A' c' zs bad2 := by
 obtain ⟨⟨n, ys, bad1⟩, hn⟩ : ∃ p, rnumL xs bad = p := ⟨_, rfl⟩
 have hrg := rnumL_range xs bad
 unfold rtextL at hs
 rw [hn] at hs hrg
 simp only at hs hrg
 obtain ⟨m, rfl⟩ : ∃ m : Nat, n = (m : Int) := ⟨n.toNat, by omega⟩
 have hcall := rnum_says2 g A c xs bad (m : Int) ys bad1 hn w0 w hB h
 clear hn
 by_cases hb1 : bad1 = true
 ·
  subst hb1
  rw [if_pos (.inl rfl)] at hs
  simp only [Prod.mk.injEq] at hs
  obtain ⟨rfl, rfl, rfl⟩ := hs
  go_enter Tryz.func127, Tryz.ntmps127
  go_wp2_with fail
  refine hcall.mono ?_
  rintro e w1 ⟨rfl, hk1, A1, c1, hR1⟩
  have c1' := blk_cell hR1.blk 1
  have f1 := blk_frozen hR1.blk 1
  have c0 := blk_cell hR1.blk 0
  have hb2 := blk_put hR1.blk 1 (.bool true) rfl
  have hk2 := hk1.setCell (p := ⟨g, 1, none⟩) (.inl rfl) (.bool true)
  have hC2 := hR1.row
  have hle := hR1.le
  go_wp2_with fail
  go_ret
  exact ⟨rfl, hk2, _, _, ⟨hb2, hC2, hle⟩⟩
 ·
  have hbf : bad1 = false := by simpa using hb1
  subst hbf
  by_cases hbig : (ys.length : Int) < (m : Int)
  ·
   have d1 : decide (ys.length < m) = true := decide_eq_true (by omega)
   rw [if_pos (.inr hbig)] at hs
   simp only [Prod.mk.injEq] at hs
   obtain ⟨rfl, rfl, rfl⟩ := hs
   go_enter Tryz.func127, Tryz.ntmps127
   go_wp2_with fail
   refine hcall.mono ?_
   rintro e w1 ⟨rfl, hk1, A1, c1, hR1⟩
   have c1' := blk_cell hR1.blk 1
   have f1 := blk_frozen hR1.blk 1
   have c0 := blk_cell hR1.blk 0
   have hb2 := blk_put hR1.blk 1 (.bool true) rfl
   have hk2 := hk1.setCell (p := ⟨g, 1, none⟩) (.inl rfl) (.bool true)
   have hC2 := hR1.row
   have hle := hR1.le
   clear hbig
   go_wp2_with fail
   go_ret
   exact ⟨rfl, hk2, _, _, ⟨hb2, hC2, hle⟩⟩
  ·
   have d1 : decide (ys.length < m) = false := decide_eq_false (by omega)
   rw [if_neg (by simp [hbig])] at hs
   simp only [Prod.mk.injEq, Int.toNat_natCast] at hs
   obtain ⟨rfl, rfl, rfl⟩ := hs
   go_enter Tryz.func127, Tryz.ntmps127
   go_wp2_with fail
   refine hcall.mono ?_
   rintro e w1 ⟨rfl, hk1, A1, c1, hR1⟩
   have c1' := blk_cell hR1.blk 1
   have c0 := blk_cell hR1.blk 0
   have f0 := blk_frozen hR1.blk 0
   have hle := hR1.le
   have hB1 : Below w0.heap.size w0 w1 := tur_below hB hk1 (fun k hk => by omega)
   obtain ⟨Ad, cd, hcut, hCd, hcd⟩ := drop_row_all hB1 hR1.row hle m (by omega)
   obtain ⟨At, ct, hcut2, hCt, hct⟩ := take_row (hR1.row w1 hB1) hle m (by omega)
   have hcv := Kd.C_string (P := Tryz.prog) (A := At) (c := ct) Tryz.underlying40 Tryz.underlying5 Tryz.underlying9 hCt
   obtain ⟨rs, hrs⟩ : ∃ rs, rs = ys.drop m := ⟨_, rfl⟩
   rw [← hrs] at hcut hCd hcd
   have Hrs := Lib.hid hrs
   have hb2 := blk_put hR1.blk 0 (.slice Ad rs.length cd) rfl
   have hk2 := hk1.setCell (p := ⟨g, 0, none⟩) (.inl rfl) (.slice Ad rs.length cd)
   have hC2 := hCd
   clear hbig hrs hk1
   go_wp2_with fail
   go_ret
   exact ⟨rfl, hk2, _, _, by rw [← (show rs = ys.drop m from Hrs)]; exact ⟨hb2, hC2, hcd⟩⟩
end Go.Proofs.YtpoblffgclmmlaaGreatDoor.X
namespace Go.Proofs.YtpoblffgclmmlaaGreatDoor.X
open Go.RowKit Go.Proofs.YtpoblffgclmmlaaGreatDoorW.PrintWords Go.Proofs.YtpoblffgclmmlaaGreatDoorW.PrintLast Go.Proofs.YtpoblffgclmmlaaGreatDoorW.PrintMore Go.Proofs.YtpoblffgclmmlaaGreatDoor.Q

/-- One change of a record, what is left of it, and whether it is none. -/
def oneC (xs : List Int) (bad : Bool) : S69 × List Int × Bool :=
 let a := rnumL xs bad
 let k := rtextL a.2.1 a.2.2
 let v := rtextL k.2.1 k.2.2
 (⟨k.1, v.1, a.1 == 1⟩, v.2.1, v.2.2)
/-- So many changes. -/
def chF : Nat → List Int → Bool → List S69 → List S69 × Bool
 | 0, _, bad, out => (out, bad)
 | n + 1, xs, bad, out => if bad = true then (out, true) else chF n (oneC xs bad).2.1 (oneC xs bad).2.2 (out ++ [(oneC xs bad).1])
def chL (b : List Int) : List S69 × Bool := chF (rnumL b false).1.toNat (rnumL b false).2.1 (rnumL b false).2.2 []
def chOk (b : List Int) : Bool := !(chL b).2 && ((strOfNums (recL (chL b).1)).toList == (strOfNums b).toList)
theorem rnumL_len (xs : List Int) (bad : Bool) : ((rnumL xs bad).2.2 = false → bad = false ∧ (rnumL xs bad).2.1.length + 4 = xs.length) ∧ (rnumL xs bad).2.1.length ≤ xs.length := by
 by_cases h : xs.length < 4
 ·
  have e : rnumL xs bad = (0, xs, true) := if_pos h
  rw [e]
  exact ⟨fun h => (by cases h), Nat.le_refl _⟩
 ·
  have e : rnumL xs bad = (getL (xs.take 4), xs.drop 4, bad) := if_neg h
  rw [e]
  refine ⟨fun h => ⟨h, ?_⟩, ?_⟩
  ·
   show (xs.drop 4).length + 4 = xs.length
   rw [List.length_drop]; omega
  ·
   show (xs.drop 4).length ≤ xs.length
   rw [List.length_drop]; omega
theorem rtextL_len (xs : List Int) (bad : Bool) : ((rtextL xs bad).2.2 = false → bad = false ∧ (rtextL xs bad).1.size + (rtextL xs bad).2.1.length + 4 = xs.length) ∧ ((rtextL xs bad).2.2 = true → (rtextL xs bad).1.size = 0) ∧ (rtextL xs bad).1.size + (rtextL xs bad).2.1.length ≤ xs.length := by
 have h1 := rnumL_len xs bad
 have h2 := rnumL_range xs bad
 by_cases h : (rnumL xs bad).2.2 = true ∨ ((rnumL xs bad).2.1.length : Int) < (rnumL xs bad).1
 ·
  have e : rtextL xs bad = (⟨#[]⟩, (rnumL xs bad).2.1, true) := if_pos h
  rw [e]
  exact ⟨fun h => (by cases h), fun _ => rfl, by show 0 + (rnumL xs bad).2.1.length ≤ _; omega⟩
 ·
  have e : rtextL xs bad = (strOfNums ((rnumL xs bad).2.1.take (rnumL xs bad).1.toNat), (rnumL xs bad).2.1.drop (rnumL xs bad).1.toNat, (rnumL xs bad).2.2) := if_neg h
  rw [e]
  simp only [not_or, Bool.not_eq_true] at h
  have h3 := h1.1 h.1
  have hs : (strOfNums ((rnumL xs bad).2.1.take (rnumL xs bad).1.toNat)).size = (rnumL xs bad).1.toNat := by rw [strOfNums_size, List.length_take]; omega
  have hd : ((rnumL xs bad).2.1.drop (rnumL xs bad).1.toNat).length = (rnumL xs bad).2.1.length - (rnumL xs bad).1.toNat := List.length_drop
  refine ⟨fun _ => ⟨h3.1, ?_⟩, fun h9 => ?_, ?_⟩
  ·
   show (strOfNums _).size + (List.drop _ _).length + 4 = _; omega
  ·
   exact absurd (h.1.symm.trans h9) (by decide)
  ·
   show (strOfNums _).size + (List.drop _ _).length ≤ _; omega
/-- How long the changes read so far are. -/
def Bd (b xs : List Int) (bad : Bool) (out : List S69) : Prop := if bad = true then (out.flatMap chgL).length ≤ b.length + 12 else (out.flatMap chgL).length + xs.length + 4 ≤ b.length
theorem Bd.step {b xs : List Int} {out : List S69} (h : Bd b xs false out) : Bd b (oneC xs false).2.1 (oneC xs false).2.2 (out ++ [(oneC xs false).1]) := by
 have h1 := rnumL_len xs false
 have h2 := rtextL_len (rnumL xs false).2.1 (rnumL xs false).2.2
 have h3 := rtextL_len (rtextL (rnumL xs false).2.1 (rnumL xs false).2.2).2.1 (rtextL (rnumL xs false).2.1 (rnumL xs false).2.2).2.2
 unfold Bd at h
 rw [if_neg (by decide)] at h
 have hl : ((out ++ [(oneC xs false).1]).flatMap chgL).length ≤ (out.flatMap chgL).length + 12 + (oneC xs false).1.f0.size + (oneC xs false).1.f1.size := by
  rw [List.flatMap_append, List.length_append, List.flatMap_cons, List.flatMap_nil, List.append_nil, chgL_len]
  split <;> omega
 unfold Bd
 split
 ·
  rename_i hb
  have h4 := h3.2.1 hb
  have e0 : (oneC xs false).1.f0.size = (rtextL (rnumL xs false).2.1 (rnumL xs false).2.2).1.size := rfl
  have e1 : (oneC xs false).1.f1.size = (rtextL (rtextL (rnumL xs false).2.1 (rnumL xs false).2.2).2.1 (rtextL (rnumL xs false).2.1 (rnumL xs false).2.2).2.2).1.size := rfl
  omega
 ·
  rename_i hb
  have hb' : (oneC xs false).2.2 = false := by simpa using hb
  have h4 := h3.1 hb'
  have h5 := h2.1 h4.1
  have h6 := h1.1 h5.1
  have e0 : (oneC xs false).1.f0.size = (rtextL (rnumL xs false).2.1 (rnumL xs false).2.2).1.size := rfl
  have e1 : (oneC xs false).1.f1.size = (rtextL (rtextL (rnumL xs false).2.1 (rnumL xs false).2.2).2.1 (rtextL (rnumL xs false).2.1 (rnumL xs false).2.2).2.2).1.size := rfl
  have e2 : (oneC xs false).2.1.length = (rtextL (rtextL (rnumL xs false).2.1 (rnumL xs false).2.2).2.1 (rtextL (rnumL xs false).2.1 (rnumL xs false).2.2).2.2).2.1.length := rfl
  omega
theorem Bd.rec_le {b xs : List Int} {bad : Bool} {out : List S69} (h : Bd b xs bad out) : (recL out).length ≤ b.length + 16 := by
 unfold Bd at h
 unfold recL
 rw [List.length_append]
 show 4 + _ ≤ _
 split at h <;> omega
theorem R_mono49 {e : Nat} {W : World} {base : Nat} {ok : Nat → Prop} {v : Value} {xs : List S69} {g : Nat} (h : Kd.R k69 e W base ok v xs) (hg : ∀ k, v.ownBlock = some k → k ≠ g) : Kd.R k69 e W base (fun k => k ≠ g) v xs := by
 obtain ⟨h0, inner, ho, hr⟩ := h
 exact ⟨fun k hk => hg k hk, inner, ho, hr.imp_ (fun x cs hp => by rw [k69_openM hp]; exact k69_mkM _ _ _ x)⟩
set_option maxHeartbeats 8000000 in
set_option maxRecDepth 100000 in
theorem changes_says (A : Option Addr) (c : Nat) (b : List Int) (w : World) (hC : Kd.C (Kd.int .u8) w A b.length b) (hc : b.length ≤ c) (hl : b.length ≤ 100000000) :
  Calls Tryz.prog 81 #[.slice A b.length c] w fun e w' => ∃ v, e = .returned (.tuple #[v, .bool (chOk b)]) ∧ Kd.R k69 69 w' w.heap.size (fun _ => True) v (chL b).1 ∧ Below w.heap.size w w' := by
 go_enter Tryz.func81, Tryz.ntmps81
 go_wp2_with fail
 obtain ⟨⟨n, xs, bad⟩, hn⟩ : ∃ p, rnumL b false = p := ⟨_, rfl⟩
 have hrg := rnumL_range b false
 rw [hn] at hrg
 simp only at hrg
 obtain ⟨m, rfl⟩ : ∃ m : Nat, n = (m : Int) := ⟨n.toNat, by omega⟩
 have hch : chL b = chF m xs bad [] := by unfold chL; rw [hn]; rfl
 have hBd : Bd b xs bad [] := by
  have h1 := rnumL_len b false
  rw [hn] at h1
  unfold Bd
  cases bad with
  | true => simp
  | false => have := (h1.1 rfl).2; simp only at this; simp; omega
 have hba : Below w.heap.size w (w.alloc (.cells #[.slice A b.length c, .bool false] 167)) := (Below.refl _ w).alloc (Nat.le_refl _) _
 refine (rnum_says2 w.heap.size A c b false (m : Int) xs bad hn w _ hba ⟨heap_alloc_new w _, fun W' hb => Kd.C_below hC hb, hc⟩).mono ?_
 rintro e w1 ⟨rfl, hk1, A1, c1, hR1⟩
 have hb1 : Below w.heap.size w w1 := tur_below hba hk1 (fun k hk => by omega)
 go_wp2_with fail
 go_loopw [5, 6] (fun v5 v6 wr => ∃ (k : Nat) (xs : List Int) (bad : Bool) (out : List S69) (A' : Option Addr) (c' : Nat), v6 = .int .i64 k ∧ RdAt w wr w.heap.size A' c' xs bad ∧ Kd.R k69 69 wr w.heap.size (fun _ => True) v5 out ∧ Below w.heap.size w wr ∧ chL b = chF k xs bad out ∧ out.length + k ≤ m ∧ Bd b xs bad out) (fun _ v6 _ => (intOf v6).toNat)
 case atStart => exact ⟨m, xs, bad, [], A1, c1, rfl, hR1, Kd.R_nil _ _ _ _ _, hb1, hch, by simp, hBd⟩
 case round =>
  clear hR1 hb1 hch hBd hk1 hba
  obtain ⟨k, xs, bad, out, A', c', rfl, hR, hr, hb, hch, hkm, hBd⟩ := hrel
  have c1' := blk_cell hR.blk 1
  match k with
  | 0 =>
   have hfin : chL b = (out, bad) := by rw [hch]; rfl
   have hrl := Bd.rec_le hBd
   clear hch hkm hBd
   go_wp2_with fail
   cases bad with
   | true =>
-- [B0
    obtain ⟨Ao, co, eo⟩ := Kd.R_slice hr
    subst eo
    have hg7 : wr.drew.heap[w.heap.size]? = some (.cells #[.slice A' xs.length c', .bool true] 167 (0, 0)) := hR.blk
    have hb7 : Below w.heap.size w wr.drew := below_drew hb
    have hr7 := Kd.R_drew hr
    clear c1' hR hr hb
    refine start_ (n := 16) (S := fun w' => w'.cell? ⟨w.heap.size, 1, none⟩ = some (.bool true)) (ds := []) #[false, false, false, false, false, false, false, false, false, false, false, false, false, false, false, false] (by kernel_rfl) rfl rfl (blk_cell hg7 1) (fun hHeld => ?_)
    generalize wr.drew = w7 at hg7 hb7 hr7 hHeld ⊢
    refine pure_ (i := 0) (N := some 36) (v := ?_) (a' := ?_) #[true, false, false, false, false, false, false, false, false, false, false, false, false, false, false, false] rfl rfl (by kernel_rfl) (fun _ _ _ h => h) (Or.inl ⟨by rfl, ?_⟩) ?_ ?_
    rotate_left
    ·
     intro w'
     go_simp
     with_reducible rfl
    rotate_left
    ·
     simp only [Act.put, List.setIfInBounds_toArray, List.set_cons_zero, List.set_cons_succ, i64_w, i32_w]
     rfl
    refine pure_ (i := 1) (N := some 37) (v := ?_) (a' := ?_) #[true, true, false, false, false, false, false, false, false, false, false, false, false, false, false, false] rfl rfl (by kernel_rfl) (fun _ _ _ h => h) (Or.inl ⟨by rfl, ?_⟩) ?_ ?_
    rotate_left
    ·
     intro w'
     go_simp
     with_reducible rfl
    rotate_left
    ·
     simp only [Act.put, List.setIfInBounds_toArray, List.set_cons_zero, List.set_cons_succ, i64_w, i32_w]
     rfl
    refine pure_ (i := 2) (N := some 38) (v := ?_) (a' := ?_) #[true, true, true, false, false, false, false, false, false, false, false, false, false, false, false, false] rfl rfl (by kernel_rfl) (fun _ _ _ h => h) (Or.inl ⟨by rfl, ?_⟩) ?_ ?_
    rotate_left
    ·
     intro w'
     go_simp
     with_reducible rfl
    rotate_left
    ·
     simp only [Act.put, List.setIfInBounds_toArray, List.set_cons_zero, List.set_cons_succ, i64_w, i32_w]
     rfl
    refine pure_ (i := 3) (N := some 39) (v := ?_) (a' := ?_) #[true, true, true, true, false, false, false, false, false, false, false, false, false, false, false, false] rfl rfl (by kernel_rfl) (fun _ _ _ h => h) (Or.inl ⟨by rfl, ?_⟩) ?_ ?_
    rotate_left
    ·
     intro w'
     go_simp
     with_reducible rfl
    rotate_left
    ·
     simp only [Act.put, List.setIfInBounds_toArray, List.set_cons_zero, List.set_cons_succ, i64_w, i32_w]
     rfl
    refine take_ (i := 4) (N := some 40) (v := ?_) (a' := ?_) #[true, true, true, true, true, false, false, false, false, false, false, false, false, false, false, false] rfl rfl (by kernel_rfl) (fun _ _ _ h => h) (Or.inl ⟨by rfl, ?_⟩) hHeld ?_ ?_
    rotate_left
    ·
     intro w' s0
     go_simp
     with_reducible rfl
    rotate_left
    ·
     simp only [Act.put, List.setIfInBounds_toArray, List.set_cons_zero, List.set_cons_succ, i64_w, i32_w]
     rfl
    refine pure_ (i := 5) (N := some 41) (v := ?_) (a' := ?_) #[true, true, true, true, true, true, false, false, false, false, false, false, false, false, false, false] rfl rfl (by kernel_rfl) (fun _ _ _ h => h) (Or.inl ⟨by rfl, ?_⟩) ?_ ?_
    rotate_left
    ·
     intro w'
     go_simp
     with_reducible rfl
    rotate_left
    ·
     simp only [Act.put, List.setIfInBounds_toArray, List.set_cons_zero, List.set_cons_succ, i64_w, i32_w]
     rfl
    refine pure_ (i := 6) (N := some 42) (v := ?_) (a' := ?_) #[true, true, true, true, true, true, true, false, false, false, false, false, false, false, false, false] rfl rfl (by kernel_rfl) (fun _ _ _ h => h) (Or.inl ⟨by rfl, ?_⟩) ?_ ?_
    rotate_left
    ·
     intro w'
     go_simp
     with_reducible rfl
    rotate_left
    ·
     simp only [Act.put, List.setIfInBounds_toArray, List.set_cons_zero, List.set_cons_succ, i64_w, i32_w]
     rfl
    refine pure_ (i := 7) (N := some 43) (v := undef) (a' := ?_) #[true, true, true, true, true, true, true, true, false, false, false, false, false, false, false, false] rfl rfl (by kernel_rfl) (fun _ _ _ h => h) (Or.inr ⟨by rfl, rfl⟩) ?_ ?_
    rotate_left
    ·
     simp only [Act.put, List.setIfInBounds_toArray, List.set_cons_zero, List.set_cons_succ, i64_w, i32_w]
     rfl
    refine pure_ (i := 8) (N := some 44) (v := undef) (a' := ?_) #[true, true, true, true, true, true, true, true, true, false, false, false, false, false, false, false] rfl rfl (by kernel_rfl) (fun _ _ _ h => h) (Or.inr ⟨by rfl, rfl⟩) ?_ ?_
    rotate_left
    ·
     simp only [Act.put, List.setIfInBounds_toArray, List.set_cons_zero, List.set_cons_succ, i64_w, i32_w]
     rfl
    refine pure_ (i := 9) (N := some 45) (v := undef) (a' := ?_) #[true, true, true, true, true, true, true, true, true, true, false, false, false, false, false, false] rfl rfl (by kernel_rfl) (fun _ _ _ h => h) (Or.inr ⟨by rfl, rfl⟩) ?_ ?_
    rotate_left
    ·
     simp only [Act.put, List.setIfInBounds_toArray, List.set_cons_zero, List.set_cons_succ, i64_w, i32_w]
     rfl
    refine pure_ (i := 10) (N := some 46) (v := undef) (a' := ?_) #[true, true, true, true, true, true, true, true, true, true, true, false, false, false, false, false] rfl rfl (by kernel_rfl) (fun _ _ _ h => h) (Or.inr ⟨by rfl, rfl⟩) ?_ ?_
    rotate_left
    ·
     simp only [Act.put, List.setIfInBounds_toArray, List.set_cons_zero, List.set_cons_succ, i64_w, i32_w]
     rfl
    refine pure_ (i := 11) (N := some 47) (v := undef) (a' := ?_) #[true, true, true, true, true, true, true, true, true, true, true, true, false, false, false, false] rfl rfl (by kernel_rfl) (fun _ _ _ h => h) (Or.inr ⟨by rfl, rfl⟩) ?_ ?_
    rotate_left
    ·
     simp only [Act.put, List.setIfInBounds_toArray, List.set_cons_zero, List.set_cons_succ, i64_w, i32_w]
     rfl
    refine pure_ (i := 12) (N := some 48) (v := undef) (a' := ?_) #[true, true, true, true, true, true, true, true, true, true, true, true, true, false, false, false] rfl rfl (by kernel_rfl) (fun _ _ _ h => h) (Or.inr ⟨by rfl, rfl⟩) ?_ ?_
    rotate_left
    ·
     simp only [Act.put, List.setIfInBounds_toArray, List.set_cons_zero, List.set_cons_succ, i64_w, i32_w]
     rfl
    refine pure_ (i := 13) (N := some 49) (v := ?_) (a' := ?_) #[true, true, true, true, true, true, true, true, true, true, true, true, true, true, false, false] rfl rfl (by kernel_rfl) (fun _ _ _ h => h) (Or.inl ⟨by rfl, ?_⟩) ?_ ?_
    rotate_left
    ·
     intro w'
     go_simp
     with_reducible rfl
    rotate_left
    ·
     simp only [Act.put, List.setIfInBounds_toArray, List.set_cons_zero, List.set_cons_succ, i64_w, i32_w]
     rfl
    refine pure_ (i := 14) (N := some 2) (v := ?_) (a' := ?_) #[true, true, true, true, true, true, true, true, true, true, true, true, true, true, true, false] rfl rfl (by kernel_rfl) (fun _ _ _ h => h) (Or.inl ⟨by rfl, ?_⟩) ?_ ?_
    rotate_left
    ·
     intro w'
     go_simp
     with_reducible rfl
    rotate_left
    ·
     simp only [Act.put, List.setIfInBounds_toArray, List.set_cons_zero, List.set_cons_succ, i64_w, i32_w]
     rfl
    refine pure_ (i := 15) (N := some 3) (v := ?_) (a' := ?_) #[true, true, true, true, true, true, true, true, true, true, true, true, true, true, true, true] rfl rfl (by kernel_rfl) (fun _ _ _ h => h) (Or.inl ⟨by rfl, ?_⟩) ?_ ?_
    rotate_left
    ·
     intro w'
     go_simp
     with_reducible rfl
    rotate_left
    ·
     simp only [Act.put, List.setIfInBounds_toArray, List.set_cons_zero, List.set_cons_succ, i64_w, i32_w]
     rfl
    refine done_ (by kernel_rfl) ?_
    go_wp2_with fail
    go_ret2
    exact ⟨_, by rw [show chOk b = false by unfold chOk; rw [hfin]; rfl]; rfl, by rw [hfin]; exact hr7, hb7⟩
-- B0]
   | false =>
-- [G0
    have Hrl := Lib.hid (show (recL out).length ≤ 1000000000 by omega)
    have hconv : ∀ W', Below w.heap.size w W' → Sem.run Tryz.prog (convert 40 9 (.slice A b.length c)) W' = .ok (.string (strOfNums b)) W' := fun W' hb => Kd.C_string (P := Tryz.prog) (A := A) (c := c) Tryz.underlying40 Tryz.underlying5 Tryz.underlying9 (Kd.C_below hC hb)
    clear hrl
    obtain ⟨Ao, co, eo⟩ := Kd.R_slice hr
    subst eo
    have hg7 : wr.drew.heap[w.heap.size]? = some (.cells #[.slice A' xs.length c', .bool false] 167 (0, 0)) := hR.blk
    have hb7 : Below w.heap.size w wr.drew := below_drew hb
    have hr7 := Kd.R_drew hr
    clear c1' hR hr hb
    refine start_ (n := 16) (S := fun w' => w'.cell? ⟨w.heap.size, 1, none⟩ = some (.bool false) ∧ Sem.run Tryz.prog (convert 40 9 (.slice A b.length c)) w' = .ok (.string (strOfNums b)) w') (ds := []) #[false, false, false, false, false, false, false, false, false, false, false, false, false, false, false, false] (by kernel_rfl) rfl rfl ⟨blk_cell hg7 1, hconv _ hb7⟩ (fun hHeld => ?_)
    generalize wr.drew = w7 at hg7 hb7 hr7 hHeld ⊢
    refine pure_ (i := 0) (N := some 36) (v := ?_) (a' := ?_) #[true, false, false, false, false, false, false, false, false, false, false, false, false, false, false, false] rfl rfl (by kernel_rfl) (fun _ _ _ h => h) (Or.inl ⟨by rfl, ?_⟩) ?_ ?_
    rotate_left
    ·
     intro w'
     go_simp
     with_reducible rfl
    rotate_left
    ·
     simp only [Act.put, List.setIfInBounds_toArray, List.set_cons_zero, List.set_cons_succ, i64_w, i32_w]
     rfl
    refine pure_ (i := 1) (N := some 37) (v := ?_) (a' := ?_) #[true, true, false, false, false, false, false, false, false, false, false, false, false, false, false, false] rfl rfl (by kernel_rfl) (fun _ _ _ h => h) (Or.inl ⟨by rfl, ?_⟩) ?_ ?_
    rotate_left
    ·
     intro w'
     go_simp
     with_reducible rfl
    rotate_left
    ·
     simp only [Act.put, List.setIfInBounds_toArray, List.set_cons_zero, List.set_cons_succ, i64_w, i32_w]
     rfl
    refine pure_ (i := 2) (N := some 38) (v := ?_) (a' := ?_) #[true, true, true, false, false, false, false, false, false, false, false, false, false, false, false, false] rfl rfl (by kernel_rfl) (fun _ _ _ h => h) (Or.inl ⟨by rfl, ?_⟩) ?_ ?_
    rotate_left
    ·
     intro w'
     go_simp
     with_reducible rfl
    rotate_left
    ·
     simp only [Act.put, List.setIfInBounds_toArray, List.set_cons_zero, List.set_cons_succ, i64_w, i32_w]
     rfl
    refine pure_ (i := 3) (N := some 39) (v := ?_) (a' := ?_) #[true, true, true, true, false, false, false, false, false, false, false, false, false, false, false, false] rfl rfl (by kernel_rfl) (fun _ _ _ h => h) (Or.inl ⟨by rfl, ?_⟩) ?_ ?_
    rotate_left
    ·
     intro w'
     go_simp
     with_reducible rfl
    rotate_left
    ·
     simp only [Act.put, List.setIfInBounds_toArray, List.set_cons_zero, List.set_cons_succ, i64_w, i32_w]
     rfl
    refine take_ (i := 4) (N := some 40) (v := ?_) (a' := ?_) #[true, true, true, true, true, false, false, false, false, false, false, false, false, false, false, false] rfl rfl (by kernel_rfl) (fun _ _ _ h => h) (Or.inl ⟨by rfl, ?_⟩) hHeld ?_ ?_
    rotate_left
    ·
     rintro w' ⟨s0, s1⟩
     go_simp
     with_reducible rfl
    rotate_left
    ·
     simp only [Act.put, List.setIfInBounds_toArray, List.set_cons_zero, List.set_cons_succ, i64_w, i32_w]
     rfl
    refine pure_ (i := 5) (N := some 41) (v := ?_) (a' := ?_) #[true, true, true, true, true, true, false, false, false, false, false, false, false, false, false, false] rfl rfl (by kernel_rfl) (fun _ _ _ h => h) (Or.inl ⟨by rfl, ?_⟩) ?_ ?_
    rotate_left
    ·
     intro w'
     go_simp
     with_reducible rfl
    rotate_left
    ·
     simp only [Act.put, List.setIfInBounds_toArray, List.set_cons_zero, List.set_cons_succ, i64_w, i32_w]
     rfl
    refine pure_ (i := 6) (N := some 42) (v := ?_) (a' := ?_) #[true, true, true, true, true, true, true, false, false, false, false, false, false, false, false, false] rfl rfl (by kernel_rfl) (fun _ _ _ h => h) (Or.inl ⟨by rfl, ?_⟩) ?_ ?_
    rotate_left
    ·
     intro w'
     go_simp
     with_reducible rfl
    rotate_left
    ·
     simp only [Act.put, List.setIfInBounds_toArray, List.set_cons_zero, List.set_cons_succ, i64_w, i32_w]
     rfl
    refine pure_ (i := 7) (N := some 43) (v := ?_) (a' := ?_) #[true, true, true, true, true, true, true, true, false, false, false, false, false, false, false, false] rfl rfl (by kernel_rfl) (fun _ _ _ h => h) (Or.inl ⟨by rfl, ?_⟩) ?_ ?_
    rotate_left
    ·
     intro w'
     go_simp
     with_reducible rfl
    rotate_left
    ·
     simp only [Act.put, List.setIfInBounds_toArray, List.set_cons_zero, List.set_cons_succ, i64_w, i32_w]
     rfl
    refine pure_ (i := 10) (N := some 46) (v := ?_) (a' := ?_) #[true, true, true, true, true, true, true, true, false, false, true, false, false, false, false, false] rfl rfl (by kernel_rfl) (fun _ _ _ h => h) (Or.inl ⟨by rfl, ?_⟩) ?_ ?_
    rotate_left
    ·
     intro w'
     go_simp
     with_reducible rfl
    rotate_left
    ·
     simp only [Act.put, List.setIfInBounds_toArray, List.set_cons_zero, List.set_cons_succ, i64_w, i32_w]
     rfl
    refine take_ (i := 11) (N := some 47) (v := ?_) (a' := ?_) #[true, true, true, true, true, true, true, true, false, false, true, true, false, false, false, false] rfl rfl (by kernel_rfl) (fun _ _ _ h => h) (Or.inl ⟨by rfl, ?_⟩) hHeld ?_ ?_
    rotate_left
    ·
     rintro w' ⟨s0, s1⟩
     go_simp
     with_reducible rfl
    rotate_left
    ·
     simp only [Act.put, List.setIfInBounds_toArray, List.set_cons_zero, List.set_cons_succ, i64_w, i32_w]
     rfl
    refine one_ (i := 8) (N := some 44) #[true, true, true, true, true, true, true, true, true, false, true, true, false, false, false, false] rfl rfl (by kernel_rfl) (by decide) (fun K hK => ?_)
    refine goes_ Tryz.func88 (by kernel_rfl) rfl #[.slice Ao out.length co] (by rfl) rfl rfl (by simp only [List.map_toArray, List.map_cons, List.map_nil]; rfl) ?_
    refine (record_says Ao co out w7 (Kd.R_reads' hr7).2.2 Hrl).mono ?_
    rintro e w8 ⟨v8, rfl, hr8, hb9⟩
    refine ⟨_, rfl, ?_⟩
    have hg8 := blk_below hg7 hb9
    have ho8 := Kd.R_below hr7 hb9
    have hb8 := below_then hb7 hb7.size hb9
    obtain ⟨rs, hrs⟩ : ∃ rs, rs = recL out := ⟨_, rfl⟩
    rw [← hrs] at hr8
    have Hrs := Lib.hid hrs
    clear hrs
    obtain ⟨A8, c8, e8⟩ := Kd.R_slice hr8
    subst e8
    refine hK.out _ _ ⟨blk_cell hg8 1, hconv _ hb8⟩ (fun hHeld => ?_)
    clear hK K
    refine norm_ (a' := ?_) ?_ ?_
    rotate_left
    ·
     show Act.put _ (some 44) _ = _
     simp only [Act.put, List.setIfInBounds_toArray, List.set_cons_zero, List.set_cons_succ, i64_w, i32_w]
     rfl
    refine pure_ (i := 14) (N := some 2) (v := ?_) (a' := ?_) #[true, true, true, true, true, true, true, true, true, false, true, true, false, false, true, false] rfl rfl (by kernel_rfl) (fun _ _ _ h => h) (Or.inl ⟨by rfl, ?_⟩) ?_ ?_
    rotate_left
    ·
     intro w'
     go_simp
     with_reducible rfl
    rotate_left
    ·
     simp only [Act.put, List.setIfInBounds_toArray, List.set_cons_zero, List.set_cons_succ, i64_w, i32_w]
     rfl
    refine one_ (i := 9) (N := some 45) #[true, true, true, true, true, true, true, true, true, true, true, true, false, false, true, false] rfl rfl (by kernel_rfl) (by decide) (fun K hK => ?_)
    have hc8 := Kd.C_string (P := Tryz.prog) (A := A8) (c := c8) Tryz.underlying40 Tryz.underlying5 Tryz.underlying9 (Kd.R_reads' hr8).2.2
    refine value_ (w1 := ?_) (v := ?_) (by rfl) rfl ?_ ?_
    rotate_left 2
    ·
     go_simp
     constructor
     ·
      rfl
     ·
      rfl
    clear hc8
    refine hK.out _ _ ⟨hHeld.1, hHeld.2⟩ (fun hHeld => ?_)
    clear hK K
    refine norm_ (a' := ?_) ?_ ?_
    rotate_left
    ·
     show Act.put _ (some 45) _ = _
     simp only [Act.put, List.setIfInBounds_toArray, List.set_cons_zero, List.set_cons_succ, i64_w, i32_w]
     rfl
    refine pure_ (i := 12) (N := some 48) (v := ?_) (a' := ?_) #[true, true, true, true, true, true, true, true, true, true, true, true, true, false, true, false] rfl rfl (by kernel_rfl) (fun _ _ _ h => h) (Or.inl ⟨by rfl, ?_⟩) ?_ ?_
    rotate_left
    ·
     intro w'
     go_simp
     with_reducible rfl
    rotate_left
    ·
     simp only [Act.put, List.setIfInBounds_toArray, List.set_cons_zero, List.set_cons_succ, i64_w, i32_w]
     rfl
    refine pure_ (i := 13) (N := some 49) (v := ?_) (a' := ?_) #[true, true, true, true, true, true, true, true, true, true, true, true, true, true, true, false] rfl rfl (by kernel_rfl) (fun _ _ _ h => h) (Or.inl ⟨by rfl, ?_⟩) ?_ ?_
    rotate_left
    ·
     intro w'
     go_simp
     with_reducible rfl
    rotate_left
    ·
     simp only [Act.put, List.setIfInBounds_toArray, List.set_cons_zero, List.set_cons_succ, i64_w, i32_w]
     rfl
    refine pure_ (i := 15) (N := some 3) (v := ?_) (a' := ?_) #[true, true, true, true, true, true, true, true, true, true, true, true, true, true, true, true] rfl rfl (by kernel_rfl) (fun _ _ _ h => h) (Or.inl ⟨by rfl, ?_⟩) ?_ ?_
    rotate_left
    ·
     intro w'
     go_simp
     with_reducible rfl
    rotate_left
    ·
     simp only [Act.put, List.setIfInBounds_toArray, List.set_cons_zero, List.set_cons_succ, i64_w, i32_w]
     rfl
    refine done_ (by kernel_rfl) ?_
    go_wp2_with fail
    go_ret2
    exact ⟨_, by rw [show chOk b = ((strOfNums rs).toList == (strOfNums b).toList) by unfold chOk; rw [hfin, (show rs = recL out from Hrs)]; rfl]; rfl, by rw [hfin]; exact Kd.R_mono ho8 (fun _ _ => trivial), hb8⟩
-- G0]
  | k + 1 =>
   cases bad with
   | true =>
    have hfin : chL b = (out, true) := by rw [hch]; rfl
    have hrl := Bd.rec_le hBd
    have d1 : decide (((k + 1 : Nat) : Int) > 0) = true := decide_eq_true (by omega)
    have d2 : ((0 : Int) < (k : Int) + 1) = True := eq_true (by omega)
    clear hch hkm hBd
    go_wp2_with fail
-- [B1
    obtain ⟨Ao, co, eo⟩ := Kd.R_slice hr
    subst eo
    have hg7 : wr.drew.heap[w.heap.size]? = some (.cells #[.slice A' xs.length c', .bool true] 167 (0, 0)) := hR.blk
    have hb7 : Below w.heap.size w wr.drew := below_drew hb
    have hr7 := Kd.R_drew hr
    clear c1' hR hr hb
    refine start_ (n := 16) (S := fun w' => w'.cell? ⟨w.heap.size, 1, none⟩ = some (.bool true)) (ds := []) #[false, false, false, false, false, false, false, false, false, false, false, false, false, false, false, false] (by kernel_rfl) rfl rfl (blk_cell hg7 1) (fun hHeld => ?_)
    generalize wr.drew = w7 at hg7 hb7 hr7 hHeld ⊢
    refine pure_ (i := 0) (N := some 36) (v := ?_) (a' := ?_) #[true, false, false, false, false, false, false, false, false, false, false, false, false, false, false, false] rfl rfl (by kernel_rfl) (fun _ _ _ h => h) (Or.inl ⟨by rfl, ?_⟩) ?_ ?_
    rotate_left
    ·
     intro w'
     go_simp
     with_reducible rfl
    rotate_left
    ·
     simp only [Act.put, List.setIfInBounds_toArray, List.set_cons_zero, List.set_cons_succ, i64_w, i32_w]
     rfl
    refine pure_ (i := 1) (N := some 37) (v := ?_) (a' := ?_) #[true, true, false, false, false, false, false, false, false, false, false, false, false, false, false, false] rfl rfl (by kernel_rfl) (fun _ _ _ h => h) (Or.inl ⟨by rfl, ?_⟩) ?_ ?_
    rotate_left
    ·
     intro w'
     go_simp
     with_reducible rfl
    rotate_left
    ·
     simp only [Act.put, List.setIfInBounds_toArray, List.set_cons_zero, List.set_cons_succ, i64_w, i32_w]
     rfl
    refine pure_ (i := 2) (N := some 38) (v := ?_) (a' := ?_) #[true, true, true, false, false, false, false, false, false, false, false, false, false, false, false, false] rfl rfl (by kernel_rfl) (fun _ _ _ h => h) (Or.inl ⟨by rfl, ?_⟩) ?_ ?_
    rotate_left
    ·
     intro w'
     go_simp
     with_reducible rfl
    rotate_left
    ·
     simp only [Act.put, List.setIfInBounds_toArray, List.set_cons_zero, List.set_cons_succ, i64_w, i32_w]
     rfl
    refine pure_ (i := 3) (N := some 39) (v := ?_) (a' := ?_) #[true, true, true, true, false, false, false, false, false, false, false, false, false, false, false, false] rfl rfl (by kernel_rfl) (fun _ _ _ h => h) (Or.inl ⟨by rfl, ?_⟩) ?_ ?_
    rotate_left
    ·
     intro w'
     go_simp
     with_reducible rfl
    rotate_left
    ·
     simp only [Act.put, List.setIfInBounds_toArray, List.set_cons_zero, List.set_cons_succ, i64_w, i32_w]
     rfl
    refine take_ (i := 4) (N := some 40) (v := ?_) (a' := ?_) #[true, true, true, true, true, false, false, false, false, false, false, false, false, false, false, false] rfl rfl (by kernel_rfl) (fun _ _ _ h => h) (Or.inl ⟨by rfl, ?_⟩) hHeld ?_ ?_
    rotate_left
    ·
     intro w' s0
     go_simp
     with_reducible rfl
    rotate_left
    ·
     simp only [Act.put, List.setIfInBounds_toArray, List.set_cons_zero, List.set_cons_succ, i64_w, i32_w]
     rfl
    refine pure_ (i := 5) (N := some 41) (v := ?_) (a' := ?_) #[true, true, true, true, true, true, false, false, false, false, false, false, false, false, false, false] rfl rfl (by kernel_rfl) (fun _ _ _ h => h) (Or.inl ⟨by rfl, ?_⟩) ?_ ?_
    rotate_left
    ·
     intro w'
     go_simp
     with_reducible rfl
    rotate_left
    ·
     simp only [Act.put, List.setIfInBounds_toArray, List.set_cons_zero, List.set_cons_succ, i64_w, i32_w]
     rfl
    refine pure_ (i := 6) (N := some 42) (v := ?_) (a' := ?_) #[true, true, true, true, true, true, true, false, false, false, false, false, false, false, false, false] rfl rfl (by kernel_rfl) (fun _ _ _ h => h) (Or.inl ⟨by rfl, ?_⟩) ?_ ?_
    rotate_left
    ·
     intro w'
     go_simp
     with_reducible rfl
    rotate_left
    ·
     simp only [Act.put, List.setIfInBounds_toArray, List.set_cons_zero, List.set_cons_succ, i64_w, i32_w]
     rfl
    refine pure_ (i := 7) (N := some 43) (v := undef) (a' := ?_) #[true, true, true, true, true, true, true, true, false, false, false, false, false, false, false, false] rfl rfl (by kernel_rfl) (fun _ _ _ h => h) (Or.inr ⟨by rfl, rfl⟩) ?_ ?_
    rotate_left
    ·
     simp only [Act.put, List.setIfInBounds_toArray, List.set_cons_zero, List.set_cons_succ, i64_w, i32_w]
     rfl
    refine pure_ (i := 8) (N := some 44) (v := undef) (a' := ?_) #[true, true, true, true, true, true, true, true, true, false, false, false, false, false, false, false] rfl rfl (by kernel_rfl) (fun _ _ _ h => h) (Or.inr ⟨by rfl, rfl⟩) ?_ ?_
    rotate_left
    ·
     simp only [Act.put, List.setIfInBounds_toArray, List.set_cons_zero, List.set_cons_succ, i64_w, i32_w]
     rfl
    refine pure_ (i := 9) (N := some 45) (v := undef) (a' := ?_) #[true, true, true, true, true, true, true, true, true, true, false, false, false, false, false, false] rfl rfl (by kernel_rfl) (fun _ _ _ h => h) (Or.inr ⟨by rfl, rfl⟩) ?_ ?_
    rotate_left
    ·
     simp only [Act.put, List.setIfInBounds_toArray, List.set_cons_zero, List.set_cons_succ, i64_w, i32_w]
     rfl
    refine pure_ (i := 10) (N := some 46) (v := undef) (a' := ?_) #[true, true, true, true, true, true, true, true, true, true, true, false, false, false, false, false] rfl rfl (by kernel_rfl) (fun _ _ _ h => h) (Or.inr ⟨by rfl, rfl⟩) ?_ ?_
    rotate_left
    ·
     simp only [Act.put, List.setIfInBounds_toArray, List.set_cons_zero, List.set_cons_succ, i64_w, i32_w]
     rfl
    refine pure_ (i := 11) (N := some 47) (v := undef) (a' := ?_) #[true, true, true, true, true, true, true, true, true, true, true, true, false, false, false, false] rfl rfl (by kernel_rfl) (fun _ _ _ h => h) (Or.inr ⟨by rfl, rfl⟩) ?_ ?_
    rotate_left
    ·
     simp only [Act.put, List.setIfInBounds_toArray, List.set_cons_zero, List.set_cons_succ, i64_w, i32_w]
     rfl
    refine pure_ (i := 12) (N := some 48) (v := undef) (a' := ?_) #[true, true, true, true, true, true, true, true, true, true, true, true, true, false, false, false] rfl rfl (by kernel_rfl) (fun _ _ _ h => h) (Or.inr ⟨by rfl, rfl⟩) ?_ ?_
    rotate_left
    ·
     simp only [Act.put, List.setIfInBounds_toArray, List.set_cons_zero, List.set_cons_succ, i64_w, i32_w]
     rfl
    refine pure_ (i := 13) (N := some 49) (v := ?_) (a' := ?_) #[true, true, true, true, true, true, true, true, true, true, true, true, true, true, false, false] rfl rfl (by kernel_rfl) (fun _ _ _ h => h) (Or.inl ⟨by rfl, ?_⟩) ?_ ?_
    rotate_left
    ·
     intro w'
     go_simp
     with_reducible rfl
    rotate_left
    ·
     simp only [Act.put, List.setIfInBounds_toArray, List.set_cons_zero, List.set_cons_succ, i64_w, i32_w]
     rfl
    refine pure_ (i := 14) (N := some 2) (v := ?_) (a' := ?_) #[true, true, true, true, true, true, true, true, true, true, true, true, true, true, true, false] rfl rfl (by kernel_rfl) (fun _ _ _ h => h) (Or.inl ⟨by rfl, ?_⟩) ?_ ?_
    rotate_left
    ·
     intro w'
     go_simp
     with_reducible rfl
    rotate_left
    ·
     simp only [Act.put, List.setIfInBounds_toArray, List.set_cons_zero, List.set_cons_succ, i64_w, i32_w]
     rfl
    refine pure_ (i := 15) (N := some 3) (v := ?_) (a' := ?_) #[true, true, true, true, true, true, true, true, true, true, true, true, true, true, true, true] rfl rfl (by kernel_rfl) (fun _ _ _ h => h) (Or.inl ⟨by rfl, ?_⟩) ?_ ?_
    rotate_left
    ·
     intro w'
     go_simp
     with_reducible rfl
    rotate_left
    ·
     simp only [Act.put, List.setIfInBounds_toArray, List.set_cons_zero, List.set_cons_succ, i64_w, i32_w]
     rfl
    refine done_ (by kernel_rfl) ?_
    go_wp2_with fail
    go_ret2
    exact ⟨_, by rw [show chOk b = false by unfold chOk; rw [hfin]; rfl]; rfl, by rw [hfin]; exact hr7, hb7⟩
-- B1]
   | false =>
    obtain ⟨K, hK⟩ : ∃ K : Int, K = ((k + 1 : Nat) : Int) := ⟨_, rfl⟩
    have d1 : decide (K > 0) = true := decide_eq_true (by omega)
    have e1 : IntKind.i64.wrap (K - 1) = (k : Int) := by rw [IntWalk.i64_in _ (by omega)]; omega
    rw [← hK]
    have hBd2 := hBd.step
    have hch2 : chL b = chF k (oneC xs false).2.1 (oneC xs false).2.2 (out ++ [(oneC xs false).1]) := by rw [hch]; rfl
    have hKn : K.toNat = k + 1 := by omega
    have hkn : out.length + (k + 1) ≤ m := hkm
    clear hK hch hBd hkm
    obtain ⟨⟨a, xs1, bad1⟩, h1⟩ : ∃ p, rnumL xs false = p := ⟨_, rfl⟩
    obtain ⟨⟨s2, xs2, bad2⟩, h2⟩ : ∃ p, rtextL xs1 bad1 = p := ⟨_, rfl⟩
    obtain ⟨⟨s3, xs3, bad3⟩, h3⟩ : ∃ p, rtextL xs2 bad2 = p := ⟨_, rfl⟩
    have ho : oneC xs false = (⟨s2, s3, a == 1⟩, xs3, bad3) := by unfold oneC; rw [h1]; simp only; rw [h2]; simp only; rw [h3]
    rw [ho] at hBd2 hch2
    simp only at hBd2 hch2
    clear ho
    have LB := Lib.hid (show (out.length + 1) * 40 ≤ 140737488355328 by omega)
    have Hm := Lib.hid (show out.length + 1 + k ≤ m by omega)
    have HBd := Lib.hid hBd2
    have Hch := Lib.hid hch2
    have HKn := Lib.hid hKn
    clear hBd2 hch2 hkn hKn hl hrg
    go_wp2_with fail
    refine (rnum_says2 w.heap.size A' c' xs false a xs1 bad1 h1 w wr hb hR).mono ?_
    rintro e w2 ⟨rfl, hk2, A2, c2, hR2⟩
    have hb2 : Below w.heap.size w w2 := tur_below hb hk2 (fun k hk => by omega)
    have hr2 := Kd.R_kept (R_mono49 hr (fun k hk => by obtain ⟨cs, hc⟩ := Kd.R_typed hr k hk; exact blk_ne hc hR.blk (by decide))) hk2.kept (fun k hk h => hk h)
    clear hR hk2 hr hb
    go_wp2_with fail
    refine (rtext_says w.heap.size A2 c2 xs1 bad1 s2 xs2 bad2 h2 w w2 (Nat.le_refl _) hb2 hR2).mono ?_
    rintro e w3 ⟨rfl, hk3, A3, c3, hR3⟩
    have hb3 : Below w.heap.size w w3 := tur_below hb2 hk3 (fun k hk => by omega)
    have hr3 := Kd.R_kept hr2 hk3.kept (fun k hk h => hk h)
    clear hR2 hk3 hr2 hb2
    go_wp2_with fail
    refine (rtext_says w.heap.size A3 c3 xs2 bad2 s3 xs3 bad3 h3 w w3 (Nat.le_refl _) hb3 hR3).mono ?_
    rintro e w4 ⟨rfl, hk4, A4, c4, hR4⟩
    have hb4 : Below w.heap.size w w4 := tur_below hb3 hk4 (fun k hk => by omega)
    have hr4 := Kd.R_kept hr3 hk4.kept (fun k hk h => hk h)
    clear hR3 hk4 hr3 hb3
    have hra := Kd.R_alloc hr4 (.cells #[.string s2, .string s3, .bool (a == 1)] 69)
    go_wp2_with ((with_reducible refine gate_builtin (b := .append) (xs := #[.tmp 26, .tmp 34]) rfl ?_); at_builtin; refine Kd.R_append k69 (w0 := w) w.heap.size rfl (.tmp 26) (.tmp 34) 35 69 (.agg #[.string ⟨#[]⟩, .string ⟨#[]⟩, .bool false]) 40 rfl Tryz.underlying35 (by kernel_rfl) rfl (by decide) (by decide) u5 out ⟨s2, s3, a == 1⟩ [.string s2, .string s3, .bool (a == 1)] (fun _ => True) (fun _ => False) rfl rfl (k69_mkM _ _ _ ⟨s2, s3, a == 1⟩) (fun _ h => h.elim) (fun _ _ => trivial) (Kd.R_mono hr4 (fun _ _ => trivial)) hb4 hb4.size LB ?_; intro v5 w5 ho5 hb5 hg5 hat5)
    have hR5 : RdAt w w5 w.heap.size A4 c4 xs3 bad3 := ⟨blk_grown hR4.blk hg5 (fun e => by exact (hr4.1 _ e.symm) rfl), hR4.row, hR4.le⟩
    refine ⟨⟨k, xs3, bad3, out ++ [⟨s2, s3, a == 1⟩], A4, c4, rfl, hR5, ho5, hb5, by exact Hch, ?_, by exact HBd⟩, ?_⟩
    ·
     have := (show out.length + 1 + k ≤ m from Hm); rw [List.length_append, List.length_singleton]; exact this
    ·
     have := (show K.toNat = k + 1 from HKn); simp only [intOf]; omega
end Go.Proofs.YtpoblffgclmmlaaGreatDoor.X
end
section
set_option linter.unusedVariables false
set_option linter.unusedSimpArgs false
namespace Go.Proofs.YtpoblffgclmmlaaGreatDoor.X
open Go.RowKit Go.Maps Go.Proofs.YtpoblffgclmmlaaGreatDoorW.PrintWords Go.Proofs.YtpoblffgclmmlaaGreatDoorW.PrintLast Go.Proofs.YtpoblffgclmmlaaGreatDoorW.PrintMore Go.Proofs.YtpoblffgclmmlaaGreatDoor.Q

/-- What records come to. -/
def openD : List (List Int) → DataW Unit → Option (DataW Unit)
 | [], D => some D
 | r :: l, D => if chOk r = true then openD l (turnD D (chL r).1) else none
theorem openD_snoc (l : List (List Int)) (r : List Int) (D : DataW Unit) : openD (l ++ [r]) D = (openD l D).bind fun D' => if chOk r = true then some (turnD D' (chL r).1) else none := by
 induction l generalizing D with
 | nil => simp [openD]
 | cons a l ih =>
  simp only [List.cons_append, openD]
  split
  ·
   exact ih _
  ·
   rfl
theorem openD_append (l l2 : List (List Int)) (D : DataW Unit) : openD (l ++ l2) D = (openD l D).bind fun D' => openD l2 D' := by
 induction l generalizing D with
 | nil => simp [openD]
 | cons a l ih =>
  simp only [List.cons_append, openD]
  split
  ·
   exact ih _
  ·
   rfl
theorem chF_len (n : Nat) (xs : List Int) (bad : Bool) (out : List S69) : (chF n xs bad out).1.length ≤ out.length + (if bad = true then 0 else xs.length + 1) := by
 induction n generalizing xs bad out with
 | zero => simp [chF]
 | succ n ih =>
  cases bad with
  | true => simp [chF]
  | false =>
   have h := ih (oneC xs false).2.1 (oneC xs false).2.2 (out ++ [(oneC xs false).1])
   have e : chF (n + 1) xs false out = chF n (oneC xs false).2.1 (oneC xs false).2.2 (out ++ [(oneC xs false).1]) := rfl
   rw [e]
   rw [List.length_append, List.length_singleton] at h
   simp only [Bool.false_eq_true, if_false]
   have h1 := rnumL_len xs false
   have h2 := rtextL_len (rnumL xs false).2.1 (rnumL xs false).2.2
   have h3 := rtextL_len (rtextL (rnumL xs false).2.1 (rnumL xs false).2.2).2.1 (rtextL (rnumL xs false).2.1 (rnumL xs false).2.2).2.2
   have e2 : (oneC xs false).2.1.length = (rtextL (rtextL (rnumL xs false).2.1 (rnumL xs false).2.2).2.1 (rtextL (rnumL xs false).2.1 (rnumL xs false).2.2).2.2).2.1.length := rfl
   split at h
   ·
    omega
   ·
    rename_i hb
    have hb' : (oneC xs false).2.2 = false := by simpa using hb
    have h4 := h3.1 hb'
    have h5 := h2.1 h4.1
    have h6 := h1.1 h5.1
    omega
theorem chF_small (N n : Nat) (xs : List Int) (bad : Bool) (out : List S69) (hx : xs.length ≤ N) (ho : ∀ x ∈ out, x.f0.size ≤ N ∧ x.f1.size ≤ N) : ∀ x ∈ (chF n xs bad out).1, x.f0.size ≤ N ∧ x.f1.size ≤ N := by
 induction n generalizing xs bad out with
 | zero => exact ho
 | succ n ih =>
  cases bad with
  | true => exact ho
  | false =>
   have h1 := rnumL_len xs false
   have h2 := rtextL_len (rnumL xs false).2.1 (rnumL xs false).2.2
   have h3 := rtextL_len (rtextL (rnumL xs false).2.1 (rnumL xs false).2.2).2.1 (rtextL (rnumL xs false).2.1 (rnumL xs false).2.2).2.2
   have e2 : (oneC xs false).2.1.length = (rtextL (rtextL (rnumL xs false).2.1 (rnumL xs false).2.2).2.1 (rtextL (rnumL xs false).2.1 (rnumL xs false).2.2).2.2).2.1.length := rfl
   have e0 : (oneC xs false).1.f0.size = (rtextL (rnumL xs false).2.1 (rnumL xs false).2.2).1.size := rfl
   have e1 : (oneC xs false).1.f1.size = (rtextL (rtextL (rnumL xs false).2.1 (rnumL xs false).2.2).2.1 (rtextL (rnumL xs false).2.1 (rnumL xs false).2.2).2.2).1.size := rfl
   refine ih (oneC xs false).2.1 (oneC xs false).2.2 (out ++ [(oneC xs false).1]) (by omega) ?_
   intro x hx
   rcases List.mem_append.1 hx with h | h
   ·
    exact ho x h
   ·
    rw [List.mem_singleton.1 h]; omega
theorem chL_small (b : List Int) : (chL b).1.length ≤ b.length + 1 ∧ ∀ x ∈ (chL b).1, x.f0.size ≤ b.length ∧ x.f1.size ≤ b.length := by
 have h1 := rnumL_len b false
 have h2 := chF_len (rnumL b false).1.toNat (rnumL b false).2.1 (rnumL b false).2.2 []
 refine ⟨?_, chF_small b.length _ _ _ [] h1.2 (by simp)⟩
 show (chF _ _ _ _).1.length ≤ _
 rw [List.length_nil] at h2
 split at h2 <;> omega
theorem oneL_le (l : List Int) : (oneL l).1.length ≤ 32768 := by
 unfold oneL
 split
 ·
  exact Nat.zero_le _
 ·
  split
  ·
   exact Nat.zero_le _
  ·
   rename_i h
   have := (getL_range (l.take 4)).1
   show (List.take _ _).length ≤ _
   rw [List.length_take]; omega
theorem splitF_small (m : Nat) (l : List Int) (i : Nat) : (splitF m l i).1.length ≤ m ∧ ∀ r ∈ (splitF m l i).1, r.length ≤ 32768 := by
 induction m generalizing i with
 | zero => exact ⟨Nat.le_refl _, by simp [splitF]⟩
 | succ m ih =>
  unfold splitF
  split
  ·
   have := ih (i + 8 + (oneL (l.drop i)).1.length)
   refine ⟨by simp only [List.length_cons]; omega, ?_⟩
   intro r hr
   rcases List.mem_cons.1 hr with h | h
   ·
    rw [h]; exact oneL_le _
   ·
    exact this.2 r h
  ·
   exact ⟨Nat.zero_le _, by simp⟩
theorem splitF_end (m : Nat) (l : List Int) (i : Nat) (hi : i ≤ l.length) : (splitF m l i).2 ≤ l.length := by
 induction m generalizing i with
 | zero => exact hi
 | succ m ih =>
  unfold splitF
  split
  ·
   rename_i h
   have := oneL_fits (l.drop i) h
   rw [List.length_drop] at this
   exact ih _ (by omega)
  ·
   exact hi
/-- What Open answers. -/
def OpenP (base t : Nat) (v : Value) (xs : List Int) (sure : Int) (w : World) (e : Ending) (w' : World) : Prop := Tur w w' (fun k => k = t) ∧
 ((openD (splitL xs).1 (.map []) = none ∧ e = .returned (.tuple #[.pointer none, .int .i64 2]) ∧ TapeAt w' base t v xs sure (-1) false) ∨
 ∃ D s m n v', openD (splitL xs).1 (.map []) = some D ∧ e = .returned (.tuple #[.pointer (some ⟨s, 0, none⟩), .int .i64 0]) ∧ StoreAt w' w.heap.size s t m n D ∧ n ≤ 3300000000000 ∧
  TapeAt w' base t v' (xs.take (splitL xs).2) (if (splitL xs).2 < xs.length then ((splitL xs).2 : Int) else sure) (-1) false ∧ (v' = v ∨ ∀ k, v'.ownBlock = some k → w.heap.size ≤ k))
set_option maxHeartbeats 8000000 in
set_option maxRecDepth 100000 in
theorem open_says (t : Nat) (v : Value) (xs : List Int) (sure : Int) (w0 w : World) (hGL : GL w0) (hB : Below w0.heap.size w0 w) (hT : TapeAt w w0.heap.size t v xs sure (-1) false) (hl : xs.length ≤ 100000000) :
  Calls Tryz.prog 19 #[.pointer (some ⟨t, 0, none⟩)] w fun e w' => OpenP w0.heap.size t v xs sure w e w' := by
 have hmm := @run_makeMap Tryz.prog
 go_enter Tryz.func19, Tryz.ntmps19
 go_wp2_with fail
 refine (bytes_says w0.heap.size t v xs sure (-1) false w hT (by omega)).mono ?_
 rintro e w1 ⟨v1, rfl, hr1, hb1⟩
 obtain ⟨A1, c1, e1⟩ := Kd.R_slice hr1
 subst e1
 have hrd := Kd.R_reads' hr1
 have hB1 := below_then hB hB.size hb1
 go_wp2_with fail
 refine (frame_Split.says A1 c1 xs w1 hrd.2.2 hrd.2.1 hl (hGL.below hB1)).mono ?_
 rintro e w2 ⟨v2, rfl, hr2, hb2⟩
 obtain ⟨⟨l, n⟩, hsp⟩ : ∃ p, splitL xs = p := ⟨_, rfl⟩
 rw [hsp] at hr2
 obtain ⟨A2, c2, e2⟩ := Kd.S_slice hr2
 subst e2
 have hls : l.length ≤ xs.length + 1 ∧ ∀ r ∈ l, r.length ≤ 32768 := by
  have := splitF_small (xs.length + 1) xs 0
  rw [show splitF (xs.length + 1) xs 0 = (l, n) from hsp] at this
  exact this
 have hne : n ≤ xs.length := by
  have := splitF_end (xs.length + 1) xs 0 (Nat.zero_le _)
  rw [show splitF (xs.length + 1) xs 0 = (l, n) from hsp] at this
  exact this
 have hb12 : Below w.heap.size w w2 := below_then hb1 hb1.size hb2
 have hrows := (Kd.S_reads' hr2).2.2
 have hrd2 := Kd.C_below hrd.2.2 hb2
 have hcx := hrd.2.1
 go_wp2_with fail
 refine wp_world ?_
 intro w3 hw3
 have hS3 : StoreAt w3 w2.heap.size (w2.heap.size + 1) t w2.heap.size 0 (.map []) := by
  rw [hw3]
  refine ⟨?_, ?_, Nat.le_succ _, Nat.le_refl _⟩
  ·
   have := heap_alloc_new (w2.alloc (.map #[] 0)) (.cells #[.pointer (some ⟨t, 0, none⟩), .map (some w2.heap.size)] 125)
   rw [show (w2.alloc (.map #[] 0)).heap.size = w2.heap.size + 1 by simp] at this
   exact this
  ·
   exact World.ownsMap.alloc (World.ownsMap_made _ _ _ _) _
 have hb3 : Below w2.heap.size w2 w3 := by rw [hw3]; exact ((Below.refl _ w2).alloc (Nat.le_refl _) _).alloc (by simp) _
 have Hsp := Lib.hid hsp
 clear hsp hw3 hb2 hr1 hB1 hr2 hrd
 go_loopw [28] (fun v28 wr => ∃ (i m cnt : Nat) (D : DataW Unit), v28 = .int .i64 i ∧ i ≤ l.length ∧ openD (l.take i) (.map []) = some D ∧ StoreAt wr w2.heap.size (w2.heap.size + 1) t m cnt D ∧ cnt ≤ i * 32769 ∧ Below w2.heap.size w2 wr) (fun v28 _ => l.length - (intOf v28).toNat)
 case atStart => exact ⟨0, w2.heap.size, 0, .map [], rfl, Nat.zero_le _, rfl, hS3, by omega, hb3⟩
 case round =>
  clear hS3 hb3
  obtain ⟨i, m, cnt, D, rfl, hi, hop, hS, hcnt, hb⟩ := hrel
  by_cases hlt : i < l.length
  ·
   have d1 : decide ((i : Int) < (l.length : Int)) = true := decide_eq_true (by omega)
   obtain ⟨ad, A0, c0, rfl, hx, hlen, hCr⟩ := at_L3 (Kd.C_below hrows hb) (i : Int) (by omega) (by omega)
   have hrd : rd_L3 l (i : Int) = l.getD i [] := by unfold rd_L3; rw [Int.toNat_natCast]
   rw [hrd] at hx hlen hCr
   have hmem : l.getD i [] ∈ l := by simp [List.getD_eq_getElem?_getD, List.getElem?_eq_getElem hlt]
   have htk : l.take (i + 1) = l.take i ++ [l.getD i []] := by
    rw [List.take_add_one]; simp [List.getD_eq_getElem?_getD, List.getElem?_eq_getElem hlt]
   have hdr : l = l.take i ++ (l.getD i [] :: l.drop (i + 1)) := by
    conv => lhs; rw [← List.take_append_drop (i + 1) l, htk]
    simp
   have hr8 := hls.2 _ hmem
   obtain ⟨r, hr⟩ : ∃ r, r = l.getD i [] := ⟨_, rfl⟩
   rw [← hr] at hx hlen hCr htk hdr hr8
   clear hr hrd hmem
   have hsm := chL_small r
   simp only [Int.toNat_natCast] at hx
   have i3 : ((i : Int) < (l.length : Int)) = True := eq_true (by omega)
   have i0 : (0 ≤ (i : Int)) = True := eq_true (by omega)
   have e1 : IntKind.i64.wrap ((i : Int) + 1) = (i : Int) + 1 := IntWalk.i64_in _ (by omega)
   have Hdr := Lib.hid hdr
   have Htk := Lib.hid htk
   have Hop := Lib.hid hop
   have Hi := Lib.hid (show i + 1 ≤ l.length by omega)
   clear hdr htk hop
   go_wp2_with fail
   refine (changes_says A0 c0 r wr hCr hlen (by omega)).mono ?_
   rintro e w4 ⟨v4, rfl, hr4, hb4⟩
   have hb24 : Below w2.heap.size w2 w4 := below_then hb hb.size hb4
   have hS4 := hS.kept (Tur.of_below hb4 (fun _ => False)) (fun h => h) (fun h => h)
   obtain ⟨A4, c4, e4⟩ := Kd.R_slice hr4
   subst e4
   cases hok : chOk r with
   | false =>
    go_wp2_with fail
    go_ret2
    have hb04 := below_then hb12 hb12.size hb24
    refine ⟨Tur.of_below hb04 _, .inl ⟨?_, rfl, hT.kept (Tur.of_below hb04 (fun _ => False)) (fun h => h) (fun _ _ h => h)⟩⟩
    rw [(show splitL xs = (l, n) from Hsp)]
    show openD l _ = none
    rw [(show l = l.take i ++ (r :: l.drop (i + 1)) from Hdr), openD_append]
    rw [(show openD (l.take i) (.map []) = some D from Hop)]
    show openD (r :: _) D = none
    rw [openD, if_neg (by rw [hok]; decide)]
   | true =>
    have c1 := blk_cell hS4.blk 1
    go_wp2_with fail
    refine (turned_says m cnt D A4 c4 (chL r).1 w4 hS4.map (Kd.R_reads' hr4).2.2 (by unfold maxLen; omega) (fun x hx => by have := hsm.2 x hx; unfold maxLen; omega)).mono ?_
    rintro e w5 ⟨m', rfl, hm', hM5, hb5⟩
    have hb25 : Below w2.heap.size w2 w5 := below_then hb24 hb24.size hb5
    have hS5 := blk_below hS4.blk hb5
    have c1 := blk_cell hS5 1
    have f1 := blk_frozen hS5 1
    have hS6 := blk_put hS5 1 (.map (some m')) rfl
    have hM6 := World.ownsMap.setCell hM5 (a := ⟨w2.heap.size + 1, 1, none⟩) (MapAt.ne hM5 hS5) (.map (some m'))
    have hb26 := Below.setCell hb25 (p := ⟨w2.heap.size + 1, 1, none⟩) (Nat.le_succ _) (.map (some m'))
    have hs24 : w2.heap.size ≤ w4.heap.size := hb24.size
    have LC := Lib.hid (show cnt + (chL r).1.length ≤ (i + 1) * 32769 by omega)
    clear hcnt
    go_wp2_with fail
    refine ⟨⟨i + 1, m', cnt + (chL r).1.length, turnD D (chL r).1, rfl, Hi, ?_, ⟨hS6, hM6, Nat.le_succ _, by omega⟩, LC, hb26⟩, ?_⟩
    ·
     rw [(show l.take (i + 1) = l.take i ++ [r] from Htk), openD_snoc, (show openD (l.take i) (.map []) = some D from Hop)]
     show (if chOk r = true then _ else _) = _
     rw [if_pos hok]
    ·
     have := (show i + 1 ≤ l.length from Hi); simp only [intOf]; omega
  ·
   have d1 : decide ((i : Int) < (l.length : Int)) = false := decide_eq_false (by omega)
   have hil : i = l.length := by omega
   subst hil
   rw [List.take_length] at hop
   have hopE : openD l (.map []) = some D := hop
   have Hop := Lib.hid hop
   clear hop
   have hT2 := hT.kept (Tur.of_below (below_then hb12 hb12.size hb) (fun _ => False)) (fun h => h) (fun _ _ h => h)
   have hbz : w.heap.size ≤ w2.heap.size := hb12.size
   have hle := hls.1
   by_cases hnx : n < xs.length
   ·
    have d2 : decide (n < xs.length) = true := decide_eq_true hnx
    have ht : (xs.take n).length = n := by rw [List.length_take]; omega
    have hCt := Kd.C_take (Kd.C_below hrd2 hb) hne
    have hbs := hb.size
    have h0 := hB.size
    have hsw := swap_says w0.heap.size t v xs (xs.take n) sure (-1) false A1 c1 wr hT2 hCt (by omega) (by omega) (by omega) ((n : Int) + 1) (-1) true false (by rw [ht]; unfold burnL; rw [if_neg (by decide), if_pos (.inl (by decide)), if_neg (by decide)])
    rw [ht] at hsw
    have Hn := Lib.hid hnx
    have Ht := Lib.hid ht
    clear hnx ht hCt
    go_wp2_with fail
    refine hsw.mono ?_
    rintro e wf ⟨rfl, hkf, v', hTf, hvf⟩
    simp only [if_true] at hTf
    go_wp2_with fail
    go_ret2
    refine ⟨(Tur.of_below (below_then hb12 hb12.size hb) _).then_ hkf (fun k h => .inl h), .inr ⟨D, _, m, cnt, v', ?_, rfl, ?_, by omega, ?_, ?_⟩⟩
    ·
     rw [(show splitL xs = (l, n) from Hsp)]; exact (show openD l (.map []) = some D from Hop)
    ·
     have hne := hTf.ne
     have htw : t < w.heap.size := (Array.getElem?_eq_some_iff.1 hT.blk).1
     have hmg := hS.mge
     have hSf := hS.kept hkf (by omega) (by omega)
     exact ⟨hSf.blk, hSf.map, by omega, by have := hSf.mge; omega⟩
    ·
     rw [(show splitL xs = (l, n) from Hsp)]
     show TapeAt wf _ t v' (xs.take n) (if n < xs.length then _ else _) _ _
     rw [if_pos (show n < xs.length from Hn), (show (xs.take n).length = n from Ht)] at *
     exact hTf
    ·
     rcases hvf with h | h
     ·
      exact .inl h
     ·
      exact .inr fun k hk => by have := h k hk; omega
   ·
    have d2 : decide (n < xs.length) = false := decide_eq_false hnx
    go_wp2_with fail
    go_ret2
    refine ⟨Tur.of_below (below_then hb12 hb12.size hb) _, .inr ⟨D, _, m, cnt, v, ?_, rfl, ⟨hS.blk, hS.map, by omega, by have := hS.mge; omega⟩, by omega, ?_, .inl rfl⟩⟩
    ·
     rw [(show splitL xs = (l, n) from Hsp)]; exact (show openD l (.map []) = some D from Hop)
    ·
     rw [(show splitL xs = (l, n) from Hsp)]
     show TapeAt wr _ t v (xs.take n) (if n < xs.length then _ else _) _ _
     rw [if_neg hnx, List.take_of_length_le (by omega)]
     exact hT2
end Go.Proofs.YtpoblffgclmmlaaGreatDoor.X
end
