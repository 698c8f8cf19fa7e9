/- A part of the proof of a card: what some functions of the program come to, each under the conditions that its theorem names. -/
import Derived.Lib.Hide
import Derived.Sort.Walk0
import Derived.Test.YtpoblffgclmmlaaGreatDoorPkPk5
import Derived.Test.YtpoblffgclmmlaaGreatDoorPkPk11
import Derived.Test.YtpoblffgclmmlaaGreatDoorPkPk12
import Derived.Test.YtpoblffgclmmlaaGreatDoorPkPk14
import Derived.Test.YtpoblffgclmmlaaGreatDoorPkPk15
section
set_option linter.unusedVariables false
set_option linter.unusedSimpArgs false
namespace Go.Proofs.YtpoblffgclmmlaaGreatDoor.X
open Go.RowKit Go.Maps Go.Proofs.YtpoblffgclmmlaaGreatDoorW.PrintWords Go.Proofs.YtpoblffgclmmlaaGreatDoorW.PrintLast Go.Proofs.YtpoblffgclmmlaaGreatDoorW.PrintMore Go.Proofs.YtpoblffgclmmlaaGreatDoor.Q

/-- A tape. -/
structure TapeS where
 b : List Int
 sure : Int
 fuse : Int
 down : Bool
/-- A tape's word. -/
structure TapeS.Good (T : TapeS) : Prop where
 len : T.b.length ≤ 100000000
 sure : 0 ≤ T.sure ∧ T.sure ≤ T.b.length
 fuse : -1 ≤ T.fuse ∧ T.fuse < 9223372036854775808
def codeL (ok : Bool) : Int := if ok = true then 0 else 8
def TapeS.write (T : TapeS) (ys : List Int) : TapeS × Int :=
 let B := burnL (ys.length : Int) T.fuse T.down false
 (⟨T.b ++ ys.take B.1.1.toNat, T.sure, B.2.1, B.2.2⟩, codeL B.1.2)
def TapeS.sync (T : TapeS) : TapeS × Int :=
 let B := burnL 1 T.fuse T.down true
 (⟨T.b, if B.1.2 = true then (T.b.length : Int) else T.sure, B.2.1, B.2.2⟩, codeL B.1.2)
def TapeS.swap (T : TapeS) (ys : List Int) : TapeS × Int :=
 let B := burnL ((ys.length : Int) + 1) T.fuse T.down true
 (⟨if B.1.2 = true then ys else T.b, if B.1.2 = true then (ys.length : Int) else T.sure, B.2.1, B.2.2⟩, codeL B.1.2)
def TapeS.append (T : TapeS) (ys : List Int) : TapeS × Int :=
 if (T.write ys).2 = 0 then (T.write ys).1.sync else T.write ys
/-- A tape in memory. -/
def TpAt (W : World) (base t : Nat) (v : Value) (T : TapeS) : Prop := TapeAt W base t v T.b T.sure T.fuse T.down
/-- What a call may turn of a tape; where its row may be behind it. -/
def Rowd (v v' : Value) (z : Nat) : Prop := ∀ k, v'.ownBlock = some k → v.ownBlock = some k ∨ z ≤ k
theorem Rowd.refl (v : Value) (z : Nat) : Rowd v v z := fun k h => .inl h
theorem Rowd.trans {v v1 v2 : Value} {z z1 : Nat} (h : Rowd v v1 z) (h2 : Rowd v1 v2 z1) (hz : z ≤ z1) : Rowd v v2 z := fun k hk => by
 rcases h2 k hk with h' | h'
 ·
  exact h k h'
 ·
  exact .inr (Nat.le_trans hz h')
theorem TpAt.ne_cells {W : World} {base t : Nat} {v : Value} {T : TapeS} (h : TpAt W base t v T) {g e : Nat} {cs : Array Value} (hb : W.heap[g]? = some (.cells cs e (0, 0))) (he : 5 ≠ e) : v.ownBlock ≠ some g := fun hk => by
 obtain ⟨cells, hc⟩ := (h.row.typed g hk).2
 exact blk_ne hc hb he rfl
theorem burn_range (n fuse : Int) (down whole : Bool) (hn : 0 ≤ n) (hf : -1 ≤ fuse ∧ fuse < 9223372036854775808) : 0 ≤ (burnL n fuse down whole).1.1 ∧ (burnL n fuse down whole).1.1 ≤ n ∧ -1 ≤ (burnL n fuse down whole).2.1 ∧ (burnL n fuse down whole).2.1 < 9223372036854775808 := by
 unfold burnL
 by_cases hd : down = true
 ·
  rw [if_pos hd]; exact ⟨Int.le_refl _, hn, hf⟩
 ·
  rw [if_neg hd]
  by_cases hc : fuse < 0 ∨ n ≤ fuse
  ·
   rw [if_pos hc]
   by_cases h0 : 0 ≤ fuse
   ·
    rw [if_pos h0]; exact ⟨hn, Int.le_refl _, by show -1 ≤ fuse - n; omega, by show fuse - n < _; omega⟩
   ·
    rw [if_neg h0]; exact ⟨hn, Int.le_refl _, hf.1, hf.2⟩
  ·
   rw [if_neg hc]
   cases whole
   ·
    exact ⟨by show 0 ≤ fuse; omega, by show fuse ≤ n; omega, by show (-1 : Int) ≤ 0; omega, by show (0 : Int) < _; omega⟩
   ·
    exact ⟨by show (0 : Int) ≤ 0; omega, by show 0 ≤ n; omega, by show (-1 : Int) ≤ 0; omega, by show (0 : Int) < _; omega⟩
theorem twrite_says (base t : Nat) (v : Value) (T : TapeS) (ys : List Int) (A : Option Addr) (c : Nat) (w : World) (h : TpAt w base t v T) (hG : T.Good) (hC : Kd.C (Kd.int .u8) w A ys.length ys) (hcy : ys.length ≤ c) (hl : ys.length ≤ 100000000) (hbase : base ≤ w.heap.size) :
  Calls Tryz.prog 138 #[.pointer (some ⟨t, 0, none⟩), .slice A ys.length c] w fun e w' =>
   e = .returned (.int .i64 (T.write ys).2) ∧ Tur w w' (fun k => k = t ∨ v.ownBlock = some k) ∧ ∃ v', TpAt w' base t v' (T.write ys).1 ∧ Rowd v v' w.heap.size := by
 obtain ⟨done, ok, fuse1, down1, hB⟩ : ∃ d o f g, burnL (ys.length : Int) T.fuse T.down false = ((d, o), (f, g)) := ⟨_, _, _, _, rfl⟩
 have hr := burn_range (ys.length : Int) T.fuse T.down false (by omega) hG.fuse
 rw [hB] at hr
 simp only at hr
 obtain ⟨d, rfl⟩ : ∃ d : Nat, done = (d : Int) := ⟨done.toNat, by omega⟩
 have hl' := hG.len
 refine (write_says base t v T.b ys T.sure T.fuse T.down A c w h hC hcy (by omega) hbase (by have := hG.fuse; omega) d fuse1 ok down1 hB (by omega)).mono ?_
 rintro e w' ⟨rfl, hk, v', hT, hv⟩
 have hw : T.write ys = (⟨T.b ++ ys.take d, T.sure, fuse1, down1⟩, codeL ok) := by unfold TapeS.write; rw [hB]; rfl
 rw [hw]
 refine ⟨rfl, hk, v', hT, fun k hk => ?_⟩
 rcases hv with h | h
 ·
  exact .inl (by rw [← h]; exact hk)
 ·
  exact .inr (h k hk)
theorem tsync_says (base t : Nat) (v : Value) (T : TapeS) (w : World) (h : TpAt w base t v T) (hf : -1 ≤ T.fuse ∧ T.fuse < 9223372036854775808) :
  Calls Tryz.prog 139 #[.pointer (some ⟨t, 0, none⟩)] w fun e w' =>
   e = .returned (.int .i64 T.sync.2) ∧ Tur w w' (fun k => k = t) ∧ TpAt w' base t v T.sync.1 := by
 obtain ⟨done, ok, fuse1, down1, hB⟩ : ∃ d o f g, burnL 1 T.fuse T.down true = ((d, o), (f, g)) := ⟨_, _, _, _, rfl⟩
 refine (sync_says base t v T.b T.sure T.fuse T.down w h (by omega) done fuse1 ok down1 hB).mono ?_
 rintro e w' ⟨rfl, hk, hT⟩
 have hw : T.sync = (⟨T.b, if ok = true then (T.b.length : Int) else T.sure, fuse1, down1⟩, codeL ok) := by unfold TapeS.sync; rw [hB]
 rw [hw]
 exact ⟨rfl, hk, hT⟩
theorem tswap_says (base t : Nat) (v : Value) (T : TapeS) (ys : List Int) (A : Option Addr) (c : Nat) (w : World) (h : TpAt w base t v T) (hf : -1 ≤ T.fuse ∧ T.fuse < 9223372036854775808) (hC : Kd.C (Kd.int .u8) w A ys.length ys) (hl : ys.length ≤ 100000000) (hbase : base ≤ w.heap.size) :
  Calls Tryz.prog 83 #[.pointer (some ⟨t, 0, none⟩), .slice A ys.length c] w fun e w' =>
   e = .returned (.int .i64 (T.swap ys).2) ∧ Tur w w' (fun k => k = t) ∧ ∃ v', TpAt w' base t v' (T.swap ys).1 ∧ Rowd v v' w.heap.size := by
 obtain ⟨done, ok, fuse1, down1, hB⟩ : ∃ d o f g, burnL ((ys.length : Int) + 1) T.fuse T.down true = ((d, o), (f, g)) := ⟨_, _, _, _, rfl⟩
 refine (swap_says base t v T.b ys T.sure T.fuse T.down A c w h hC (by omega) hbase (by omega) done fuse1 ok down1 hB).mono ?_
 rintro e w' ⟨rfl, hk, v', hT, hv⟩
 have hw : T.swap ys = (⟨if ok = true then ys else T.b, if ok = true then (ys.length : Int) else T.sure, fuse1, down1⟩, codeL ok) := by unfold TapeS.swap; rw [hB]
 rw [hw]
 refine ⟨rfl, hk, v', hT, fun k hk => ?_⟩
 rcases hv with h | h
 ·
  exact .inl (by rw [← h]; exact hk)
 ·
  exact .inr (h k hk)
theorem TapeS.write_good (T : TapeS) (ys : List Int) (h : T.Good) (hl : T.b.length + ys.length ≤ 100000000) : (T.write ys).1.Good := by
 have hr := burn_range (ys.length : Int) T.fuse T.down false (by omega) h.fuse
 have hs := h.sure
 refine ⟨?_, ⟨hs.1, ?_⟩, ⟨hr.2.2.1, hr.2.2.2⟩⟩
 ·
  show (T.b ++ List.take _ ys).length ≤ _
  rw [List.length_append, List.length_take]; omega
 ·
  show T.sure ≤ ((T.b ++ List.take _ ys).length : Int)
  rw [List.length_append]; omega
set_option maxHeartbeats 4000000 in
set_option maxRecDepth 100000 in
theorem append_says (base s t m n : Nat) (D : DataW Unit) (v : Value) (T : TapeS) (ys : List Int) (A : Option Addr) (c : Nat) (w : World) (hS : StoreAt w base s t m n D) (h : TpAt w base t v T) (hG : T.Good) (hC : Kd.C (Kd.int .u8) w A ys.length ys) (hcy : ys.length ≤ c) (hl : T.b.length + ys.length ≤ 100000000) (hbase : base ≤ w.heap.size) :
  Calls Tryz.prog 91 #[.pointer (some ⟨s, 0, none⟩), .slice A ys.length c] w fun e w' =>
   e = .returned (.int .i64 (T.append ys).2) ∧ Tur w w' (fun k => k = t ∨ v.ownBlock = some k) ∧ ∃ v', TpAt w' base t v' (T.append ys).1 ∧ Rowd v v' w.heap.size := by
 have c0 := blk_cell hS.blk 0
 have hst : s ≠ t := blk_ne hS.blk h.blk (by decide)
 have hg1 := T.write_good ys hG hl
 obtain ⟨T1, hT1⟩ : ∃ T1, T1 = T.write ys := ⟨_, rfl⟩
 have hw := twrite_says base t v T ys A c w h hG hC hcy (by omega) hbase
 rw [← hT1] at hw hg1
 have hap : T.append ys = if T1.2 = 0 then T1.1.sync else T1 := by rw [hT1]; rfl
 have hcode : T1.2 = 0 ∨ T1.2 = 8 := by
  rw [hT1]; show codeL _ = 0 ∨ codeL _ = 8
  unfold codeL; split
  ·
   exact .inl rfl
  ·
   exact .inr rfl
 obtain ⟨R, hR⟩ : ∃ R, T.append ys = R := ⟨_, rfl⟩
 rw [hR]
 have hR2 := hR.symm.trans hap
 have HR := Lib.hid hR2
 have Hcode := Lib.hid hcode
 clear hT1 hap hcode hR hR2
 go_enter Tryz.func91, Tryz.ntmps91
 go_wp2_with fail
 refine hw.mono ?_
 rintro e w1 ⟨rfl, hk1, v1, hA1, hv1⟩
 have hS1 := hS.blk
 have b1 := blk_kept hS.blk hk1.kept (by
  rintro (h | h)
  ·
   exact hst h
  ·
   exact TpAt.ne_cells ‹TpAt w base t v T› hS.blk (by decide) h)
 rcases (show T1.2 = 0 ∨ T1.2 = 8 from Hcode) with hc | hc
 ·
  have hR : R = T1.1.sync := by
   have h := (show R = if T1.2 = 0 then T1.1.sync else T1 from HR)
   rw [if_pos hc] at h; exact h
  subst hR
  rw [hc]
  have c01 := blk_cell b1 0
  have h1 := tsync_says base t v1 T1.1 w1 hA1 hg1.fuse
  go_wp2_with fail
  refine h1.mono ?_
  rintro e w2 ⟨rfl, hk2, hA2⟩
  go_wp2_with fail
  go_ret
  exact ⟨rfl, hk1.then_ hk2 (fun k h => .inl (.inl h)), v1, hA2, hv1⟩
 ·
  have hR : R = T1 := by
   have h := (show R = if T1.2 = 0 then T1.1.sync else T1 from HR)
   rw [if_neg (by rw [hc]; decide)] at h; exact h
  subst hR
  rw [hc]
  go_wp2_with fail
  go_ret
  exact ⟨by rw [hc]; rfl, hk1, v1, hA1, hv1⟩
end Go.Proofs.YtpoblffgclmmlaaGreatDoor.X
namespace Go.Proofs.YtpoblffgclmmlaaGreatDoor.X
open Go.RowKit Go.WideMaps Go.Maps Go.Proofs.YtpoblffgclmmlaaGreatDoorW.PrintWords Go.Proofs.YtpoblffgclmmlaaGreatDoorW.PrintLast Go.Proofs.YtpoblffgclmmlaaGreatDoorW.PrintMore Go.Proofs.YtpoblffgclmmlaaGreatDoor.Q

/-- A map's keys, rising. -/
def keysD (D : DataW Unit) : List ByteArray := ((strKeys D).mergeSort leB).map fun l => (⟨l.toArray⟩ : ByteArray)
theorem encs_keys (ss : List (List UInt8)) : (ss.map encStr) = encs Value.string (ss.map fun l => (⟨l.toArray⟩ : ByteArray)) := by
 induction ss with
 | nil => rfl
 | cons a ss ih =>
  rw [List.map_cons, List.map_cons, ih]; rfl
theorem keysD_len {W : World} {m n : Nat} {D : DataW Unit} (h : MapAt W m n D) : (keysD D).length ≤ n := by
 unfold keysD
 rw [List.length_map, List.length_mergeSort]
 have h1 := World.ownsMap.size_le h
 obtain ⟨es, rfl, _⟩ := World.ownsMap.keysOf h
 show (es.map _).length ≤ n
 rw [List.length_map]; exact h1
theorem keysD_small {W : World} {m n : Nat} {D : DataW Unit} (h : MapAt W m n D) : ∀ x ∈ keysD D, x.size ≤ maxLen := by
 intro x hx
 obtain ⟨l, hl, rfl⟩ := List.mem_map.1 hx
 exact strKeys_le h Tryz.underlying9 l (List.mem_mergeSort.1 hl)
section
variable {ops : Array Oper} {rest : List Oper} {o : Oper} {a : Act} {Q : Exit → Act → World → Prop}
theorem wpList_lookup_str (w : World) (hg : o.guard = none) (m x : Operand) (hop : o.op = Op.lookup 123 m x false)
  (b n : Nat) (D : DataW Unit) (hm : a.eval m = .map (some b)) (hown : MapAt w b n D) (key : ByteArray) (hx : a.eval x = .string key) (hkey : key.size ≤ maxLen)
  (hK : wpList Tryz.prog ops Q rest (a.put o.dst (.string (valS D key))) w) : wpList Tryz.prog ops Q (o :: rest) a w := by
 refine wpList_plain hg fun K' hK' => ?_
 have hz : plainElem (H := Unit) Tryz.prog 9 (.string ⟨#[]⟩) = some (.lit (.string []), []) := plainElem_string Tryz.underlying9 (by decide)
 have hk : keyOf Tryz.prog 9 (.string key) = some (kb key) := keyOf_string_mk Tryz.underlying9 hkey
 obtain ⟨v, ps, hrun, hv⟩ := World.ownsMap.lookup hown keyLaw Tryz.underlying123 (zeroS w) hz hk
 have hv := valS_of hv
 subst hv
 unfold Oper.wp
 simp [execOp, hop, hm, hx, hrun, Result.andThen]
 exact hK' _ _ hK
end
theorem mkeys_says (m : Nat) (w : World) : Calls Tryz.prog 108 #[.map (some m)] w fun e w' => e = .returned (.func (.func 150) #[] #[.pointer (some ⟨w.heap.size, 0, none⟩)]) ∧ w' = w.alloc (.cells #[.map (some m)] 123) :=
 callsIn_wide.1 (Go.Proofs.Tryz.maps_Keys_108 (some m) w)
theorem sorted_says (m n : Nat) (D : DataW Unit) (w : World) (h : MapAt w m n D) (hn : n ≤ 3500000000000) :
  Calls Tryz.prog 107 #[.func (.func 150) #[] #[.pointer (some ⟨w.heap.size, 0, none⟩)]] (w.alloc (.cells #[.map (some m)] 123)) fun e w' => ∃ v, e = .returned v ∧ Kd.R Kd.string 9 w' (w.heap.size + 1) (fun _ => True) v (keysD D) ∧ Below w.heap.size w w' := by
 have hsz : Maps.size D ≤ n := by
  exact World.ownsMap.size_le h
 refine (callsIn_wide.1 (Go.Proofs.Tryz.slices_Sorted_keys_107_108 m n D _ w h (by unfold maxLen; omega) (by omega))).mono ?_
 rintro e w' ⟨v, ss, rfl, hS, hrow, hnil, hb⟩
 refine ⟨v, rfl, ?_, ?_⟩
 ·
  have hk : (ss.mergeSort (fun x y => decide (x ≤ y))).map encStr = encs Value.string (keysD D) := by
   rw [encs_keys]
   unfold keysD
   rw [← mergeSort_of_perm hS]
  have hlen : (keysD D).length = ss.length := by
   unfold keysD
   rw [List.length_map, List.length_mergeSort, hS.length_eq]
  rw [hk, ← hlen] at hrow
  have h0 : (w.alloc (.cells #[.map (some m)] 123)).heap.size = w.heap.size + 1 := by simp
  rw [h0] at hrow
  exact Kd.R_of_own hrow (fun _ _ => trivial)
 ·
  exact below_then (below_alloc (Below.refl _ w) _) (by simp) hb
set_option maxHeartbeats 4000000 in
set_option maxRecDepth 100000 in
theorem whole_core (m n : Nat) (D : DataW Unit) (ks : List ByteArray) (hks : keysD D = ks) (w : World) (h : MapAt w m n D) (hn : n ≤ 3500000000000) :
  Calls Tryz.prog 137 #[.map (some m)] w fun e w' => ∃ v, e = .returned v ∧ Kd.R k69 69 w' w.heap.size (fun _ => True) v (ks.map fun k => (⟨k, valS D k, false⟩ : S69)) ∧ Below w.heap.size w w' := by
 have hso := fun w1 => sorted_says m n D w1
 have hlen := keysD_len h
 have hsm := keysD_small h
 rw [hks] at hso hlen hsm
 clear hks
 go_enter Tryz.func137, Tryz.ntmps137
 go_wp2_with fail
 refine (mkeys_says m w).mono ?_
 rintro e w1 ⟨rfl, rfl⟩
 go_wp2_with fail
 refine (hso w h hn).mono ?_
 rintro e w1 ⟨v1, rfl, hr1, hb1⟩
 obtain ⟨A1, c1, e1⟩ := Kd.R_slice hr1
 subst e1
 have hrd := (Kd.R_reads' hr1).2.2
 clear hr1
 have hb01 : Below w.heap.size w w1 := hb1
 go_wp2_with fail
 go_loopw [3, 10] (fun v3 v10 wr => ∃ i : Nat, v10 = .int .i64 i ∧ i ≤ ks.length ∧ Kd.R k69 69 wr w1.heap.size (fun _ => True) v3 ((ks.take i).map fun k => (⟨k, valS D k, false⟩ : S69)) ∧ Below w1.heap.size w1 wr) (fun _ v10 _ => ks.length - (intOf v10).toNat)
 case atStart => exact ⟨0, rfl, Nat.zero_le _, Kd.R_nil _ _ _ _ _, Below.refl _ w1⟩
 case round =>
  obtain ⟨i, rfl, hi, hr, hb⟩ := hrel
  have hC := Kd.C_below hrd hb
  by_cases hlt : i < ks.length
  ·
   have d1 : decide ((i : Int) < (ks.length : Int)) = true := decide_eq_true (by omega)
   obtain ⟨ad, rfl, hx⟩ := Kd.at_string hC (i : Int) (by omega) (by omega)
   have i3 : ((i : Int) < (ks.length : Int)) = True := eq_true (by omega)
   have i0 : (0 ≤ (i : Int)) = True := eq_true (by omega)
   have e1 : IntKind.i64.wrap ((i : Int) + 1) = (i : Int) + 1 := IntWalk.i64_in _ (by omega)
   simp only [Int.toNat_natCast] at hx
   have hxg : rdOf ByteArray.empty ks (i : Int) = ks.getD i ByteArray.empty := by unfold rdOf; rw [Int.toNat_natCast]
   have hmem : ks.getD i ByteArray.empty ∈ ks := by simp [List.getD_eq_getElem?_getD, List.getElem?_eq_getElem hlt]
   have htk : ks.take (i + 1) = ks.take i ++ [ks.getD i ByteArray.empty] := by
    rw [List.take_add_one]; simp [List.getD_eq_getElem?_getD, List.getElem?_eq_getElem hlt]
   have hxs := hsm _ hmem
   rw [hxg] at hx
   clear hxg hmem
   generalize ks.getD i ByteArray.empty = x at hx htk hxs
   have hm := h.kept (Tur.of_below (below_then hb01 hb01.size hb) (fun _ => False)) (fun h => h)
   have LB := Lib.hid (show (((ks.take i).map fun k => (⟨k, valS D k, false⟩ : S69)).length + 1) * 40 ≤ 140737488355328 by rw [List.length_map, List.length_take]; omega)
   have Htk := Lib.hid htk
   have Hi := Lib.hid (show i + 1 ≤ ks.length by omega)
   clear htk hsm
   obtain ⟨out, hout⟩ : ∃ out, out = (ks.take i).map fun k => (⟨k, valS D k, false⟩ : S69) := ⟨_, rfl⟩
   rw [← hout] at hr LB
   have Hout := Lib.hid hout
   clear hout
   go_wp2_with (first
    | (at_lookup; refine wpList_lookup_str _ rfl _ _ rfl m n D rfl hm x rfl hxs ?_)
    | ((with_reducible refine gate_builtin (b := .append) (xs := #[.tmp 14, .tmp 20]) rfl ?_); at_builtin; refine Kd.R_append k69 (w0 := w1) w1.heap.size rfl (.tmp 14) (.tmp 20) 35 69 (.agg #[.string ⟨#[]⟩, .string ⟨#[]⟩, .bool false]) 40 rfl Tryz.underlying35 (by kernel_rfl) rfl (by decide) (by decide) u3 out ⟨x, valS D x, false⟩ [.string x, .string (valS D x), .bool false] (fun _ => True) (fun _ => False) rfl rfl (k69_mkM _ _ _ ⟨x, valS D x, false⟩) (fun _ h => h.elim) (fun _ _ => trivial) (Kd.R_mono hr (fun _ _ => trivial)) hb hb.size LB ?_; intro v5 w5 ho5 hb5 hg5 hat5))
   refine ⟨⟨i + 1, rfl, Hi, ?_, hb5⟩, ?_⟩
   ·
    rw [(show ks.take (i + 1) = ks.take i ++ [x] from Htk), List.map_append, ← (show out = _ from Hout)]
    exact ho5
   ·
    have := (show i + 1 ≤ ks.length from Hi); simp only [intOf]; omega
  ·
   have d1 : decide ((i : Int) < (ks.length : Int)) = false := decide_eq_false (by omega)
   have hil : i = ks.length := by omega
   subst hil
   rw [List.take_length] at hr
   go_wp2_with fail
   go_ret
   exact ⟨_, rfl, Kd.R_lower hr hb01.size, below_then hb01 hb01.size hb⟩
theorem whole_says (m n : Nat) (D : DataW Unit) (w : World) (h : MapAt w m n D) (hn : n ≤ 3500000000000) :
  Calls Tryz.prog 137 #[.map (some m)] w fun e w' => ∃ v, e = .returned v ∧ Kd.R k69 69 w' w.heap.size (fun _ => True) v ((keysD D).map fun k => (⟨k, valS D k, false⟩ : S69)) ∧ Below w.heap.size w w' :=
 whole_core m n D _ rfl w h hn
end Go.Proofs.YtpoblffgclmmlaaGreatDoor.X
namespace Go.Proofs.YtpoblffgclmmlaaGreatDoor.X
open Go.RowKit Go.WideMaps Go.Maps Go.Proofs.YtpoblffgclmmlaaGreatDoorW.PrintWords Go.Proofs.YtpoblffgclmmlaaGreatDoorW.PrintLast Go.Proofs.YtpoblffgclmmlaaGreatDoorW.PrintMore Go.Proofs.YtpoblffgclmmlaaGreatDoor.Q

def allD (D : DataW Unit) : List S69 := (keysD D).map fun k => (⟨k, valS D k, false⟩ : S69)
/-- The tape has all rows, and nothing more. -/
def TapeS.renew (T : TapeS) (D : DataW Unit) : TapeS × Int :=
 if 32768 < (recL (allD D)).length ∨ 65536 < (frameL (recL (allD D))).length then (T, 7) else T.swap (frameL (recL (allD D)))
theorem frameL_len (l : List Int) : (frameL l).length = l.length + 8 := by
 simp only [frameL, List.length_append, markL_length]
 simp [four]
 omega
set_option maxHeartbeats 4000000 in
set_option maxRecDepth 100000 in
theorem renew_says (base s t m n m2 n2 : Nat) (D D2 : DataW Unit) (v : Value) (T : TapeS) (w0 w : World) (hGL : GL w0) (hB : Below w0.heap.size w0 w) (hS : StoreAt w base s t m n D) (h : TpAt w base t v T) (hG : T.Good) (hM : MapAt w m2 n2 D2) (hn : n2 ≤ 3500000000000) (hl : (recL (allD D2)).length ≤ 90000000) (hbase : base ≤ w.heap.size) :
  Calls Tryz.prog 90 #[.pointer (some ⟨s, 0, none⟩), .map (some m2)] w fun e w' =>
   e = .returned (.int .i64 (T.renew D2).2) ∧ Tur w w' (fun k => k = t) ∧ ∃ v', TpAt w' base t v' (T.renew D2).1 ∧ Rowd v v' w.heap.size := by
 obtain ⟨R, hR⟩ : ∃ R, T.renew D2 = R := ⟨_, rfl⟩
 rw [hR]
 have hrn : R = if 32768 < (recL (allD D2)).length ∨ 65536 < (frameL (recL (allD D2))).length then (T, 7) else T.swap (frameL (recL (allD D2))) := by rw [← hR]; rfl
 have hwho := whole_says m2 n2 D2 w hM hn
 have e0 : (keysD D2).map (fun k => (⟨k, valS D2 k, false⟩ : S69)) = allD D2 := rfl
 rw [e0] at hwho
 have hfl := frameL_len (recL (allD D2))
 generalize allD D2 = l at hrn hwho hl hfl
 have Hrn := Lib.hid hrn
 have Hfl := Lib.hid hfl
 clear hR e0 hrn hfl
 go_enter Tryz.func90, Tryz.ntmps90
 go_wp2_with fail
 refine hwho.mono ?_
 rintro e w1 ⟨v1, rfl, hr1, hb1⟩
 obtain ⟨A1, c1, e1⟩ := Kd.R_slice hr1
 subst e1
 have hC1 := (Kd.R_reads' hr1).2.2
 go_wp2_with fail
 refine (record_says A1 c1 l w1 hC1 (by omega)).mono ?_
 rintro e w2 ⟨v2, rfl, hr2, hb2⟩
 obtain ⟨A2, c2, e2⟩ := Kd.R_slice hr2
 subst e2
 have hC2 := (Kd.R_reads' hr2)
 have hb02 := below_then hb1 hb1.size hb2
 go_wp2_with fail
 have hfr := frame_Frame.says A2 c2 (recL l) w2 hC2.2.2 hC2.2.1 (by omega) (hGL.below (below_then hB hB.size hb02))
 have hfl := (show (frameL (recL l)).length = _ from Hfl)
 have hrn := (show R = _ from Hrn)
 clear Hfl Hrn
 generalize frameL (recL l) = ys at hfr hfl hrn
 have Hrn := Lib.hid hrn
 have Hfl := Lib.hid hfl
 clear hrn hfl
 refine hfr.mono ?_
 rintro e w3 ⟨v3, rfl, hr3, hb3⟩
 obtain ⟨A3, c3, e3⟩ := Kd.R_slice hr3
 subst e3
 have hC3 := (Kd.R_reads' hr3)
 have hb03 := below_then hb02 hb02.size hb3
 have hS3 := hS.kept (Tur.of_below hb03 (fun _ => False)) (fun h => h) (fun h => h)
 have hT3 : TpAt w3 base t v T := TapeAt.kept h (Tur.of_below hb03 (fun _ => False)) (fun h => h) (fun _ _ h => h)
 have c0 := blk_cell hS3.blk 0
 have hfl := (show ys.length = _ from Hfl)
 have hrn := (show R = _ from Hrn)
 clear Hfl Hrn
 by_cases hl1 : 32768 < (recL l).length
 ·
  have d1 : decide ((32768 : Int) < ((recL l).length : Int)) = true := decide_eq_true (by omega)
  rw [if_pos (.inl hl1)] at hrn
  subst hrn
  clear hfl
  go_wp2_with fail
  go_ret
  exact ⟨rfl, Tur.of_below hb03 _, v, hT3, Rowd.refl _ _⟩
 ·
  have d1 : decide ((32768 : Int) < ((recL l).length : Int)) = false := decide_eq_false (by omega)
  rw [if_neg (by omega)] at hrn
  have d2 : decide ((65536 : Int) < (ys.length : Int)) = false := decide_eq_false (by omega)
  have hsw := tswap_says base t v T ys A3 c3 w3 hT3 hG.fuse hC3.2.2 (by omega) (by have := hb03.size; omega)
  have Hl := Lib.hid hl1
  clear hfl hl1
  generalize T.swap ys = R2 at hrn hsw
  subst hrn
  go_wp2_with fail
  refine hsw.mono ?_
  rintro e w4 ⟨rfl, hk4, v4, hT4, hv4⟩
  go_wp2_with fail
  go_ret
  refine ⟨rfl, (Tur.of_below hb03 _).then_ hk4 (fun k h => .inl h), v4, hT4, fun k hk => ?_⟩
  rcases hv4 k hk with h | h
  ·
   exact .inl h
  ·
   exact .inr (Nat.le_trans hb03.size h)
end Go.Proofs.YtpoblffgclmmlaaGreatDoor.X
namespace Go.Proofs.YtpoblffgclmmlaaGreatDoor.X
open Go.RowKit Go.WideMaps Go.Maps Go.Proofs.YtpoblffgclmmlaaGreatDoorW.PrintWords Go.Proofs.YtpoblffgclmmlaaGreatDoorW.PrintLast Go.Proofs.YtpoblffgclmmlaaGreatDoorW.PrintMore Go.Proofs.YtpoblffgclmmlaaGreatDoor.Q

/-- Does a text begin so? -/
def preB (s p : ByteArray) : Bool := Lib.hasPrefix s.data.toList p.data.toList
/-- What Do does to the tape, and what it answers. -/
def doT (T : TapeS) (D : DataW Unit) (l : List S69) : TapeS × Int :=
 if l.length = 0 then (T, 0) else if 32768 < (recL l).length then (T, 3) else
 if 65536 < (frameL (recL l)).length + T.b.length then T.renew (turnD D l) else T.append (frameL (recL l))
/-- .. and to the rows. -/
def doD (T : TapeS) (D : DataW Unit) (l : List S69) : DataW Unit := if (doT T D l).2 = 0 then turnD D l else D
theorem MapAt.ne_row {W : World} {m n base t : Nat} {D : DataW Unit} {v : Value} {T : TapeS} (h : MapAt W m n D) (hT : TpAt W base t v T) : v.ownBlock ≠ some m := fun hk => by
 obtain ⟨cells, hc⟩ := (hT.row.typed m hk).2
 exact MapAt.ne h hc rfl
/-- What Do leaves. -/
def DoP (base s t n : Nat) (v : Value) (R : TapeS × Int) (D2 : DataW Unit) (k : Nat) (w : World) (e : Ending) (w' : World) : Prop :=
 e = .returned (.int .i64 R.2) ∧ Tur w w' (fun k => k = s ∨ k = t ∨ v.ownBlock = some k) ∧ ∃ m' n' v', StoreAt w' base s t m' n' D2 ∧ n' ≤ n + k ∧ TpAt w' base t v' R.1 ∧ Rowd v v' w.heap.size
set_option maxHeartbeats 8000000 in
set_option maxRecDepth 100000 in
theorem do_core (base s t m n : Nat) (D : DataW Unit) (v : Value) (T : TapeS) (A : Option Addr) (c : Nat) (l : List S69) (w0 w : World) (hGL : GL w0) (hB : Below w0.heap.size w0 w) (hS : StoreAt w base s t m n D) (h : TpAt w base t v T) (hG : T.Good) (hC : Kd.C k69 w A l.length l) (hcl : l.length ≤ c)
  (hn : n + l.length ≤ 3400000000000) (hll : l.length ≤ 90000000) (hl : (recL l).length ≤ 90000000) (hTl : T.b.length ≤ 1000000) (hx : ∀ x ∈ l, x.f0.size ≤ maxLen ∧ x.f1.size ≤ maxLen) (hl2 : (recL (allD (turnD D l))).length ≤ 90000000) (hbase : base ≤ w.heap.size)
  (R : TapeS × Int) (D2 : DataW Unit) (hR : R = doT T D l) (hD : D2 = if R.2 = 0 then turnD D l else D) :
  Calls Tryz.prog 25 #[.pointer (some ⟨s, 0, none⟩), .slice A l.length c] w fun e w' => DoP base s t n v R D2 l.length w e w' := by
 unfold doT at hR
 have c01 := blk_cell hS.blk 1
 have hst : s ≠ t := blk_ne hS.blk h.blk (by decide)
 go_enter Tryz.func25, Tryz.ntmps25
 by_cases hl0 : l.length = 0
 ·
  have d0 : decide ((l.length : Int) = 0) = true := decide_eq_true (by omega)
  rw [if_pos hl0] at hR
  have hD' : D2 = D := by
   have hnil : l = [] := List.length_eq_zero_iff.1 hl0
   rw [hD, hR, hnil]; rfl
  subst hD'
  subst hR
  clear hD
  go_wp2_with fail
  go_ret
  exact ⟨rfl, Tur.refl _ _, m, n, v, hS, by omega, h, Rowd.refl _ _⟩
 ·
  have d0 : decide ((l.length : Int) = 0) = false := decide_eq_false (by omega)
  rw [if_neg hl0] at hR
  have HR := Lib.hid hR
  have HD := Lib.hid hD
  clear hR hD
  go_wp2_with fail
  refine (record_says A c l w hC (by omega)).mono ?_
  rintro e w1 ⟨v1, rfl, hr1, hb1⟩
  obtain ⟨A1, c1, e1⟩ := Kd.R_slice hr1
  subst e1
  have hC1 := (Kd.R_reads' hr1)
  have hR := (show R = _ from HR)
  clear HR
  by_cases hl1 : 32768 < (recL l).length
  ·
   have d1 : decide ((32768 : Int) < ((recL l).length : Int)) = true := decide_eq_true (by omega)
   rw [if_pos hl1] at hR
   have hD' : D2 = D := by
    have hD := (show D2 = _ from HD)
    rw [hD, hR]; rfl
   clear HD
   subst hD'
   subst hR
   go_wp2_with fail
   go_ret
   exact ⟨rfl, Tur.of_below hb1 _, m, n, v, hS.kept (Tur.of_below hb1 (fun _ => False)) (fun h => h) (fun h => h), by omega, TapeAt.kept h (Tur.of_below hb1 (fun _ => False)) (fun h => h) (fun _ _ h => h), Rowd.refl _ _⟩
  ·
   have d1 : decide ((32768 : Int) < ((recL l).length : Int)) = false := decide_eq_false (by omega)
   rw [if_neg hl1] at hR
   have hfl := frameL_len (recL l)
   have hfr := fun A2 c2 w2 => frame_Frame.says A2 c2 (recL l) w2
   generalize frameL (recL l) = ys at hfr hfl hR
   have HR := Lib.hid hR
   have Hfl := Lib.hid hfl
   have Hl1 := Lib.hid hl1
   clear hR hfl hl1
   have hS1 := hS.kept (Tur.of_below hb1 (fun _ => False)) (fun h => h) (fun h => h)
   have c01 := blk_cell hS1.blk 1
   go_wp2_with fail
   refine (turned_says m n D A c l w1 hS1.map (Kd.C_below hC hb1) (by unfold maxLen; omega) hx).mono ?_
   rintro e w2 ⟨m2, rfl, hm2, hM2, hb2⟩
   have hb02 := below_then hb1 hb1.size hb2
   go_wp2_with fail
   refine (hfr A1 c1 w2 (Kd.C_below hC1.2.2 hb2) hC1.2.1 (by omega) (hGL.below (below_then hB hB.size hb02))).mono ?_
   rintro e w3 ⟨v3, rfl, hr3, hb3⟩
   obtain ⟨A3, c3, e3⟩ := Kd.R_slice hr3
   subst e3
   have hC3 := (Kd.R_reads' hr3)
   have hb03 := below_then hb02 hb02.size hb3
   have hS3 := hS.kept (Tur.of_below hb03 (fun _ => False)) (fun h => h) (fun h => h)
   have hT3 : TpAt w3 base t v T := TapeAt.kept h (Tur.of_below hb03 (fun _ => False)) (fun h => h) (fun _ _ h => h)
   have hM3 := hM2.kept (Tur.of_below hb3 (fun _ => False)) (fun h => h)
   have c00 := blk_cell hS3.blk 0
   go_wp2_with fail
   refine (bytes_says base t v T.b T.sure T.fuse T.down w3 hT3 (by omega)).mono ?_
   rintro e w4 ⟨v4, rfl, hr4, hb4⟩
   obtain ⟨A4, c4, e4⟩ := Kd.R_slice hr4
   subst e4
   have hb04 := below_then hb03 hb03.size hb4
   have hS4 := hS.kept (Tur.of_below hb04 (fun _ => False)) (fun h => h) (fun h => h)
   have hT4 : TpAt w4 base t v T := TapeAt.kept h (Tur.of_below hb04 (fun _ => False)) (fun h => h) (fun _ _ h => h)
   have hM4 := hM3.kept (Tur.of_below hb4 (fun _ => False)) (fun h => h)
   have hC4 := Kd.C_below hC3.2.2 hb4
   have es : IntKind.i64.wrap (65536 - (T.b.length : Int)) = 65536 - (T.b.length : Int) := IntWalk.i64_in _ (by omega)
   clear hr4 hr3 hr1 hfr
   have hR := (show R = _ from HR)
   have hfl := (show ys.length = _ from Hfl)
   have hl1 := (show ¬ 32768 < (recL l).length from Hl1)
   clear HR Hfl Hl1
   by_cases h2 : 65536 < ys.length + T.b.length
   ·
    have d2 : decide (65536 - (T.b.length : Int) < (ys.length : Int)) = true := decide_eq_true (by omega)
    rw [if_pos h2] at hR
    have hca := renew_says base s t m n m2 (n + l.length) D (turnD D l) v T w0 w4 hGL (below_then hB hB.size hb04) hS4 hT4 hG hM4 (by omega) hl2 (by have := hb04.size; omega)
    rw [← hR] at hca
    clear hR hfl hl1 h2
    go_wp2_with fail
    refine hca.mono ?_
    rintro e w5 ⟨rfl, hk5, v5, hT5, hv5⟩
    have hne2 := TpAt.ne_cells hT4 hS4.blk (by decide)
    have b5 := blk_kept hS4.blk hk5.kept hst
    have hm5 := hM4.kept hk5 (fun e => MapAt.ne hM4 hT4.blk e)
    have hm5' := hS4.map.kept hk5 (fun e => MapAt.ne hS4.map hT4.blk e)
    have hRv : Rowd v v5 w.heap.size := fun k hk => (hv5 k hk).elim .inl (fun h => .inr (Nat.le_trans hb04.size h))
    have hk05 : Tur w w5 (fun k => k = s ∨ k = t ∨ v.ownBlock = some k) := (Tur.of_below hb04 _).then_ hk5 (fun k h => .inl (.inr (.inl h)))
    have hwz := hb1.size
    have hD := (show D2 = _ from HD)
    by_cases h0 : R.2 = 0
    ·
     rw [if_pos h0] at hD
     subst hD
     rw [h0]
     have f1 := blk_frozen b5 1
     have cc1 := blk_cell b5 1
     go_wp2_with fail
     go_ret
     have hS6 := blk_put b5 1 (.map (some m2)) rfl
     have hM6 := World.ownsMap.setCell hm5 (a := ⟨s, 1, none⟩) (MapAt.ne hm5 b5) (.map (some m2))
     have hk6 : Tur w (w5.setCell ⟨s, 1, none⟩ (.map (some m2))) (fun k => k = s ∨ k = t ∨ v.ownBlock = some k) := hk05.setCell (.inl (.inl rfl)) _
     have hT6 : TpAt (w5.setCell ⟨s, 1, none⟩ (.map (some m2))) base t v5 R.1 := TapeAt.kept hT5 ((Tur.refl w5 (fun k => k = s)).setCell (.inl rfl) _) (fun h => hst h.symm) (fun k hk e => TpAt.ne_cells hT5 b5 (by decide) (by rw [← e]; exact hk))
     exact ⟨by rw [h0]; rfl, hk6, m2, n + l.length, v5, ⟨hS6, hM6, hS.ge, by omega⟩, Nat.le_refl _, hT6, hRv⟩
    ·
     rw [if_neg h0] at hD
     subst hD
     have db : (R.2 == 0) = false := beq_false_of_ne h0
     have dd : decide (R.2 = 0) = false := decide_eq_false h0
     go_wp2_with fail
     go_ret
     exact ⟨rfl, hk05, m, n, v5, ⟨b5, hm5', hS.ge, hS.mge⟩, by omega, hT5, hRv⟩
   ·
    have d2 : decide (65536 - (T.b.length : Int) < (ys.length : Int)) = false := decide_eq_false (by omega)
    rw [if_neg h2] at hR
    have hca := append_says base s t m n D v T ys A3 c3 w4 hS4 hT4 hG hC4 hC3.2.1 (by omega) (by have := hb04.size; omega)
    rw [← hR] at hca
    clear hR hfl hl1 h2
    go_wp2_with fail
    refine hca.mono ?_
    rintro e w5 ⟨rfl, hk5, v5, hT5, hv5⟩
    have hne2 := TpAt.ne_cells hT4 hS4.blk (by decide)
    have b5 := blk_kept hS4.blk hk5.kept (by rintro (h | h); exact hst h; exact hne2 h)
    have hm5 := hM4.kept hk5 (by rintro (h | h); exact MapAt.ne hM4 hT4.blk h; exact hM4.ne_row hT4 h)
    have hm5' := hS4.map.kept hk5 (by rintro (h | h); exact MapAt.ne hS4.map hT4.blk h; exact hS4.map.ne_row hT4 h)
    have hRv : Rowd v v5 w.heap.size := fun k hk => (hv5 k hk).elim .inl (fun h => .inr (Nat.le_trans hb04.size h))
    have hk05 : Tur w w5 (fun k => k = s ∨ k = t ∨ v.ownBlock = some k) := (Tur.of_below hb04 _).then_ hk5 (fun k h => .inl (.inr h))
    have hwz := hb1.size
    have hD := (show D2 = _ from HD)
    by_cases h0 : R.2 = 0
    ·
     rw [if_pos h0] at hD
     subst hD
     rw [h0]
     have f1 := blk_frozen b5 1
     have cc1 := blk_cell b5 1
     go_wp2_with fail
     go_ret
     have hS6 := blk_put b5 1 (.map (some m2)) rfl
     have hM6 := World.ownsMap.setCell hm5 (a := ⟨s, 1, none⟩) (MapAt.ne hm5 b5) (.map (some m2))
     have hk6 : Tur w (w5.setCell ⟨s, 1, none⟩ (.map (some m2))) (fun k => k = s ∨ k = t ∨ v.ownBlock = some k) := hk05.setCell (.inl (.inl rfl)) _
     have hT6 : TpAt (w5.setCell ⟨s, 1, none⟩ (.map (some m2))) base t v5 R.1 := TapeAt.kept hT5 ((Tur.refl w5 (fun k => k = s)).setCell (.inl rfl) _) (fun h => hst h.symm) (fun k hk e => TpAt.ne_cells hT5 b5 (by decide) (by rw [← e]; exact hk))
     exact ⟨by rw [h0]; rfl, hk6, m2, n + l.length, v5, ⟨hS6, hM6, hS.ge, by omega⟩, Nat.le_refl _, hT6, hRv⟩
    ·
     rw [if_neg h0] at hD
     subst hD
     have db : (R.2 == 0) = false := beq_false_of_ne h0
     have dd : decide (R.2 = 0) = false := decide_eq_false h0
     go_wp2_with fail
     go_ret
     exact ⟨rfl, hk05, m, n, v5, ⟨b5, hm5', hS.ge, hS.mge⟩, by omega, hT5, hRv⟩
theorem do_says (base s t m n : Nat) (D : DataW Unit) (v : Value) (T : TapeS) (A : Option Addr) (c : Nat) (l : List S69) (w0 w : World) (hGL : GL w0) (hB : Below w0.heap.size w0 w) (hS : StoreAt w base s t m n D) (h : TpAt w base t v T) (hG : T.Good) (hC : Kd.C k69 w A l.length l) (hcl : l.length ≤ c)
  (hn : n + l.length ≤ 3400000000000) (hll : l.length ≤ 90000000) (hl : (recL l).length ≤ 90000000) (hTl : T.b.length ≤ 1000000) (hx : ∀ x ∈ l, x.f0.size ≤ maxLen ∧ x.f1.size ≤ maxLen) (hl2 : (recL (allD (turnD D l))).length ≤ 90000000) (hbase : base ≤ w.heap.size) :
  Calls Tryz.prog 25 #[.pointer (some ⟨s, 0, none⟩), .slice A l.length c] w fun e w' => DoP base s t n v (doT T D l) (doD T D l) l.length w e w' :=
 do_core base s t m n D v T A c l w0 w hGL hB hS h hG hC hcl hn hll hl hTl hx hl2 hbase _ _ rfl rfl
set_option maxHeartbeats 4000000 in
set_option maxRecDepth 100000 in
theorem keys_core (base s t m n : Nat) (D : DataW Unit) (ks : List ByteArray) (hks : keysD D = ks) (key : ByteArray) (w : World) (h : StoreAt w base s t m n D) (hn : n ≤ 3400000000000) :
  Calls Tryz.prog 53 #[.pointer (some ⟨s, 0, none⟩), .string key] w fun e w' => ∃ v, e = .returned v ∧ Kd.R Kd.string 9 w' w.heap.size (fun _ => True) v (ks.filter fun k => preB k key) ∧ Below w.heap.size w w' := by
 have hso := fun w1 => sorted_says m n D w1
 have hlen := keysD_len h.map
 rw [hks] at hso hlen
 clear hks
 have c01 := blk_cell h.blk 1
 go_enter Tryz.func53, Tryz.ntmps53
 go_wp2_with fail
 refine (mkeys_says m w).mono ?_
 rintro e w1 ⟨rfl, rfl⟩
 go_wp2_with fail
 refine (hso w h.map (by omega)).mono ?_
 rintro e w1 ⟨v1, rfl, hr1, hb1⟩
 obtain ⟨A1, c1, e1⟩ := Kd.R_slice hr1
 subst e1
 have hrd := (Kd.R_reads' hr1).2.2
 clear hr1
 have hb01 : Below w.heap.size w w1 := hb1
 go_wp2_with fail
 go_loopw [5, 17] (fun v3 v10 wr => ∃ i : Nat, v10 = .int .i64 i ∧ i ≤ ks.length ∧ Kd.R Kd.string 9 wr w1.heap.size (fun _ => True) v3 ((ks.take i).filter fun k => preB k key) ∧ Below w1.heap.size w1 wr) (fun _ v10 _ => ks.length - (intOf v10).toNat)
 case atStart => exact ⟨0, rfl, Nat.zero_le _, Kd.R_nil _ _ _ _ _, Below.refl _ w1⟩
 case round =>
  obtain ⟨i, rfl, hi, hr, hb⟩ := hrel
  have hC := Kd.C_below hrd hb
  by_cases hlt : i < ks.length
  ·
   have d1 : decide ((i : Int) < (ks.length : Int)) = true := decide_eq_true (by omega)
   obtain ⟨ad, rfl, hx⟩ := Kd.at_string hC (i : Int) (by omega) (by omega)
   have i3 : ((i : Int) < (ks.length : Int)) = True := eq_true (by omega)
   have i0 : (0 ≤ (i : Int)) = True := eq_true (by omega)
   have e1 : IntKind.i64.wrap ((i : Int) + 1) = (i : Int) + 1 := IntWalk.i64_in _ (by omega)
   simp only [Int.toNat_natCast] at hx
   have hxg : rdOf ByteArray.empty ks (i : Int) = ks.getD i ByteArray.empty := by unfold rdOf; rw [Int.toNat_natCast]
   have htk : ks.take (i + 1) = ks.take i ++ [ks.getD i ByteArray.empty] := by
    rw [List.take_add_one]; simp [List.getD_eq_getElem?_getD, List.getElem?_eq_getElem hlt]
   rw [hxg] at hx
   clear hxg
   generalize ks.getD i ByteArray.empty = x at hx htk
   have hfl : ((ks.take (i + 1)).filter fun k => preB k key) = if preB x key = true then ((ks.take i).filter fun k => preB k key) ++ [x] else ((ks.take i).filter fun k => preB k key) := by
    rw [htk, List.filter_append, List.filter_cons, List.filter_nil]
    split
    ·
     rfl
    ·
     rw [List.append_nil]
   have hol : ((ks.take i).filter fun k => preB k key).length ≤ i := Nat.le_trans (List.length_filter_le _ _) (by rw [List.length_take]; omega)
   have LB := Lib.hid (show (((ks.take i).filter fun k => preB k key).length + 1) * 16 ≤ 140737488355328 by omega)
   have Hfl := Lib.hid hfl
   have Hi := Lib.hid (show i + 1 ≤ ks.length by omega)
   clear htk hfl hol
   generalize (ks.take i).filter (fun k => preB k key) = out at hr LB Hfl
   obtain ⟨pb, hpb⟩ : ∃ pb, Lib.hasPrefix x.data.toList key.data.toList = pb := ⟨_, rfl⟩
   have hpre := Go.Proofs.Tryz.strings_HasPrefix x key wr
   rw [hpb] at hpre
   have Hpb := Lib.hid hpb
   clear hpb
   cases pb with
   | true =>
    go_wp2_with fail
    refine hpre.mono ?_
    rintro e w2 ⟨rfl, rfl⟩
    go_wp2_with (first
     | ((with_reducible refine gate_builtin (b := .append) (xs := #[.tmp 24, .tmp 26]) rfl ?_); at_builtin; refine Kd.R_append Kd.string (w0 := w1) w1.heap.size rfl (.tmp 24) (.tmp 26) 88 9 (.string ⟨#[]⟩) 16 rfl Tryz.underlying88 (by kernel_rfl) rfl (by decide) (by decide) u5 out x [.string x] (fun _ => True) (fun _ => False) rfl rfl rfl (fun _ h => h.elim) (fun _ _ => trivial) (Kd.R_mono hr (fun _ _ => trivial)) hb hb.size LB ?_; intro v5 w5 ho5 hb5 hg5 hat5))
    refine ⟨⟨i + 1, rfl, Hi, ?_, hb5⟩, ?_⟩
    ·
     rw [(show (ks.take (i + 1)).filter _ = _ from Hfl), if_pos (show preB x key = true from Hpb)]
     exact ho5
    ·
     have := (show i + 1 ≤ ks.length from Hi); simp only [intOf]; omega
   | false =>
    go_wp2_with fail
    refine hpre.mono ?_
    rintro e w2 ⟨rfl, rfl⟩
    go_wp2_with fail
    refine ⟨⟨i + 1, rfl, Hi, ?_, hb⟩, ?_⟩
    ·
     rw [(show (ks.take (i + 1)).filter _ = _ from Hfl), if_neg (by rw [(show preB x key = false from Hpb)]; decide)]
     exact hr
    ·
     have := (show i + 1 ≤ ks.length from Hi); simp only [intOf]; omega
  ·
   have d1 : decide ((i : Int) < (ks.length : Int)) = false := decide_eq_false (by omega)
   have hil : i = ks.length := by omega
   subst hil
   rw [List.take_length] at hr
   go_wp2_with fail
   go_ret
   exact ⟨_, rfl, Kd.R_lower hr hb01.size, below_then hb01 hb01.size hb⟩
theorem keys_says (base s t m n : Nat) (D : DataW Unit) (key : ByteArray) (w : World) (h : StoreAt w base s t m n D) (hn : n ≤ 3400000000000) :
  Calls Tryz.prog 53 #[.pointer (some ⟨s, 0, none⟩), .string key] w fun e w' => ∃ v, e = .returned v ∧ Kd.R Kd.string 9 w' w.heap.size (fun _ => True) v ((keysD D).filter fun k => preB k key) ∧ Below w.heap.size w w' :=
 keys_core base s t m n D _ rfl key w h hn
end Go.Proofs.YtpoblffgclmmlaaGreatDoor.X
end
section
set_option linter.unusedVariables false
set_option linter.unusedSimpArgs false
namespace Go.Proofs.YtpoblffgclmmlaaGreatDoor.X
open Go.RowKit Go.Maps Go.Proofs.YtpoblffgclmmlaaGreatDoorW.PrintWords Go.Proofs.YtpoblffgclmmlaaGreatDoorW.PrintLast Go.Proofs.YtpoblffgclmmlaaGreatDoorW.PrintMore Go.Proofs.YtpoblffgclmmlaaGreatDoor.Q

def Byt (l : List Int) : Prop := ∀ x ∈ l, 0 ≤ x ∧ x < 256
theorem Byt.take {l : List Int} (h : Byt l) (n : Nat) : Byt (l.take n) := fun x hx => h x (List.mem_of_mem_take hx)
theorem Byt.drop {l : List Int} (h : Byt l) (n : Nat) : Byt (l.drop n) := fun x hx => h x (List.mem_of_mem_drop hx)
theorem Byt.append {a b : List Int} (h : Byt a) (h' : Byt b) : Byt (a ++ b) := fun x hx => (List.mem_append.1 hx).elim (h x) (h' x)
theorem byt_four (v : Int) : Byt (four v) := by
 intro x hx
 simp only [four, List.mem_cons, List.not_mem_nil, or_false] at hx
 rcases hx with rfl | rfl | rfl | rfl <;> omega
/-- The number of four bytes. -/
theorem getL_cons {a b c d : Int} (r : List Int) (h : Byt (a :: b :: c :: d :: r)) : getL ((a :: b :: c :: d :: r).take 4) = a * 16777216 + b * 65536 + c * 256 + d := by
 have ha := h a (by simp); have hb := h b (by simp); have hc := h c (by simp); have hd := h d (by simp)
 have := getL_four a.toNat b.toNat c.toNat d.toNat (by omega) (by omega) (by omega) (by omega)
 rw [Int.toNat_of_nonneg ha.1, Int.toNat_of_nonneg hb.1, Int.toNat_of_nonneg hc.1, Int.toNat_of_nonneg hd.1] at this
 exact this
theorem frame_len (a : List Int) : (frameL a).length = 8 + a.length := by
 simp only [frameL, List.length_append, markL_length]
 simp [four]
theorem frame_parts (a r : List Int) : frameL a ++ r = four (a.length : Int) ++ (markL (strOfNums (four (a.length : Int)) ++ strOfNums a) ++ (a ++ r)) := by simp [frameL, List.append_assoc]
theorem frame_take4 (a r : List Int) : (frameL a ++ r).take 4 = four (a.length : Int) := by rw [frame_parts]; exact List.take_left' rfl
theorem frame_drop4 (a r : List Int) : (frameL a ++ r).drop 4 = markL (strOfNums (four (a.length : Int)) ++ strOfNums a) ++ (a ++ r) := by rw [frame_parts]; exact List.drop_left' rfl
theorem frame_drop8 (a r : List Int) : (frameL a ++ r).drop 8 = a ++ r := by
 rw [show 8 = 4 + 4 from rfl, ← List.drop_drop, frame_drop4]; exact List.drop_left' (markL_length _)
theorem getL_len (n : Nat) (h : n < 4294967296) : getL (four (n : Int)) = (n : Int) := by
 have hb : Byt (four (n : Int)) := byt_four _
 have := getL_cons (a := (n : Int) / 16777216 % 256) (b := (n : Int) / 65536 % 256) (c := (n : Int) / 256 % 256) (d := (n : Int) % 256) [] hb
 rw [show four (n : Int) = (((n : Int) / 16777216 % 256) :: ((n : Int) / 65536 % 256) :: ((n : Int) / 256 % 256) :: ((n : Int) % 256) :: []).take 4 from rfl, this]
 omega
theorem oneL_frame (a r : List Int) (h : a.length ≤ 32768) : oneL (frameL a ++ r) = (a, true) := by
 have h8 : ¬ (frameL a ++ r).length < 8 := by rw [List.length_append, frame_len]; omega
 have hg : getL ((frameL a ++ r).take 4) = (a.length : Int) := by rw [frame_take4]; exact getL_len _ (by omega)
 have hd : (frameL a ++ r).drop 8 = a ++ r := frame_drop8 a r
 have h4 : ((frameL a ++ r).drop 4).take 4 = markL (strOfNums (four (a.length : Int)) ++ strOfNums a) := by
  rw [frame_drop4]; exact List.take_left' (markL_length _)
 have ht : (frameL a ++ r).take 4 = four (a.length : Int) := frame_take4 a r
 have hl : (frameL a ++ r).length = 8 + a.length + r.length := by rw [List.length_append, frame_len]
 have hta : (a ++ r).take a.length = a := List.take_left
 rw [oneL, if_neg h8, hg, if_neg (by omega), hd, h4, ht, Int.toNat_natCast, hta, decide_eq_true rfl]
/-- Frames one behind the other. -/
def fr (l : List (List Int)) : List Int := l.flatMap frameL
theorem fr_nil : fr [] = [] := rfl
theorem fr_cons (a : List Int) (l : List (List Int)) : fr (a :: l) = frameL a ++ fr l := rfl
theorem fr_append (l m : List (List Int)) : fr (l ++ m) = fr l ++ fr m := List.flatMap_append
theorem fr_len (l : List (List Int)) (h : ∀ a ∈ l, a.length ≤ 32768) : 8 * l.length ≤ (fr l).length ∧ (fr l).length ≤ 32776 * l.length := by
 induction l with
 | nil => simp [fr]
 | cons a l ih =>
  have ih := ih fun b hb => h b (List.mem_cons_of_mem _ hb)
  have ha := h a (List.mem_cons_self ..)
  rw [fr_cons, List.length_append, frame_len, List.length_cons]
  omega
theorem splitF_step (m : Nat) (x : List Int) (i : Nat) : splitF (m + 1) x i = if (oneL (x.drop i)).2 = true then ((oneL (x.drop i)).1 :: (splitF m x (i + 8 + (oneL (x.drop i)).1.length)).1, (splitF m x (i + 8 + (oneL (x.drop i)).1.length)).2) else ([], i) := rfl
theorem splitF_frames (r : List Int) (m : Nat) : ∀ (l : List (List Int)) (pre : List Int), (∀ a ∈ l, a.length ≤ 32768) →
  splitF (m + l.length) (pre ++ (fr l ++ r)) pre.length = (l ++ (splitF m (pre ++ (fr l ++ r)) (pre.length + (fr l).length)).1, (splitF m (pre ++ (fr l ++ r)) (pre.length + (fr l).length)).2) := by
 intro l
 induction l with
 | nil => intro pre _; simp [fr]
 | cons a l ih =>
  intro pre h
  have ha := h a (List.mem_cons_self ..)
  have hd : (pre ++ (fr (a :: l) ++ r)).drop pre.length = frameL a ++ (fr l ++ r) := by rw [List.drop_left, fr_cons, List.append_assoc]
  have hx : pre ++ (fr (a :: l) ++ r) = (pre ++ frameL a) ++ (fr l ++ r) := by rw [fr_cons]; simp [List.append_assoc]
  have ih := ih (pre ++ frameL a) fun b hb => h b (List.mem_cons_of_mem _ hb)
  rw [← hx, List.length_append, frame_len] at ih
  rw [List.length_cons, show m + (l.length + 1) = (m + l.length) + 1 from rfl, splitF_step, hd, oneL_frame a _ ha]
  simp only [if_true]
  rw [show pre.length + 8 + a.length = pre.length + (8 + a.length) by omega, ih]
  have e : pre.length + (8 + a.length) + (fr l).length = pre.length + (fr (a :: l)).length := by rw [fr_cons, List.length_append, frame_len]; omega
  rw [e]
  rfl
theorem splitL_frames (l : List (List Int)) (r : List Int) (h : ∀ a ∈ l, a.length ≤ 32768) (hr : (oneL r).2 = false) : splitL (fr l ++ r) = (l, (fr l).length) := by
 have hl := (fr_len l h).1
 obtain ⟨m, hm⟩ : ∃ m, (fr l ++ r).length + 1 = (m + 1) + l.length := ⟨(fr l ++ r).length - l.length, by rw [List.length_append]; omega⟩
 have hs := splitF_frames r (m + 1) l [] h
 simp only [List.nil_append, List.length_nil, Nat.zero_add] at hs
 have hd : (fr l ++ r).drop (fr l).length = r := List.drop_left
 rw [splitL, hm, hs, splitF_step, hd, hr]
 simp
theorem oneL_nil : (oneL []).2 = false := rfl
theorem four_len (n : Int) : (four n).length = 4 := rfl
theorem rnumL_four (n : Nat) (r : List Int) (hn : n < 4294967296) : rnumL (four (n : Int) ++ r) false = ((n : Int), r, false) := by
 have h4 : ¬ (four (n : Int) ++ r).length < 4 := by rw [List.length_append, four_len]; omega
 have e : rnumL (four (n : Int) ++ r) false = (getL ((four (n : Int) ++ r).take 4), (four (n : Int) ++ r).drop 4, false) := if_neg h4
 rw [e, List.take_left' (four_len _), List.drop_left' (four_len _), getL_len n hn]
theorem strOfNums_bytes (s : ByteArray) : strOfNums (bytesOf s) = s := by
 apply ByteArray.ext
 apply Array.toList_inj.1
 simp only [strOfNums, bytesOf, List.map_map]
 conv => rhs; rw [← List.map_id s.data.toList]
 refine List.map_congr_left fun x hx => ?_
 simp
theorem rtextL_four (s : ByteArray) (r : List Int) (hs : s.size < 4294967296) : rtextL (four (s.size : Int) ++ (bytesOf s ++ r)) false = (s, r, false) := by
 have h1 := rnumL_four s.size (bytesOf s ++ r) hs
 have e : rtextL (four (s.size : Int) ++ (bytesOf s ++ r)) false = (strOfNums ((bytesOf s ++ r).take (s.size : Int).toNat), (bytesOf s ++ r).drop (s.size : Int).toNat, false) := by
  unfold rtextL
  rw [h1]
  refine if_neg ?_
  simp only [Bool.false_eq_true, false_or, List.length_append, bytesOf_length]
  omega
 rw [e, Int.toNat_natCast, List.take_left' (bytesOf_length s), List.drop_left' (bytesOf_length s), strOfNums_bytes]
/-- A change, as a record says it: a row that is gone has no value. -/
def normC (c : S69) : S69 := if c.f2 = true then ⟨c.f0, ⟨#[]⟩, true⟩ else ⟨c.f0, c.f1, false⟩
theorem oneC_chg (c : S69) (r : List Int) (h0 : c.f0.size < 4294967296) (h1 : c.f1.size < 4294967296) : oneC (chgL c ++ r) false = (normC c, r, false) := by
 obtain ⟨k, v, g⟩ := c
 cases g with
 | true =>
  have e : chgL ⟨k, v, true⟩ ++ r = four ((1 : Nat) : Int) ++ (four (k.size : Int) ++ (bytesOf k ++ (four ((⟨#[]⟩ : ByteArray).size : Int) ++ (bytesOf ⟨#[]⟩ ++ r)))) := by
   simp only [chgL, if_true, List.append_nil, List.append_assoc]
   rfl
  rw [e]
  simp only [oneC]
  rw [rnumL_four 1 _ (by omega)]
  simp only
  rw [rtextL_four k _ h0]
  simp only
  rw [rtextL_four _ _ (by decide)]
  rfl
 | false =>
  have e : chgL ⟨k, v, false⟩ ++ r = four ((0 : Nat) : Int) ++ (four (k.size : Int) ++ (bytesOf k ++ (four (v.size : Int) ++ (bytesOf v ++ r)))) := by
   simp only [chgL, Bool.false_eq_true, if_false, List.append_assoc]
   rfl
  rw [e]
  simp only [oneC]
  rw [rnumL_four 0 _ (by omega)]
  simp only
  rw [rtextL_four k _ h0]
  simp only
  rw [rtextL_four v _ h1]
  rfl
theorem chF_rec (l : List S69) (r : List Int) (out : List S69) (h : ∀ c ∈ l, c.f0.size < 4294967296 ∧ c.f1.size < 4294967296) : chF l.length (l.flatMap chgL ++ r) false out = (out ++ l.map normC, false) := by
 induction l generalizing out with
 | nil => simp [chF]
 | cons c l ih =>
  have hc := h c (List.mem_cons_self ..)
  have e : chF (c :: l).length ((c :: l).flatMap chgL ++ r) false out = chF l.length (oneC (chgL c ++ (l.flatMap chgL ++ r)) false).2.1 (oneC (chgL c ++ (l.flatMap chgL ++ r)) false).2.2 (out ++ [(oneC (chgL c ++ (l.flatMap chgL ++ r)) false).1]) := by
   rw [List.flatMap_cons, List.append_assoc]; rfl
  rw [e, oneC_chg c _ hc.1 hc.2, ih _ (fun x hx => h x (List.mem_cons_of_mem _ hx))]
  simp
theorem chL_rec (l : List S69) (hl : l.length < 4294967296) (h : ∀ c ∈ l, c.f0.size < 4294967296 ∧ c.f1.size < 4294967296) : chL (recL l) = (l.map normC, false) := by
 have e : recL l = four (l.length : Int) ++ (l.flatMap chgL ++ []) := by rw [List.append_nil]; rfl
 unfold chL
 rw [e, rnumL_four _ _ hl]
 simp only [Int.toNat_natCast]
 rw [chF_rec l [] [] h]
 rfl
theorem chgL_norm (c : S69) : chgL (normC c) = chgL c := by
 obtain ⟨k, v, g⟩ := c
 cases g <;> rfl
theorem recL_norm (l : List S69) : recL (l.map normC) = recL l := by
 unfold recL
 rw [List.length_map, List.flatMap_map]
 congr 2
 funext c; exact chgL_norm c
theorem chOk_rec (l : List S69) (hl : l.length < 4294967296) (h : ∀ c ∈ l, c.f0.size < 4294967296 ∧ c.f1.size < 4294967296) : chOk (recL l) = true := by
 unfold chOk
 rw [chL_rec l hl h, recL_norm]
 simp
theorem turnD_norm (D : DataW Unit) (l : List S69) : turnD D (l.map normC) = turnD D l := by
 unfold turnD
 rw [List.foldl_map]
 congr 1
 funext D c
 obtain ⟨k, v, g⟩ := c
 cases g <;> rfl
/-- How records turn rows. -/
theorem openD_recs (ls : List (List S69)) (D : DataW Unit) (hl : ∀ l ∈ ls, l.length < 4294967296 ∧ ∀ c ∈ l, c.f0.size < 4294967296 ∧ c.f1.size < 4294967296) : openD (ls.map recL) D = some (ls.foldl turnD D) := by
 induction ls generalizing D with
 | nil => rfl
 | cons l ls ih =>
  have h := hl l (List.mem_cons_self ..)
  rw [List.map_cons, openD, chOk_rec l h.1 h.2, if_pos rfl, chL_rec l h.1 h.2, turnD_norm, ih _ (fun x hx => hl x (List.mem_cons_of_mem _ hx))]
  rfl
end Go.Proofs.YtpoblffgclmmlaaGreatDoor.X
namespace Go.Proofs.YtpoblffgclmmlaaGreatDoor.X
open Go.RowKit Go.WideMaps Go.Maps Go.Proofs.YtpoblffgclmmlaaGreatDoorW.PrintWords Go.Proofs.YtpoblffgclmmlaaGreatDoorW.PrintLast Go.Proofs.YtpoblffgclmmlaaGreatDoorW.PrintMore Go.Proofs.YtpoblffgclmmlaaGreatDoor.Q

/-- A key, as a list of bytes. -/
abbrev kl (s : ByteArray) : List UInt8 := s.data.toList
theorem kl_inj {a b : ByteArray} (h : kl a = kl b) : a = b := ByteArray.ext (Array.toList_inj.1 h)
def geB (x y : ByteArray) : Bool := !(Op.bytesLess x.toList y.toList)
theorem geB_iff (x y : ByteArray) : geB x y = true ↔ ¬ kl x < kl y := by
 unfold geB
 rw [bytesLess_eq, show x.toList = kl x from ByteArray.toList_eq x, show y.toList = kl y from ByteArray.toList_eq y]
 simp
/-- One row of the old ones, where a change is laid in. -/
def stepT (c : S69) (a : List S82 × Bool) (x : S82) : List S82 × Bool :=
 if a.2 = false ∧ geB x.f0 c.f0 = true then ((if x.f0 = c.f0 then a.1 ++ [⟨c.f0, c.f1⟩] else a.1 ++ [⟨c.f0, c.f1⟩] ++ [x]), true)
 else ((if x.f0 = c.f0 then a.1 else a.1 ++ [x]), a.2)
def stepsT (c : S69) (rows : List S82) : List S82 × Bool := rows.foldl (stepT c) ([], c.f2)
/-- Rows behind one change. -/
def turn1 (rows : List S82) (c : S69) : List S82 :=
 if (stepsT c rows).2 = true then (stepsT c rows).1 else (stepsT c rows).1 ++ [⟨c.f0, c.f1⟩]
/-- Rows behind changes. -/
def turnR (rows : List S82) (l : List S69) : List S82 := l.foldl turn1 rows
/-- Rising by key. -/
def Ris (r : List S82) : Prop := r.Pairwise fun a b => kl a.f0 < kl b.f0
def other (k : ByteArray) (r : List S82) : List S82 := r.filter fun x => decide (x.f0 ≠ k)
theorem foldl_placed (c : S69) (q acc : List S82) : q.foldl (stepT c) (acc, true) = (acc ++ other c.f0 q, true) := by
 induction q generalizing acc with
 | nil => simp [other]
 | cons x q ih =>
  have hs : stepT c (acc, true) x = ((if x.f0 = c.f0 then acc else acc ++ [x]), true) := by
   unfold stepT; rw [if_neg (by simp)]
  rw [List.foldl_cons, hs, ih]
  unfold other
  rw [List.filter_cons]
  by_cases h : x.f0 = c.f0
  ·
   simp [h]
  ·
   simp [h]
theorem turn1_gone (rows : List S82) (c : S69) (hc : c.f2 = true) : turn1 rows c = other c.f0 rows := by
 have h : stepsT c rows = (other c.f0 rows, true) := by
  unfold stepsT; rw [hc, foldl_placed, List.nil_append]
 unfold turn1
 rw [h, if_pos rfl]
theorem foldl_free (c : S69) (q acc : List S82) : ∃ p1 p2, q = p1 ++ p2 ∧ (∀ x ∈ p1, kl x.f0 < kl c.f0) ∧ (∀ y ys, p2 = y :: ys → ¬ kl y.f0 < kl c.f0) ∧
  ((q.foldl (stepT c) (acc, false) = (acc ++ p1 ++ ⟨c.f0, c.f1⟩ :: other c.f0 p2, true)) ∨ (p2 = [] ∧ q.foldl (stepT c) (acc, false) = (acc ++ p1, false))) := by
 induction q generalizing acc with
 | nil => exact ⟨[], [], rfl, by simp, by simp, .inr ⟨rfl, by simp⟩⟩
 | cons x q ih =>
  by_cases hg : geB x.f0 c.f0 = true
  ·
   refine ⟨[], x :: q, rfl, by simp, ?_, .inl ?_⟩
   ·
    intro y ys e
    obtain ⟨rfl, _⟩ := List.cons.inj e
    exact (geB_iff _ _).1 hg
   ·
    have hs : stepT c (acc, false) x = ((if x.f0 = c.f0 then acc ++ [⟨c.f0, c.f1⟩] else acc ++ [⟨c.f0, c.f1⟩] ++ [x]), true) := by
     unfold stepT; rw [if_pos ⟨rfl, hg⟩]
    rw [List.foldl_cons, hs, foldl_placed]
    unfold other
    rw [List.filter_cons]
    by_cases h : x.f0 = c.f0
    ·
     simp [h]
    ·
     simp [h]
  ·
   have hlt : kl x.f0 < kl c.f0 := by
    exact Classical.not_not.1 (fun h => hg ((geB_iff _ _).2 h))
   have hne : x.f0 ≠ c.f0 := fun e => by rw [e] at hlt; exact absurd hlt (List.lt_irrefl _)
   have hs : stepT c (acc, false) x = (acc ++ [x], false) := by
    unfold stepT; rw [if_neg (fun h => hg h.2), if_neg hne]
   obtain ⟨p1, p2, e, h1, h2, h3⟩ := ih (acc ++ [x])
   refine ⟨x :: p1, p2, by rw [e]; rfl, ?_, h2, ?_⟩
   ·
    intro y hy
    rcases List.mem_cons.1 hy with h | h
    ·
     rw [h]; exact hlt
    ·
     exact h1 y h
   ·
    rw [List.foldl_cons, hs]
    rcases h3 with h | ⟨h, h'⟩
    ·
     exact .inl (by rw [h]; simp)
    ·
     exact .inr ⟨h, by rw [h']; simp⟩
theorem turn1_put (rows : List S82) (c : S69) (hc : c.f2 = false) (hr : Ris rows) : ∃ p1 p2, rows = p1 ++ p2 ∧ (∀ x ∈ p1, kl x.f0 < kl c.f0) ∧ (∀ x ∈ p2, ¬ kl x.f0 < kl c.f0) ∧ turn1 rows c = p1 ++ ⟨c.f0, c.f1⟩ :: other c.f0 p2 := by
 obtain ⟨p1, p2, e, h1, h2, h3⟩ := foldl_free c rows []
 refine ⟨p1, p2, e, h1, ?_, ?_⟩
 ·
  intro x hx
  cases p2 with
  | nil => cases hx
  | cons y ys =>
   have hy := h2 y ys rfl
   rcases List.mem_cons.1 hx with h | h
   ·
    rw [h]; exact hy
   ·
    have hp : Ris (y :: ys) := by
     unfold Ris at hr
     rw [e] at hr
     exact (List.pairwise_append.1 hr).2.1
    have hyx := (List.pairwise_cons.1 hp).1 x h
    intro hlt
    exact hy (List.lt_trans hyx hlt)
 ·
  unfold turn1 stepsT
  rw [hc]
  rcases h3 with h | ⟨h, h'⟩
  ·
   rw [h, if_pos rfl]; simp
  ·
   rw [h', h]; simp [other]
theorem other_mem {k : ByteArray} {r : List S82} {x : S82} : x ∈ other k r ↔ x ∈ r ∧ x.f0 ≠ k := by
 unfold other
 rw [List.mem_filter]; simp
theorem Ris.other {r : List S82} (h : Ris r) (k : ByteArray) : Ris (other k r) := List.Pairwise.filter _ h
theorem not_lt_ne {a b : ByteArray} (h : ¬ kl a < kl b) (hne : a ≠ b) : kl b < kl a := by
 refine Classical.not_not.1 fun h' => hne (kl_inj ?_)
 exact List.le_antisymm h' h
theorem Ris.turn1 {rows : List S82} (hr : Ris rows) (c : S69) : Ris (turn1 rows c) := by
 cases hc : c.f2 with
 | true => rw [turn1_gone rows c hc]; exact hr.other _
 | false =>
  obtain ⟨p1, p2, e, h1, h2, h3⟩ := turn1_put rows c hc hr
  rw [h3]
  have hr' := hr
  unfold Ris at hr'
  rw [e] at hr'
  obtain ⟨ha, hb, hab⟩ := List.pairwise_append.1 hr'
  refine List.pairwise_append.2 ⟨ha, List.pairwise_cons.2 ⟨?_, Ris.other hb _⟩, ?_⟩
  ·
   intro x hx
   have := other_mem.1 hx
   exact not_lt_ne (h2 x this.1) this.2
  ·
   intro x hx y hy
   rcases List.mem_cons.1 hy with h | h
   ·
    rw [h]; exact h1 x hx
   ·
    exact hab x hx y (other_mem.1 h).1
theorem turn1_mem {rows : List S82} (hr : Ris rows) (c : S69) (x : S82) : x ∈ turn1 rows c ↔ (x ∈ rows ∧ x.f0 ≠ c.f0) ∨ (c.f2 = false ∧ x = ⟨c.f0, c.f1⟩) := by
 cases hc : c.f2 with
 | true => rw [turn1_gone rows c hc, other_mem]; simp
 | false =>
  obtain ⟨p1, p2, e, h1, h2, h3⟩ := turn1_put rows c hc hr
  rw [h3, e, List.mem_append, List.mem_cons, other_mem, List.mem_append]
  constructor
  ·
   rintro (h | h | ⟨h, h'⟩)
   ·
    refine .inl ⟨.inl h, fun e => ?_⟩
    have := h1 x h
    rw [e] at this
    exact List.lt_irrefl _ this
   ·
    exact .inr ⟨rfl, h⟩
   ·
    exact .inl ⟨.inr h, h'⟩
  ·
   rintro (⟨h | h, h'⟩ | ⟨_, h⟩)
   ·
    exact .inl h
   ·
    exact .inr (.inr ⟨h, h'⟩)
   ·
    exact .inr (.inl h)
/-- A map and rows say the same. -/
structure Mir (D : DataW Unit) (r : List S82) : Prop where
 tidy : Tidy D
 strs : ∀ es, D = .map es → ∀ p ∈ es, ∃ x, p.1 = .string x
 ris : Ris r
 has : ∀ key, hasS D key = true ↔ ∃ x ∈ r, x.f0 = key
 val : ∀ x ∈ r, valS D x.f0 = x.f1
theorem Mir.empty : Mir (.map []) [] := by
 refine ⟨tidy_empty, ?_, List.Pairwise.nil, ?_, by simp⟩
 ·
  intro es h p hp
  cases h; cases hp
 ·
  intro key
  simp [hasS, Maps.has]
theorem insert_mem {x p : Lit × DataW Unit} (l : List (Lit × DataW Unit)) : p ∈ DataW.insert x l → p = x ∨ p ∈ l := by
 induction l with
 | nil => intro h; rw [DataW.insert] at h; exact .inl (List.mem_singleton.1 h)
 | cons y r ih =>
  intro h
  rw [DataW.insert] at h
  split at h
  ·
   rcases List.mem_cons.1 h with h | h
   ·
    exact .inl h
   ·
    exact .inr h
  ·
   rcases List.mem_cons.1 h with h | h
   ·
    exact .inr (by rw [h]; exact List.mem_cons_self ..)
   ·
    rcases ih h with h | h
    ·
     exact .inl h
    ·
     exact .inr (List.mem_cons_of_mem _ h)
theorem kb_ne {a b : ByteArray} (h : a ≠ b) : kb a ≠ kb b := fun e => h (kl_inj (Lit.string.inj e))
theorem kb_key (a : ByteArray) : WideAt.IsKeyLit (kb a) := by simp [WideAt.IsKeyLit]
theorem valS_put (D : DataW Unit) (hD : IsMap D) (k v : ByteArray) : valS (D.put (kb k) (.lit (.string v.data.toList))) k = v := by
 unfold valS
 rw [atKey_put_same hD (kb_key k)]
theorem valS_put_other (D : DataW Unit) (k v key : ByteArray) (h : key ≠ k) : valS (D.put (kb k) (.lit (.string v.data.toList))) key = valS D key := by
 unfold valS
 rw [atKey_put_other (kb_ne h)]
theorem valS_del_other (D : DataW Unit) (k key : ByteArray) (h : key ≠ k) : valS (D.del (kb k)) key = valS D key := by
 unfold valS
 rw [atKey_del_other (kb_ne h)]
def turnC (D : DataW Unit) (c : S69) : DataW Unit := if c.f2 = true then D.del (kb c.f0) else D.put (kb c.f0) (.lit (.string c.f1.data.toList))
theorem Mir.step {D : DataW Unit} {r : List S82} (h : Mir D r) (c : S69) : Mir (turnC D c) (turn1 r c) := by
 obtain ⟨k, v, g⟩ := c
 obtain ⟨es0, hes0, hpw⟩ := h.tidy
 cases g with
 | true =>
  have e : turnC D ⟨k, v, true⟩ = D.del (kb k) := rfl
  rw [e]
  refine ⟨h.tidy.del _, ?_, h.ris.turn1 _, ?_, ?_⟩
  ·
   intro es he p hp
   rw [hes0] at he
   have he' : es = es0.filter fun p => !p.1.sameKey (kb k) := (DataW.map.inj he).symm
   rw [he'] at hp
   exact h.strs es0 hes0 p (List.mem_filter.1 hp).1
  ·
   intro key
   by_cases hk : key = k
   ·
    subst hk
    have : hasS (D.del (kb key)) key = false := has_del_same
    rw [this]
    constructor
    ·
     intro h; cases h
    ·
     rintro ⟨x, hx, hxk⟩
     rcases (turn1_mem h.ris _ x).1 hx with ⟨_, h2⟩ | ⟨h2, _⟩
     ·
      exact absurd hxk h2
     ·
      cases h2
   ·
    have : hasS (D.del (kb k)) key = hasS D key := has_del_other (kb_ne hk)
    rw [this, h.has key]
    constructor
    ·
     rintro ⟨x, hx, hxk⟩
     exact ⟨x, (turn1_mem h.ris _ x).2 (.inl ⟨hx, by rw [hxk]; exact hk⟩), hxk⟩
    ·
     rintro ⟨x, hx, hxk⟩
     rcases (turn1_mem h.ris _ x).1 hx with ⟨h1, _⟩ | ⟨h2, _⟩
     ·
      exact ⟨x, h1, hxk⟩
     ·
      cases h2
  ·
   intro x hx
   rcases (turn1_mem h.ris _ x).1 hx with ⟨h1, h2⟩ | ⟨h2, _⟩
   ·
    rw [valS_del_other D k x.f0 h2]; exact h.val x h1
   ·
    cases h2
 | false =>
  have e : turnC D ⟨k, v, false⟩ = D.put (kb k) (.lit (.string v.data.toList)) := rfl
  rw [e]
  refine ⟨h.tidy.put (kb_key k) _, ?_, h.ris.turn1 _, ?_, ?_⟩
  ·
   intro es he p hp
   rw [hes0] at he
   have he' : es = DataW.insert (kb k, .lit (.string v.data.toList)) (es0.filter fun p => !p.1.sameKey (kb k)) := (DataW.map.inj he).symm
   rw [he'] at hp
   rcases insert_mem _ hp with h2 | h2
   ·
    exact ⟨_, by rw [h2]⟩
   ·
    exact h.strs es0 hes0 p (List.mem_filter.1 h2).1
  ·
   intro key
   by_cases hk : key = k
   ·
    subst hk
    have : hasS (D.put (kb key) (.lit (.string v.data.toList))) key = true := has_put_same h.tidy.isMap (kb_key key) _
    rw [this]
    exact ⟨fun _ => ⟨⟨key, v⟩, (turn1_mem h.ris _ _).2 (.inr ⟨rfl, rfl⟩), rfl⟩, fun _ => rfl⟩
   ·
    have : hasS (D.put (kb k) (.lit (.string v.data.toList))) key = hasS D key := has_put_other (kb_ne hk) _
    rw [this, h.has key]
    constructor
    ·
     rintro ⟨x, hx, hxk⟩
     exact ⟨x, (turn1_mem h.ris _ x).2 (.inl ⟨hx, by rw [hxk]; exact hk⟩), hxk⟩
    ·
     rintro ⟨x, hx, hxk⟩
     rcases (turn1_mem h.ris _ x).1 hx with ⟨h1, _⟩ | ⟨_, h2⟩
     ·
      exact ⟨x, h1, hxk⟩
     ·
      rw [h2] at hxk; exact absurd hxk.symm hk
  ·
   intro x hx
   rcases (turn1_mem h.ris _ x).1 hx with ⟨h1, h2⟩ | ⟨_, h2⟩
   ·
    rw [valS_put_other D k v x.f0 h2]; exact h.val x h1
   ·
    rw [h2]; exact valS_put D h.tidy.isMap k v
theorem Mir.turn {D : DataW Unit} {r : List S82} (h : Mir D r) (l : List S69) : Mir (turnD D l) (turnR r l) := by
 induction l generalizing D r with
 | nil => exact h
 | cons c l ih => exact ih (h.step c)
theorem Mir.keys {D : DataW Unit} {r : List S82} (h : Mir D r) : keysD D = r.map fun x => x.f0 := by
 obtain ⟨es, hes, hpw⟩ := h.tidy
 have hlt : (r.map fun x => kl x.f0).Pairwise fun a b => a < b := List.pairwise_map.2 h.ris
 have hp : (r.map fun x => kl x.f0).Perm (strKeys D) := by
  rw [hes]
  refine perm_strKeys hpw (h.strs es hes) (hlt.imp (fun {a b} hab e => by rw [e] at hab; exact List.lt_irrefl _ hab)) ?_
  intro x
  have := h.has ⟨x.toArray⟩
  rw [hes] at this
  rw [show (Lit.string x) = kb ⟨x.toArray⟩ by simp [kb]]
  refine Iff.trans ?_ this.symm
  rw [List.mem_map]
  constructor
  ·
   rintro ⟨y, hy, e⟩
   exact ⟨y, hy, kl_inj (by rw [e])⟩
  ·
   rintro ⟨y, hy, e⟩
   exact ⟨y, hy, by rw [e]⟩
 unfold keysD
 rw [← mergeSort_of_perm hp, List.mergeSort_of_pairwise (hlt.imp (fun {a b} hab => by simp only [leB, decide_eq_true_eq]; exact List.le_of_lt hab)), List.map_map]
 refine List.map_congr_left fun x _ => ?_
 simp
theorem Mir.all {D : DataW Unit} {r : List S82} (h : Mir D r) : allD D = r.map fun x => (⟨x.f0, x.f1, false⟩ : S69) := by
 unfold allD
 rw [h.keys, List.map_map]
 refine List.map_congr_left fun x hx => ?_
 show (⟨x.f0, valS D x.f0, false⟩ : S69) = _
 rw [h.val x hx]
/-- How much rows are. -/
def wgt (r : List S82) : Nat := (r.map fun x => 12 + x.f0.size + x.f1.size).sum
def wgtC (l : List S69) : Nat := (l.map fun x => 12 + x.f0.size + x.f1.size).sum
theorem wgt_other (k : ByteArray) (r : List S82) : wgt (other k r) ≤ wgt r := by
 unfold wgt other
 induction r with
 | nil => simp
 | cons x r ih =>
  rw [List.filter_cons]
  split
  ·
   simp only [List.map_cons, List.sum_cons]; omega
  ·
   simp only [List.map_cons, List.sum_cons]; omega
theorem wgt_turn1 {r : List S82} (h : Ris r) (c : S69) : wgt (turn1 r c) ≤ wgt r + (12 + c.f0.size + c.f1.size) := by
 cases hc : c.f2 with
 | true =>
  rw [turn1_gone r c hc]
  have := wgt_other c.f0 r; omega
 | false =>
  obtain ⟨p1, p2, e, _, _, h3⟩ := turn1_put r c hc h
  have h4 := wgt_other c.f0 p2
  rw [h3, e]
  unfold wgt at *
  simp only [List.map_append, List.map_cons, List.sum_append, List.sum_cons]
  omega
theorem wgt_turn {r : List S82} (h : Ris r) (l : List S69) : wgt (turnR r l) ≤ wgt r + wgtC l := by
 induction l generalizing r with
 | nil => exact Nat.le_add_right _ _
 | cons c l ih =>
  have h1 := wgt_turn1 h c
  have h2 := ih (h.turn1 c)
  have e : wgtC (c :: l) = (12 + c.f0.size + c.f1.size) + wgtC l := by simp [wgtC]
  show wgt (turnR (turn1 r c) l) ≤ _
  omega
theorem Mir.recs {D : DataW Unit} {r : List S82} (h : Mir D r) : (recL (allD D)).length = 4 + wgt r := by
 rw [h.all]
 unfold recL wgt
 rw [List.length_append, four_len, List.flatMap_map]
 congr 1
 clear h
 induction r with
 | nil => rfl
 | cons x r ih =>
  rw [List.flatMap_cons, List.length_append, ih, chgL_len]
  simp
theorem turn1_len (r : List S82) (c : S69) (h : Ris r) : (turn1 r c).length ≤ r.length + 1 := by
 cases hc : c.f2 with
 | true =>
  rw [turn1_gone r c hc]
  exact Nat.le_succ_of_le (List.length_filter_le _ _)
 | false =>
  obtain ⟨p1, p2, e, _, _, h3⟩ := turn1_put r c hc h
  have h4 : (other c.f0 p2).length ≤ p2.length := List.length_filter_le _ _
  rw [h3, e]
  simp only [List.length_append, List.length_cons]
  omega
theorem Ris.turn {r : List S82} (h : Ris r) (l : List S69) : Ris (turnR r l) := by
 induction l generalizing r with
 | nil => exact h
 | cons c l ih => exact ih (h.turn1 c)
theorem turnR_take (rows : List S82) (l : List S69) (i : Nat) (h : i < l.length) : turnR rows (l.take (i + 1)) = turn1 (turnR rows (l.take i)) (l.getD i z69) := by
 unfold turnR
 rw [List.take_add_one, List.foldl_append]
 simp [List.getD_eq_getElem?_getD, List.getElem?_eq_getElem h]
theorem stepsT_take (c : S69) (out : List S82) (j : Nat) (h : j < out.length) : stepsT c (out.take (j + 1)) = stepT c (stepsT c (out.take j)) (out.getD j z82) := by
 unfold stepsT
 rw [List.take_add_one, List.foldl_append]
 simp [List.getD_eq_getElem?_getD, List.getElem?_eq_getElem h]
end Go.Proofs.YtpoblffgclmmlaaGreatDoor.X
end
section
set_option linter.unusedVariables false
set_option linter.unusedSimpArgs false
namespace Go.Proofs.YtpoblffgclmmlaaGreatDoor.X
open Go.RowKit Go.WideMaps Go.Maps Go.Proofs.YtpoblffgclmmlaaGreatDoorW.PrintWords Go.Proofs.YtpoblffgclmmlaaGreatDoorW.PrintLast Go.Proofs.YtpoblffgclmmlaaGreatDoorW.PrintMore Go.Proofs.YtpoblffgclmmlaaGreatDoor.Q

/-- A new tape. -/
def TapeS.new : TapeS := ⟨[], 0, -1, false⟩
theorem TapeS.new_good : TapeS.new.Good := ⟨by decide, by decide, by decide⟩
theorem tnew_says (w : World) : Calls Tryz.prog 17 #[] w fun e w' => ∃ t, e = .returned (.pointer (some ⟨t, 0, none⟩)) ∧ TpAt w' w.heap.size t (.slice none 0 0) TapeS.new ∧ Below w.heap.size w w' := new_says w
/-- Behind Open. -/
def TapeS.opened (T : TapeS) : TapeS := ⟨T.b.take (splitL T.b).2, if (splitL T.b).2 < T.b.length then ((splitL T.b).2 : Int) else T.sure, -1, false⟩
theorem topen_says (t : Nat) (v : Value) (T : TapeS) (hf : T.fuse = -1) (hd : T.down = false) (w0 w : World) (hGL : GL w0) (hB : Below w0.heap.size w0 w) (hT : TpAt w w0.heap.size t v T) (hG : T.Good) :
  Calls Tryz.prog 19 #[.pointer (some ⟨t, 0, none⟩)] w fun e w' => Tur w w' (fun k => k = t) ∧
   ((openD (splitL T.b).1 (.map []) = none ∧ e = .returned (.tuple #[.pointer none, .int .i64 2]) ∧ TpAt w' w0.heap.size t v T) ∨
   ∃ D s m n v', openD (splitL T.b).1 (.map []) = some D ∧ e = .returned (.tuple #[.pointer (some ⟨s, 0, none⟩), .int .i64 0]) ∧ StoreAt w' w.heap.size s t m n D ∧ n ≤ 3300000000000 ∧
    TpAt w' w0.heap.size t v' T.opened ∧ Rowd v v' w.heap.size) := by
 obtain ⟨b, sure, fuse, down⟩ := T
 simp only at hf hd
 subst hf
 subst hd
 refine (open_says t v b sure w0 w hGL hB hT hG.len).mono ?_
 rintro e w' ⟨hk, h | ⟨D, s, m, n, v', h1, h2, h3, h4, h5, h6⟩⟩
 ·
  exact ⟨hk, .inl h⟩
 ·
  refine ⟨hk, .inr ⟨D, s, m, n, v', h1, h2, h3, h4, h5, fun k hk => ?_⟩⟩
  rcases h6 with h | h
  ·
   exact .inl (by rw [← h]; exact hk)
  ·
   exact .inr (h k hk)
/-- Open, where all is well. -/
theorem topen_ok (t : Nat) (v : Value) (T : TapeS) (hf : T.fuse = -1) (hd : T.down = false) (D : DataW Unit) (hD : openD (splitL T.b).1 (.map []) = some D) (w0 w : World) (hGL : GL w0) (hB : Below w0.heap.size w0 w) (hT : TpAt w w0.heap.size t v T) (hG : T.Good) :
  Calls Tryz.prog 19 #[.pointer (some ⟨t, 0, none⟩)] w fun e w' => Tur w w' (fun k => k = t) ∧
   ∃ s m n v', e = .returned (.tuple #[.pointer (some ⟨s, 0, none⟩), .int .i64 0]) ∧ StoreAt w' w.heap.size s t m n D ∧ n ≤ 3300000000000 ∧ TpAt w' w0.heap.size t v' T.opened ∧ Rowd v v' w.heap.size := by
 refine (topen_says t v T hf hd w0 w hGL hB hT hG).mono ?_
 rintro e w' ⟨hk, ⟨h, _⟩ | ⟨D', s, m, n, v', h1, h2, h3, h4, h5, h6⟩⟩
 ·
  rw [hD] at h; cases h
 ·
  rw [hD] at h1
  obtain rfl := Option.some.inj h1
  exact ⟨hk, s, m, n, v', h2, h3, h4, h5, h6⟩
theorem StoreAt.lower {W : World} {base base' s t m n : Nat} {D : DataW Unit} (h : StoreAt W base s t m n D) (hb : base' ≤ base) : StoreAt W base' s t m n D := ⟨h.blk, h.map, Nat.le_trans hb h.ge, Nat.le_trans hb h.mge⟩
/-- A row that was just made. -/
theorem C_made {α : Type} {d : Kd α} {e : Nat} (w : World) (xs : List α) (cs : List Value) (hl : xs.length ≤ maxLen) (hr : Reps (d.M (w.alloc (.cells cs.toArray e)) w.heap.size (fun _ => False)) d.sz xs cs) :
  d.R e (w.alloc (.cells cs.toArray e)) w.heap.size (fun _ => True) (.slice (some ⟨w.heap.size, 0, none⟩) xs.length xs.length) xs := by
 refine ⟨fun _ _ => trivial, cs, ⟨hr.1, .inr ⟨w.heap.size, xs.length, cs.toArray, rfl, Nat.le_refl _, heap_alloc_new w _, Nat.le_refl _, hl, by simp [hr.1], ?_⟩⟩, hr.imp_ (fun _ _ h => d.M_mono (fun _ h => h.elim) h)⟩
 simp [hr.1, List.take_of_length_le]
theorem TapeS.append_well (T : TapeS) (ys : List Int) (hf : T.fuse = -1) (hd : T.down = false) : T.append ys = (⟨T.b ++ ys, ((T.b ++ ys).length : Int), -1, false⟩, 0) := by
 obtain ⟨b, sure, fuse, down⟩ := T
 simp only at hf hd
 subst hf
 subst hd
 have e1 : TapeS.write ⟨b, sure, -1, false⟩ ys = (⟨b ++ ys, sure, -1, false⟩, 0) := by
  have hb : burnL (ys.length : Int) (-1) false false = (((ys.length : Int), true), (-1, false)) := rfl
  unfold TapeS.write
  simp only [hb]
  rw [Int.toNat_natCast, List.take_length]
  rfl
 unfold TapeS.append
 rw [e1]
 rfl
end Go.Proofs.YtpoblffgclmmlaaGreatDoor.X
end
