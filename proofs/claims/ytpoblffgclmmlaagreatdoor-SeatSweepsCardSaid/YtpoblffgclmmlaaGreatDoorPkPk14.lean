/- A part of the proof of a card: what some functions of the program come to, each under the conditions that its theorem names. -/
import Derived.Lib.Hide
import Derived.Test.YtpoblffgclmmlaaGreatDoorPkPk10
import Derived.Test.YtpoblffgclmmlaaGreatDoorPkPk11
import Derived.Test.YtpoblffgclmmlaaGreatDoorPkPk12
import Derived.Test.YtpoblffgclmmlaaGreatDoorPkPk13
section
set_option linter.unusedVariables false
set_option linter.unusedSimpArgs false
namespace Go.Proofs.YtpoblffgclmmlaaGreatDoor.X
open Go.RowKit Go.Maps Go.Proofs.YtpoblffgclmmlaaGreatDoorW.PrintWords Go.Proofs.YtpoblffgclmmlaaGreatDoorW.PrintLast Go.Proofs.YtpoblffgclmmlaaGreatDoorW.PrintMore Go.Proofs.YtpoblffgclmmlaaGreatDoor.Q

/-- A tape. -/
structure TapeS where
 b : List Int
 sure : Int
 fuse : Int
 down : Bool
/-- A tape's word. -/
structure TapeS.Good (T : TapeS) : Prop where
 len : T.b.length ≤ 100000000
 sure : 0 ≤ T.sure ∧ T.sure ≤ T.b.length
 fuse : -1 ≤ T.fuse ∧ T.fuse < 9223372036854775808
def codeL (ok : Bool) : Int := if ok = true then 0 else 8
def TapeS.write (T : TapeS) (ys : List Int) : TapeS × Int :=
 let B := burnL (ys.length : Int) T.fuse T.down false
 (⟨T.b ++ ys.take B.1.1.toNat, T.sure, B.2.1, B.2.2⟩, codeL B.1.2)
def TapeS.sync (T : TapeS) : TapeS × Int :=
 let B := burnL 1 T.fuse T.down true
 (⟨T.b, if B.1.2 = true then (T.b.length : Int) else T.sure, B.2.1, B.2.2⟩, codeL B.1.2)
def TapeS.swap (T : TapeS) (ys : List Int) : TapeS × Int :=
 let B := burnL ((ys.length : Int) + 1) T.fuse T.down true
 (⟨if B.1.2 = true then ys else T.b, if B.1.2 = true then (ys.length : Int) else T.sure, B.2.1, B.2.2⟩, codeL B.1.2)
def TapeS.append (T : TapeS) (ys : List Int) : TapeS × Int :=
 if (T.write ys).2 = 0 then (T.write ys).1.sync else T.write ys
/-- A tape in memory. -/
def TpAt (W : World) (base t : Nat) (v : Value) (T : TapeS) : Prop := TapeAt W base t v T.b T.sure T.fuse T.down
/-- What a call may turn of a tape; where its row may be behind it. -/
def Rowd (v v' : Value) (z : Nat) : Prop := ∀ k, v'.ownBlock = some k → v.ownBlock = some k ∨ z ≤ k
theorem Rowd.refl (v : Value) (z : Nat) : Rowd v v z := fun k h => .inl h
theorem Rowd.trans {v v1 v2 : Value} {z z1 : Nat} (h : Rowd v v1 z) (h2 : Rowd v1 v2 z1) (hz : z ≤ z1) : Rowd v v2 z := fun k hk => by
 rcases h2 k hk with h' | h'
 ·
  exact h k h'
 ·
  exact .inr (Nat.le_trans hz h')
theorem TpAt.ne_cells {W : World} {base t : Nat} {v : Value} {T : TapeS} (h : TpAt W base t v T) {g e : Nat} {cs : Array Value} (hb : W.heap[g]? = some (.cells cs e (0, 0))) (he : 5 ≠ e) : v.ownBlock ≠ some g := fun hk => by
 obtain ⟨cells, hc⟩ := (h.row.typed g hk).2
 exact blk_ne hc hb he rfl
theorem burn_range (n fuse : Int) (down whole : Bool) (hn : 0 ≤ n) (hf : -1 ≤ fuse ∧ fuse < 9223372036854775808) : 0 ≤ (burnL n fuse down whole).1.1 ∧ (burnL n fuse down whole).1.1 ≤ n ∧ -1 ≤ (burnL n fuse down whole).2.1 ∧ (burnL n fuse down whole).2.1 < 9223372036854775808 := by
 unfold burnL
 by_cases hd : down = true
 ·
  rw [if_pos hd]; exact ⟨Int.le_refl _, hn, hf⟩
 ·
  rw [if_neg hd]
  by_cases hc : fuse < 0 ∨ n ≤ fuse
  ·
   rw [if_pos hc]
   by_cases h0 : 0 ≤ fuse
   ·
    rw [if_pos h0]; exact ⟨hn, Int.le_refl _, by show -1 ≤ fuse - n; omega, by show fuse - n < _; omega⟩
   ·
    rw [if_neg h0]; exact ⟨hn, Int.le_refl _, hf.1, hf.2⟩
  ·
   rw [if_neg hc]
   cases whole
   ·
    exact ⟨by show 0 ≤ fuse; omega, by show fuse ≤ n; omega, by show (-1 : Int) ≤ 0; omega, by show (0 : Int) < _; omega⟩
   ·
    exact ⟨by show (0 : Int) ≤ 0; omega, by show 0 ≤ n; omega, by show (-1 : Int) ≤ 0; omega, by show (0 : Int) < _; omega⟩
theorem twrite_says (base t : Nat) (v : Value) (T : TapeS) (ys : List Int) (A : Option Addr) (c : Nat) (w : World) (h : TpAt w base t v T) (hG : T.Good) (hC : Kd.C (Kd.int .u8) w A ys.length ys) (hcy : ys.length ≤ c) (hl : ys.length ≤ 100000000) (hbase : base ≤ w.heap.size) :
  Calls Tryz.prog 138 #[.pointer (some ⟨t, 0, none⟩), .slice A ys.length c] w fun e w' =>
   e = .returned (.int .i64 (T.write ys).2) ∧ Tur w w' (fun k => k = t ∨ v.ownBlock = some k) ∧ ∃ v', TpAt w' base t v' (T.write ys).1 ∧ Rowd v v' w.heap.size := by
 obtain ⟨done, ok, fuse1, down1, hB⟩ : ∃ d o f g, burnL (ys.length : Int) T.fuse T.down false = ((d, o), (f, g)) := ⟨_, _, _, _, rfl⟩
 have hr := burn_range (ys.length : Int) T.fuse T.down false (by omega) hG.fuse
 rw [hB] at hr
 simp only at hr
 obtain ⟨d, rfl⟩ : ∃ d : Nat, done = (d : Int) := ⟨done.toNat, by omega⟩
 have hl' := hG.len
 refine (write_says base t v T.b ys T.sure T.fuse T.down A c w h hC hcy (by omega) hbase (by have := hG.fuse; omega) d fuse1 ok down1 hB (by omega)).mono ?_
 rintro e w' ⟨rfl, hk, v', hT, hv⟩
 have hw : T.write ys = (⟨T.b ++ ys.take d, T.sure, fuse1, down1⟩, codeL ok) := by unfold TapeS.write; rw [hB]; rfl
 rw [hw]
 refine ⟨rfl, hk, v', hT, fun k hk => ?_⟩
 rcases hv with h | h
 ·
  exact .inl (by rw [← h]; exact hk)
 ·
  exact .inr (h k hk)
theorem tsync_says (base t : Nat) (v : Value) (T : TapeS) (w : World) (h : TpAt w base t v T) (hf : -1 ≤ T.fuse ∧ T.fuse < 9223372036854775808) :
  Calls Tryz.prog 139 #[.pointer (some ⟨t, 0, none⟩)] w fun e w' =>
   e = .returned (.int .i64 T.sync.2) ∧ Tur w w' (fun k => k = t) ∧ TpAt w' base t v T.sync.1 := by
 obtain ⟨done, ok, fuse1, down1, hB⟩ : ∃ d o f g, burnL 1 T.fuse T.down true = ((d, o), (f, g)) := ⟨_, _, _, _, rfl⟩
 refine (sync_says base t v T.b T.sure T.fuse T.down w h (by omega) done fuse1 ok down1 hB).mono ?_
 rintro e w' ⟨rfl, hk, hT⟩
 have hw : T.sync = (⟨T.b, if ok = true then (T.b.length : Int) else T.sure, fuse1, down1⟩, codeL ok) := by unfold TapeS.sync; rw [hB]
 rw [hw]
 exact ⟨rfl, hk, hT⟩
theorem tswap_says (base t : Nat) (v : Value) (T : TapeS) (ys : List Int) (A : Option Addr) (c : Nat) (w : World) (h : TpAt w base t v T) (hf : -1 ≤ T.fuse ∧ T.fuse < 9223372036854775808) (hC : Kd.C (Kd.int .u8) w A ys.length ys) (hl : ys.length ≤ 100000000) (hbase : base ≤ w.heap.size) :
  Calls Tryz.prog 83 #[.pointer (some ⟨t, 0, none⟩), .slice A ys.length c] w fun e w' =>
   e = .returned (.int .i64 (T.swap ys).2) ∧ Tur w w' (fun k => k = t) ∧ ∃ v', TpAt w' base t v' (T.swap ys).1 ∧ Rowd v v' w.heap.size := by
 obtain ⟨done, ok, fuse1, down1, hB⟩ : ∃ d o f g, burnL ((ys.length : Int) + 1) T.fuse T.down true = ((d, o), (f, g)) := ⟨_, _, _, _, rfl⟩
 refine (swap_says base t v T.b ys T.sure T.fuse T.down A c w h hC (by omega) hbase (by omega) done fuse1 ok down1 hB).mono ?_
 rintro e w' ⟨rfl, hk, v', hT, hv⟩
 have hw : T.swap ys = (⟨if ok = true then ys else T.b, if ok = true then (ys.length : Int) else T.sure, fuse1, down1⟩, codeL ok) := by unfold TapeS.swap; rw [hB]
 rw [hw]
 refine ⟨rfl, hk, v', hT, fun k hk => ?_⟩
 rcases hv with h | h
 ·
  exact .inl (by rw [← h]; exact hk)
 ·
  exact .inr (h k hk)
theorem TapeS.write_good (T : TapeS) (ys : List Int) (h : T.Good) (hl : T.b.length + ys.length ≤ 100000000) : (T.write ys).1.Good := by
 have hr := burn_range (ys.length : Int) T.fuse T.down false (by omega) h.fuse
 have hs := h.sure
 refine ⟨?_, ⟨hs.1, ?_⟩, ⟨hr.2.2.1, hr.2.2.2⟩⟩
 ·
  show (T.b ++ List.take _ ys).length ≤ _
  rw [List.length_append, List.length_take]; omega
 ·
  show T.sure ≤ ((T.b ++ List.take _ ys).length : Int)
  rw [List.length_append]; omega
set_option maxHeartbeats 4000000 in
set_option maxRecDepth 100000 in
theorem append_says (base s t m n : Nat) (D : DataW Unit) (v : Value) (T : TapeS) (ys : List Int) (A : Option Addr) (c : Nat) (w : World) (hS : StoreAt w base s t m n D) (h : TpAt w base t v T) (hG : T.Good) (hC : Kd.C (Kd.int .u8) w A ys.length ys) (hcy : ys.length ≤ c) (hl : T.b.length + ys.length ≤ 100000000) (hbase : base ≤ w.heap.size) :
  Calls Tryz.prog 91 #[.pointer (some ⟨s, 0, none⟩), .slice A ys.length c] w fun e w' =>
   e = .returned (.int .i64 (T.append ys).2) ∧ Tur w w' (fun k => k = t ∨ v.ownBlock = some k) ∧ ∃ v', TpAt w' base t v' (T.append ys).1 ∧ Rowd v v' w.heap.size := by
 have c0 := blk_cell hS.blk 0
 have hst : s ≠ t := blk_ne hS.blk h.blk (by decide)
 have hg1 := T.write_good ys hG hl
 obtain ⟨T1, hT1⟩ : ∃ T1, T1 = T.write ys := ⟨_, rfl⟩
 have hw := twrite_says base t v T ys A c w h hG hC hcy (by omega) hbase
 rw [← hT1] at hw hg1
 have hap : T.append ys = if T1.2 = 0 then T1.1.sync else T1 := by rw [hT1]; rfl
 have hcode : T1.2 = 0 ∨ T1.2 = 8 := by
  rw [hT1]; show codeL _ = 0 ∨ codeL _ = 8
  unfold codeL; split
  ·
   exact .inl rfl
  ·
   exact .inr rfl
 obtain ⟨R, hR⟩ : ∃ R, T.append ys = R := ⟨_, rfl⟩
 rw [hR]
 have hR2 := hR.symm.trans hap
 have HR := Lib.hid hR2
 have Hcode := Lib.hid hcode
 clear hT1 hap hcode hR hR2
 go_enter Tryz.func91, Tryz.ntmps91
 go_wp2_with fail
 refine hw.mono ?_
 rintro e w1 ⟨rfl, hk1, v1, hA1, hv1⟩
 have hS1 := hS.blk
 have b1 := blk_kept hS.blk hk1.kept (by
  rintro (h | h)
  ·
   exact hst h
  ·
   exact TpAt.ne_cells ‹TpAt w base t v T› hS.blk (by decide) h)
 rcases (show T1.2 = 0 ∨ T1.2 = 8 from Hcode) with hc | hc
 ·
  have hR : R = T1.1.sync := by
   have h := (show R = if T1.2 = 0 then T1.1.sync else T1 from HR)
   rw [if_pos hc] at h; exact h
  subst hR
  rw [hc]
  have c01 := blk_cell b1 0
  have h1 := tsync_says base t v1 T1.1 w1 hA1 hg1.fuse
  go_wp2_with fail
  refine h1.mono ?_
  rintro e w2 ⟨rfl, hk2, hA2⟩
  go_wp2_with fail
  go_ret
  exact ⟨rfl, hk1.then_ hk2 (fun k h => .inl (.inl h)), v1, hA2, hv1⟩
 ·
  have hR : R = T1 := by
   have h := (show R = if T1.2 = 0 then T1.1.sync else T1 from HR)
   rw [if_neg (by rw [hc]; decide)] at h; exact h
  subst hR
  rw [hc]
  go_wp2_with fail
  go_ret
  exact ⟨by rw [hc]; rfl, hk1, v1, hA1, hv1⟩
end Go.Proofs.YtpoblffgclmmlaaGreatDoor.X
namespace Go.Proofs.YtpoblffgclmmlaaGreatDoor.X
open Go.RowKit Go.WideMaps Go.Maps Go.Proofs.YtpoblffgclmmlaaGreatDoorW.PrintWords Go.Proofs.YtpoblffgclmmlaaGreatDoorW.PrintLast Go.Proofs.YtpoblffgclmmlaaGreatDoorW.PrintMore Go.Proofs.YtpoblffgclmmlaaGreatDoor.Q

/-- A map's keys, rising. -/
def keysD (D : DataW Unit) : List ByteArray := ((strKeys D).mergeSort leB).map fun l => (⟨l.toArray⟩ : ByteArray)
theorem encs_keys (ss : List (List UInt8)) : (ss.map encStr) = encs Value.string (ss.map fun l => (⟨l.toArray⟩ : ByteArray)) := by
 induction ss with
 | nil => rfl
 | cons a ss ih =>
  rw [List.map_cons, List.map_cons, ih]; rfl
theorem keysD_len {W : World} {m n : Nat} {D : DataW Unit} (h : MapAt W m n D) : (keysD D).length ≤ n := by
 unfold keysD
 rw [List.length_map, List.length_mergeSort]
 have h1 := World.ownsMap.size_le h
 obtain ⟨es, rfl, _⟩ := World.ownsMap.keysOf h
 show (es.map _).length ≤ n
 rw [List.length_map]; exact h1
theorem keysD_small {W : World} {m n : Nat} {D : DataW Unit} (h : MapAt W m n D) : ∀ x ∈ keysD D, x.size ≤ maxLen := by
 intro x hx
 obtain ⟨l, hl, rfl⟩ := List.mem_map.1 hx
 exact strKeys_le h Tryz.underlying9 l (List.mem_mergeSort.1 hl)
section
variable {ops : Array Oper} {rest : List Oper} {o : Oper} {a : Act} {Q : Exit → Act → World → Prop}
theorem wpList_lookup_str (w : World) (hg : o.guard = none) (m x : Operand) (hop : o.op = Op.lookup 123 m x false)
  (b n : Nat) (D : DataW Unit) (hm : a.eval m = .map (some b)) (hown : MapAt w b n D) (key : ByteArray) (hx : a.eval x = .string key) (hkey : key.size ≤ maxLen)
  (hK : wpList Tryz.prog ops Q rest (a.put o.dst (.string (valS D key))) w) : wpList Tryz.prog ops Q (o :: rest) a w := by
 refine wpList_plain hg fun K' hK' => ?_
 have hz : plainElem (H := Unit) Tryz.prog 9 (.string ⟨#[]⟩) = some (.lit (.string []), []) := plainElem_string Tryz.underlying9 (by decide)
 have hk : keyOf Tryz.prog 9 (.string key) = some (kb key) := keyOf_string_mk Tryz.underlying9 hkey
 obtain ⟨v, ps, hrun, hv⟩ := World.ownsMap.lookup hown keyLaw Tryz.underlying123 (zeroS w) hz hk
 have hv := valS_of hv
 subst hv
 unfold Oper.wp
 simp [execOp, hop, hm, hx, hrun, Result.andThen]
 exact hK' _ _ hK
end
theorem mkeys_says (m : Nat) (w : World) : Calls Tryz.prog 108 #[.map (some m)] w fun e w' => e = .returned (.func (.func 150) #[] #[.pointer (some ⟨w.heap.size, 0, none⟩)]) ∧ w' = w.alloc (.cells #[.map (some m)] 123) :=
 callsIn_wide.1 (Go.Proofs.Tryz.maps_Keys_108 (some m) w)
theorem sorted_says (m n : Nat) (D : DataW Unit) (w : World) (h : MapAt w m n D) (hn : n ≤ 3500000000000) :
  Calls Tryz.prog 107 #[.func (.func 150) #[] #[.pointer (some ⟨w.heap.size, 0, none⟩)]] (w.alloc (.cells #[.map (some m)] 123)) fun e w' => ∃ v, e = .returned v ∧ Kd.R Kd.string 9 w' (w.heap.size + 1) (fun _ => True) v (keysD D) ∧ Below w.heap.size w w' := by
 have hsz : Maps.size D ≤ n := by
  exact World.ownsMap.size_le h
 refine (callsIn_wide.1 (Go.Proofs.Tryz.slices_Sorted_keys_107_108 m n D _ w h (by unfold maxLen; omega) (by omega))).mono ?_
 rintro e w' ⟨v, ss, rfl, hS, hrow, hnil, hb⟩
 refine ⟨v, rfl, ?_, ?_⟩
 ·
  have hk : (ss.mergeSort (fun x y => decide (x ≤ y))).map encStr = encs Value.string (keysD D) := by
   rw [encs_keys]
   unfold keysD
   rw [← mergeSort_of_perm hS]
  have hlen : (keysD D).length = ss.length := by
   unfold keysD
   rw [List.length_map, List.length_mergeSort, hS.length_eq]
  rw [hk, ← hlen] at hrow
  have h0 : (w.alloc (.cells #[.map (some m)] 123)).heap.size = w.heap.size + 1 := by simp
  rw [h0] at hrow
  exact Kd.R_of_own hrow (fun _ _ => trivial)
 ·
  exact below_then (below_alloc (Below.refl _ w) _) (by simp) hb
set_option maxHeartbeats 4000000 in
set_option maxRecDepth 100000 in
theorem whole_core (m n : Nat) (D : DataW Unit) (ks : List ByteArray) (hks : keysD D = ks) (w : World) (h : MapAt w m n D) (hn : n ≤ 3500000000000) :
  Calls Tryz.prog 137 #[.map (some m)] w fun e w' => ∃ v, e = .returned v ∧ Kd.R k69 69 w' w.heap.size (fun _ => True) v (ks.map fun k => (⟨k, valS D k, false⟩ : S69)) ∧ Below w.heap.size w w' := by
 have hso := fun w1 => sorted_says m n D w1
 have hlen := keysD_len h
 have hsm := keysD_small h
 rw [hks] at hso hlen hsm
 clear hks
 go_enter Tryz.func137, Tryz.ntmps137
 go_wp2_with fail
 refine (mkeys_says m w).mono ?_
 rintro e w1 ⟨rfl, rfl⟩
 go_wp2_with fail
 refine (hso w h hn).mono ?_
 rintro e w1 ⟨v1, rfl, hr1, hb1⟩
 obtain ⟨A1, c1, e1⟩ := Kd.R_slice hr1
 subst e1
 have hrd := (Kd.R_reads' hr1).2.2
 clear hr1
 have hb01 : Below w.heap.size w w1 := hb1
 go_wp2_with fail
 go_loopw [3, 10] (fun v3 v10 wr => ∃ i : Nat, v10 = .int .i64 i ∧ i ≤ ks.length ∧ Kd.R k69 69 wr w1.heap.size (fun _ => True) v3 ((ks.take i).map fun k => (⟨k, valS D k, false⟩ : S69)) ∧ Below w1.heap.size w1 wr) (fun _ v10 _ => ks.length - (intOf v10).toNat)
 case atStart => exact ⟨0, rfl, Nat.zero_le _, Kd.R_nil _ _ _ _ _, Below.refl _ w1⟩
 case round =>
  obtain ⟨i, rfl, hi, hr, hb⟩ := hrel
  have hC := Kd.C_below hrd hb
  by_cases hlt : i < ks.length
  ·
   have d1 : decide ((i : Int) < (ks.length : Int)) = true := decide_eq_true (by omega)
   obtain ⟨ad, rfl, hx⟩ := Kd.at_string hC (i : Int) (by omega) (by omega)
   have i3 : ((i : Int) < (ks.length : Int)) = True := eq_true (by omega)
   have i0 : (0 ≤ (i : Int)) = True := eq_true (by omega)
   have e1 : IntKind.i64.wrap ((i : Int) + 1) = (i : Int) + 1 := IntWalk.i64_in _ (by omega)
   simp only [Int.toNat_natCast] at hx
   have hxg : rdOf ByteArray.empty ks (i : Int) = ks.getD i ByteArray.empty := by unfold rdOf; rw [Int.toNat_natCast]
   have hmem : ks.getD i ByteArray.empty ∈ ks := by simp [List.getD_eq_getElem?_getD, List.getElem?_eq_getElem hlt]
   have htk : ks.take (i + 1) = ks.take i ++ [ks.getD i ByteArray.empty] := by
    rw [List.take_add_one]; simp [List.getD_eq_getElem?_getD, List.getElem?_eq_getElem hlt]
   have hxs := hsm _ hmem
   rw [hxg] at hx
   clear hxg hmem
   generalize ks.getD i ByteArray.empty = x at hx htk hxs
   have hm := h.kept (Tur.of_below (below_then hb01 hb01.size hb) (fun _ => False)) (fun h => h)
   have LB := Lib.hid (show (((ks.take i).map fun k => (⟨k, valS D k, false⟩ : S69)).length + 1) * 40 ≤ 140737488355328 by rw [List.length_map, List.length_take]; omega)
   have Htk := Lib.hid htk
   have Hi := Lib.hid (show i + 1 ≤ ks.length by omega)
   clear htk hsm
   obtain ⟨out, hout⟩ : ∃ out, out = (ks.take i).map fun k => (⟨k, valS D k, false⟩ : S69) := ⟨_, rfl⟩
   rw [← hout] at hr LB
   have Hout := Lib.hid hout
   clear hout
   go_wp2_with (first
    | (at_lookup; refine wpList_lookup_str _ rfl _ _ rfl m n D rfl hm x rfl hxs ?_)
    | ((with_reducible refine gate_builtin (b := .append) (xs := #[.tmp 14, .tmp 20]) rfl ?_); at_builtin; refine Kd.R_append k69 (w0 := w1) w1.heap.size rfl (.tmp 14) (.tmp 20) 35 69 (.agg #[.string ⟨#[]⟩, .string ⟨#[]⟩, .bool false]) 40 rfl Tryz.underlying35 (by kernel_rfl) rfl (by decide) (by decide) u3 out ⟨x, valS D x, false⟩ [.string x, .string (valS D x), .bool false] (fun _ => True) (fun _ => False) rfl rfl (k69_mkM _ _ _ ⟨x, valS D x, false⟩) (fun _ h => h.elim) (fun _ _ => trivial) (Kd.R_mono hr (fun _ _ => trivial)) hb hb.size LB ?_; intro v5 w5 ho5 hb5 hg5 hat5))
   refine ⟨⟨i + 1, rfl, Hi, ?_, hb5⟩, ?_⟩
   ·
    rw [(show ks.take (i + 1) = ks.take i ++ [x] from Htk), List.map_append, ← (show out = _ from Hout)]
    exact ho5
   ·
    have := (show i + 1 ≤ ks.length from Hi); simp only [intOf]; omega
  ·
   have d1 : decide ((i : Int) < (ks.length : Int)) = false := decide_eq_false (by omega)
   have hil : i = ks.length := by omega
   subst hil
   rw [List.take_length] at hr
   go_wp2_with fail
   go_ret
   exact ⟨_, rfl, Kd.R_lower hr hb01.size, below_then hb01 hb01.size hb⟩
theorem whole_says (m n : Nat) (D : DataW Unit) (w : World) (h : MapAt w m n D) (hn : n ≤ 3500000000000) :
  Calls Tryz.prog 137 #[.map (some m)] w fun e w' => ∃ v, e = .returned v ∧ Kd.R k69 69 w' w.heap.size (fun _ => True) v ((keysD D).map fun k => (⟨k, valS D k, false⟩ : S69)) ∧ Below w.heap.size w w' :=
 whole_core m n D _ rfl w h hn
end Go.Proofs.YtpoblffgclmmlaaGreatDoor.X
namespace Go.Proofs.YtpoblffgclmmlaaGreatDoor.X
open Go.RowKit Go.WideMaps Go.Maps Go.Proofs.YtpoblffgclmmlaaGreatDoorW.PrintWords Go.Proofs.YtpoblffgclmmlaaGreatDoorW.PrintLast Go.Proofs.YtpoblffgclmmlaaGreatDoorW.PrintMore Go.Proofs.YtpoblffgclmmlaaGreatDoor.Q

def allD (D : DataW Unit) : List S69 := (keysD D).map fun k => (⟨k, valS D k, false⟩ : S69)
/-- The tape has all rows, and nothing more. -/
def TapeS.renew (T : TapeS) (D : DataW Unit) : TapeS × Int :=
 if 32768 < (recL (allD D)).length ∨ 65536 < (frameL (recL (allD D))).length then (T, 7) else T.swap (frameL (recL (allD D)))
theorem frameL_len (l : List Int) : (frameL l).length = l.length + 8 := by
 simp only [frameL, List.length_append, markL_length]
 simp [four]
 omega
set_option maxHeartbeats 4000000 in
set_option maxRecDepth 100000 in
theorem renew_says (base s t m n m2 n2 : Nat) (D D2 : DataW Unit) (v : Value) (T : TapeS) (w0 w : World) (hGL : GL w0) (hB : Below w0.heap.size w0 w) (hS : StoreAt w base s t m n D) (h : TpAt w base t v T) (hG : T.Good) (hM : MapAt w m2 n2 D2) (hn : n2 ≤ 3500000000000) (hl : (recL (allD D2)).length ≤ 90000000) (hbase : base ≤ w.heap.size) :
  Calls Tryz.prog 90 #[.pointer (some ⟨s, 0, none⟩), .map (some m2)] w fun e w' =>
   e = .returned (.int .i64 (T.renew D2).2) ∧ Tur w w' (fun k => k = t) ∧ ∃ v', TpAt w' base t v' (T.renew D2).1 ∧ Rowd v v' w.heap.size := by
 obtain ⟨R, hR⟩ : ∃ R, T.renew D2 = R := ⟨_, rfl⟩
 rw [hR]
 have hrn : R = if 32768 < (recL (allD D2)).length ∨ 65536 < (frameL (recL (allD D2))).length then (T, 7) else T.swap (frameL (recL (allD D2))) := by rw [← hR]; rfl
 have hwho := whole_says m2 n2 D2 w hM hn
 have e0 : (keysD D2).map (fun k => (⟨k, valS D2 k, false⟩ : S69)) = allD D2 := rfl
 rw [e0] at hwho
 have hfl := frameL_len (recL (allD D2))
 generalize allD D2 = l at hrn hwho hl hfl
 have Hrn := Lib.hid hrn
 have Hfl := Lib.hid hfl
 clear hR e0 hrn hfl
 go_enter Tryz.func90, Tryz.ntmps90
 go_wp2_with fail
 refine hwho.mono ?_
 rintro e w1 ⟨v1, rfl, hr1, hb1⟩
 obtain ⟨A1, c1, e1⟩ := Kd.R_slice hr1
 subst e1
 have hC1 := (Kd.R_reads' hr1).2.2
 go_wp2_with fail
 refine (record_says A1 c1 l w1 hC1 (by omega)).mono ?_
 rintro e w2 ⟨v2, rfl, hr2, hb2⟩
 obtain ⟨A2, c2, e2⟩ := Kd.R_slice hr2
 subst e2
 have hC2 := (Kd.R_reads' hr2)
 have hb02 := below_then hb1 hb1.size hb2
 go_wp2_with fail
 have hfr := frame_Frame.says A2 c2 (recL l) w2 hC2.2.2 hC2.2.1 (by omega) (hGL.below (below_then hB hB.size hb02))
 have hfl := (show (frameL (recL l)).length = _ from Hfl)
 have hrn := (show R = _ from Hrn)
 clear Hfl Hrn
 generalize frameL (recL l) = ys at hfr hfl hrn
 have Hrn := Lib.hid hrn
 have Hfl := Lib.hid hfl
 clear hrn hfl
 refine hfr.mono ?_
 rintro e w3 ⟨v3, rfl, hr3, hb3⟩
 obtain ⟨A3, c3, e3⟩ := Kd.R_slice hr3
 subst e3
 have hC3 := (Kd.R_reads' hr3)
 have hb03 := below_then hb02 hb02.size hb3
 have hS3 := hS.kept (Tur.of_below hb03 (fun _ => False)) (fun h => h) (fun h => h)
 have hT3 : TpAt w3 base t v T := TapeAt.kept h (Tur.of_below hb03 (fun _ => False)) (fun h => h) (fun _ _ h => h)
 have c0 := blk_cell hS3.blk 0
 have hfl := (show ys.length = _ from Hfl)
 have hrn := (show R = _ from Hrn)
 clear Hfl Hrn
 by_cases hl1 : 32768 < (recL l).length
 ·
  have d1 : decide ((32768 : Int) < ((recL l).length : Int)) = true := decide_eq_true (by omega)
  rw [if_pos (.inl hl1)] at hrn
  subst hrn
  clear hfl
  go_wp2_with fail
  go_ret
  exact ⟨rfl, Tur.of_below hb03 _, v, hT3, Rowd.refl _ _⟩
 ·
  have d1 : decide ((32768 : Int) < ((recL l).length : Int)) = false := decide_eq_false (by omega)
  rw [if_neg (by omega)] at hrn
  have d2 : decide ((65536 : Int) < (ys.length : Int)) = false := decide_eq_false (by omega)
  have hsw := tswap_says base t v T ys A3 c3 w3 hT3 hG.fuse hC3.2.2 (by omega) (by have := hb03.size; omega)
  have Hl := Lib.hid hl1
  clear hfl hl1
  generalize T.swap ys = R2 at hrn hsw
  subst hrn
  go_wp2_with fail
  refine hsw.mono ?_
  rintro e w4 ⟨rfl, hk4, v4, hT4, hv4⟩
  go_wp2_with fail
  go_ret
  refine ⟨rfl, (Tur.of_below hb03 _).then_ hk4 (fun k h => .inl h), v4, hT4, fun k hk => ?_⟩
  rcases hv4 k hk with h | h
  ·
   exact .inl h
  ·
   exact .inr (Nat.le_trans hb03.size h)
end Go.Proofs.YtpoblffgclmmlaaGreatDoor.X
namespace Go.Proofs.YtpoblffgclmmlaaGreatDoor.X
open Go.RowKit Go.WideMaps Go.Maps Go.Proofs.YtpoblffgclmmlaaGreatDoorW.PrintWords Go.Proofs.YtpoblffgclmmlaaGreatDoorW.PrintLast Go.Proofs.YtpoblffgclmmlaaGreatDoorW.PrintMore Go.Proofs.YtpoblffgclmmlaaGreatDoor.Q

/-- Does a text begin so? -/
def preB (s p : ByteArray) : Bool := Lib.hasPrefix s.data.toList p.data.toList
/-- What Do does to the tape, and what it answers. -/
def doT (T : TapeS) (D : DataW Unit) (l : List S69) : TapeS × Int :=
 if l.length = 0 then (T, 0) else if 32768 < (recL l).length then (T, 3) else
 if 65536 < (frameL (recL l)).length + T.b.length then T.renew (turnD D l) else T.append (frameL (recL l))
/-- .. and to the rows. -/
def doD (T : TapeS) (D : DataW Unit) (l : List S69) : DataW Unit := if (doT T D l).2 = 0 then turnD D l else D
theorem MapAt.ne_row {W : World} {m n base t : Nat} {D : DataW Unit} {v : Value} {T : TapeS} (h : MapAt W m n D) (hT : TpAt W base t v T) : v.ownBlock ≠ some m := fun hk => by
 obtain ⟨cells, hc⟩ := (hT.row.typed m hk).2
 exact MapAt.ne h hc rfl
/-- What Do leaves. -/
def DoP (base s t n : Nat) (v : Value) (R : TapeS × Int) (D2 : DataW Unit) (k : Nat) (w : World) (e : Ending) (w' : World) : Prop :=
 e = .returned (.int .i64 R.2) ∧ Tur w w' (fun k => k = s ∨ k = t ∨ v.ownBlock = some k) ∧ ∃ m' n' v', StoreAt w' base s t m' n' D2 ∧ n' ≤ n + k ∧ TpAt w' base t v' R.1 ∧ Rowd v v' w.heap.size
set_option maxHeartbeats 8000000 in
set_option maxRecDepth 100000 in
theorem do_core (base s t m n : Nat) (D : DataW Unit) (v : Value) (T : TapeS) (A : Option Addr) (c : Nat) (l : List S69) (w0 w : World) (hGL : GL w0) (hB : Below w0.heap.size w0 w) (hS : StoreAt w base s t m n D) (h : TpAt w base t v T) (hG : T.Good) (hC : Kd.C k69 w A l.length l) (hcl : l.length ≤ c)
  (hn : n + l.length ≤ 3400000000000) (hll : l.length ≤ 90000000) (hl : (recL l).length ≤ 90000000) (hTl : T.b.length ≤ 1000000) (hx : ∀ x ∈ l, x.f0.size ≤ maxLen ∧ x.f1.size ≤ maxLen) (hl2 : (recL (allD (turnD D l))).length ≤ 90000000) (hbase : base ≤ w.heap.size)
  (R : TapeS × Int) (D2 : DataW Unit) (hR : R = doT T D l) (hD : D2 = if R.2 = 0 then turnD D l else D) :
  Calls Tryz.prog 25 #[.pointer (some ⟨s, 0, none⟩), .slice A l.length c] w fun e w' => DoP base s t n v R D2 l.length w e w' := by
 unfold doT at hR
 have c01 := blk_cell hS.blk 1
 have hst : s ≠ t := blk_ne hS.blk h.blk (by decide)
 go_enter Tryz.func25, Tryz.ntmps25
 by_cases hl0 : l.length = 0
 ·
  have d0 : decide ((l.length : Int) = 0) = true := decide_eq_true (by omega)
  rw [if_pos hl0] at hR
  have hD' : D2 = D := by
   have hnil : l = [] := List.length_eq_zero_iff.1 hl0
   rw [hD, hR, hnil]; rfl
  subst hD'
  subst hR
  clear hD
  go_wp2_with fail
  go_ret
  exact ⟨rfl, Tur.refl _ _, m, n, v, hS, by omega, h, Rowd.refl _ _⟩
 ·
  have d0 : decide ((l.length : Int) = 0) = false := decide_eq_false (by omega)
  rw [if_neg hl0] at hR
  have HR := Lib.hid hR
  have HD := Lib.hid hD
  clear hR hD
  go_wp2_with fail
  refine (record_says A c l w hC (by omega)).mono ?_
  rintro e w1 ⟨v1, rfl, hr1, hb1⟩
  obtain ⟨A1, c1, e1⟩ := Kd.R_slice hr1
  subst e1
  have hC1 := (Kd.R_reads' hr1)
  have hR := (show R = _ from HR)
  clear HR
  by_cases hl1 : 32768 < (recL l).length
  ·
   have d1 : decide ((32768 : Int) < ((recL l).length : Int)) = true := decide_eq_true (by omega)
   rw [if_pos hl1] at hR
   have hD' : D2 = D := by
    have hD := (show D2 = _ from HD)
    rw [hD, hR]; rfl
   clear HD
   subst hD'
   subst hR
   go_wp2_with fail
   go_ret
   exact ⟨rfl, Tur.of_below hb1 _, m, n, v, hS.kept (Tur.of_below hb1 (fun _ => False)) (fun h => h) (fun h => h), by omega, TapeAt.kept h (Tur.of_below hb1 (fun _ => False)) (fun h => h) (fun _ _ h => h), Rowd.refl _ _⟩
  ·
   have d1 : decide ((32768 : Int) < ((recL l).length : Int)) = false := decide_eq_false (by omega)
   rw [if_neg hl1] at hR
   have hfl := frameL_len (recL l)
   have hfr := fun A2 c2 w2 => frame_Frame.says A2 c2 (recL l) w2
   generalize frameL (recL l) = ys at hfr hfl hR
   have HR := Lib.hid hR
   have Hfl := Lib.hid hfl
   have Hl1 := Lib.hid hl1
   clear hR hfl hl1
   have hS1 := hS.kept (Tur.of_below hb1 (fun _ => False)) (fun h => h) (fun h => h)
   have c01 := blk_cell hS1.blk 1
   go_wp2_with fail
   refine (turned_says m n D A c l w1 hS1.map (Kd.C_below hC hb1) (by unfold maxLen; omega) hx).mono ?_
   rintro e w2 ⟨m2, rfl, hm2, hM2, hb2⟩
   have hb02 := below_then hb1 hb1.size hb2
   go_wp2_with fail
   refine (hfr A1 c1 w2 (Kd.C_below hC1.2.2 hb2) hC1.2.1 (by omega) (hGL.below (below_then hB hB.size hb02))).mono ?_
   rintro e w3 ⟨v3, rfl, hr3, hb3⟩
   obtain ⟨A3, c3, e3⟩ := Kd.R_slice hr3
   subst e3
   have hC3 := (Kd.R_reads' hr3)
   have hb03 := below_then hb02 hb02.size hb3
   have hS3 := hS.kept (Tur.of_below hb03 (fun _ => False)) (fun h => h) (fun h => h)
   have hT3 : TpAt w3 base t v T := TapeAt.kept h (Tur.of_below hb03 (fun _ => False)) (fun h => h) (fun _ _ h => h)
   have hM3 := hM2.kept (Tur.of_below hb3 (fun _ => False)) (fun h => h)
   have c00 := blk_cell hS3.blk 0
   go_wp2_with fail
   refine (bytes_says base t v T.b T.sure T.fuse T.down w3 hT3 (by omega)).mono ?_
   rintro e w4 ⟨v4, rfl, hr4, hb4⟩
   obtain ⟨A4, c4, e4⟩ := Kd.R_slice hr4
   subst e4
   have hb04 := below_then hb03 hb03.size hb4
   have hS4 := hS.kept (Tur.of_below hb04 (fun _ => False)) (fun h => h) (fun h => h)
   have hT4 : TpAt w4 base t v T := TapeAt.kept h (Tur.of_below hb04 (fun _ => False)) (fun h => h) (fun _ _ h => h)
   have hM4 := hM3.kept (Tur.of_below hb4 (fun _ => False)) (fun h => h)
   have hC4 := Kd.C_below hC3.2.2 hb4
   have es : IntKind.i64.wrap (65536 - (T.b.length : Int)) = 65536 - (T.b.length : Int) := IntWalk.i64_in _ (by omega)
   clear hr4 hr3 hr1 hfr
   have hR := (show R = _ from HR)
   have hfl := (show ys.length = _ from Hfl)
   have hl1 := (show ¬ 32768 < (recL l).length from Hl1)
   clear HR Hfl Hl1
   by_cases h2 : 65536 < ys.length + T.b.length
   ·
    have d2 : decide (65536 - (T.b.length : Int) < (ys.length : Int)) = true := decide_eq_true (by omega)
    rw [if_pos h2] at hR
    have hca := renew_says base s t m n m2 (n + l.length) D (turnD D l) v T w0 w4 hGL (below_then hB hB.size hb04) hS4 hT4 hG hM4 (by omega) hl2 (by have := hb04.size; omega)
    rw [← hR] at hca
    clear hR hfl hl1 h2
    go_wp2_with fail
    refine hca.mono ?_
    rintro e w5 ⟨rfl, hk5, v5, hT5, hv5⟩
    have hne2 := TpAt.ne_cells hT4 hS4.blk (by decide)
    have b5 := blk_kept hS4.blk hk5.kept hst
    have hm5 := hM4.kept hk5 (fun e => MapAt.ne hM4 hT4.blk e)
    have hm5' := hS4.map.kept hk5 (fun e => MapAt.ne hS4.map hT4.blk e)
    have hRv : Rowd v v5 w.heap.size := fun k hk => (hv5 k hk).elim .inl (fun h => .inr (Nat.le_trans hb04.size h))
    have hk05 : Tur w w5 (fun k => k = s ∨ k = t ∨ v.ownBlock = some k) := (Tur.of_below hb04 _).then_ hk5 (fun k h => .inl (.inr (.inl h)))
    have hwz := hb1.size
    have hD := (show D2 = _ from HD)
    by_cases h0 : R.2 = 0
    ·
     rw [if_pos h0] at hD
     subst hD
     rw [h0]
     have f1 := blk_frozen b5 1
     have cc1 := blk_cell b5 1
     go_wp2_with fail
     go_ret
     have hS6 := blk_put b5 1 (.map (some m2)) rfl
     have hM6 := World.ownsMap.setCell hm5 (a := ⟨s, 1, none⟩) (MapAt.ne hm5 b5) (.map (some m2))
     have hk6 : Tur w (w5.setCell ⟨s, 1, none⟩ (.map (some m2))) (fun k => k = s ∨ k = t ∨ v.ownBlock = some k) := hk05.setCell (.inl (.inl rfl)) _
     have hT6 : TpAt (w5.setCell ⟨s, 1, none⟩ (.map (some m2))) base t v5 R.1 := TapeAt.kept hT5 ((Tur.refl w5 (fun k => k = s)).setCell (.inl rfl) _) (fun h => hst h.symm) (fun k hk e => TpAt.ne_cells hT5 b5 (by decide) (by rw [← e]; exact hk))
     exact ⟨by rw [h0]; rfl, hk6, m2, n + l.length, v5, ⟨hS6, hM6, hS.ge, by omega⟩, Nat.le_refl _, hT6, hRv⟩
    ·
     rw [if_neg h0] at hD
     subst hD
     have db : (R.2 == 0) = false := beq_false_of_ne h0
     have dd : decide (R.2 = 0) = false := decide_eq_false h0
     go_wp2_with fail
     go_ret
     exact ⟨rfl, hk05, m, n, v5, ⟨b5, hm5', hS.ge, hS.mge⟩, by omega, hT5, hRv⟩
   ·
    have d2 : decide (65536 - (T.b.length : Int) < (ys.length : Int)) = false := decide_eq_false (by omega)
    rw [if_neg h2] at hR
    have hca := append_says base s t m n D v T ys A3 c3 w4 hS4 hT4 hG hC4 hC3.2.1 (by omega) (by have := hb04.size; omega)
    rw [← hR] at hca
    clear hR hfl hl1 h2
    go_wp2_with fail
    refine hca.mono ?_
    rintro e w5 ⟨rfl, hk5, v5, hT5, hv5⟩
    have hne2 := TpAt.ne_cells hT4 hS4.blk (by decide)
    have b5 := blk_kept hS4.blk hk5.kept (by rintro (h | h); exact hst h; exact hne2 h)
    have hm5 := hM4.kept hk5 (by rintro (h | h); exact MapAt.ne hM4 hT4.blk h; exact hM4.ne_row hT4 h)
    have hm5' := hS4.map.kept hk5 (by rintro (h | h); exact MapAt.ne hS4.map hT4.blk h; exact hS4.map.ne_row hT4 h)
    have hRv : Rowd v v5 w.heap.size := fun k hk => (hv5 k hk).elim .inl (fun h => .inr (Nat.le_trans hb04.size h))
    have hk05 : Tur w w5 (fun k => k = s ∨ k = t ∨ v.ownBlock = some k) := (Tur.of_below hb04 _).then_ hk5 (fun k h => .inl (.inr h))
    have hwz := hb1.size
    have hD := (show D2 = _ from HD)
    by_cases h0 : R.2 = 0
    ·
     rw [if_pos h0] at hD
     subst hD
     rw [h0]
     have f1 := blk_frozen b5 1
     have cc1 := blk_cell b5 1
     go_wp2_with fail
     go_ret
     have hS6 := blk_put b5 1 (.map (some m2)) rfl
     have hM6 := World.ownsMap.setCell hm5 (a := ⟨s, 1, none⟩) (MapAt.ne hm5 b5) (.map (some m2))
     have hk6 : Tur w (w5.setCell ⟨s, 1, none⟩ (.map (some m2))) (fun k => k = s ∨ k = t ∨ v.ownBlock = some k) := hk05.setCell (.inl (.inl rfl)) _
     have hT6 : TpAt (w5.setCell ⟨s, 1, none⟩ (.map (some m2))) base t v5 R.1 := TapeAt.kept hT5 ((Tur.refl w5 (fun k => k = s)).setCell (.inl rfl) _) (fun h => hst h.symm) (fun k hk e => TpAt.ne_cells hT5 b5 (by decide) (by rw [← e]; exact hk))
     exact ⟨by rw [h0]; rfl, hk6, m2, n + l.length, v5, ⟨hS6, hM6, hS.ge, by omega⟩, Nat.le_refl _, hT6, hRv⟩
    ·
     rw [if_neg h0] at hD
     subst hD
     have db : (R.2 == 0) = false := beq_false_of_ne h0
     have dd : decide (R.2 = 0) = false := decide_eq_false h0
     go_wp2_with fail
     go_ret
     exact ⟨rfl, hk05, m, n, v5, ⟨b5, hm5', hS.ge, hS.mge⟩, by omega, hT5, hRv⟩
theorem do_says (base s t m n : Nat) (D : DataW Unit) (v : Value) (T : TapeS) (A : Option Addr) (c : Nat) (l : List S69) (w0 w : World) (hGL : GL w0) (hB : Below w0.heap.size w0 w) (hS : StoreAt w base s t m n D) (h : TpAt w base t v T) (hG : T.Good) (hC : Kd.C k69 w A l.length l) (hcl : l.length ≤ c)
  (hn : n + l.length ≤ 3400000000000) (hll : l.length ≤ 90000000) (hl : (recL l).length ≤ 90000000) (hTl : T.b.length ≤ 1000000) (hx : ∀ x ∈ l, x.f0.size ≤ maxLen ∧ x.f1.size ≤ maxLen) (hl2 : (recL (allD (turnD D l))).length ≤ 90000000) (hbase : base ≤ w.heap.size) :
  Calls Tryz.prog 25 #[.pointer (some ⟨s, 0, none⟩), .slice A l.length c] w fun e w' => DoP base s t n v (doT T D l) (doD T D l) l.length w e w' :=
 do_core base s t m n D v T A c l w0 w hGL hB hS h hG hC hcl hn hll hl hTl hx hl2 hbase _ _ rfl rfl
set_option maxHeartbeats 4000000 in
set_option maxRecDepth 100000 in
theorem keys_core (base s t m n : Nat) (D : DataW Unit) (ks : List ByteArray) (hks : keysD D = ks) (key : ByteArray) (w : World) (h : StoreAt w base s t m n D) (hn : n ≤ 3400000000000) :
  Calls Tryz.prog 53 #[.pointer (some ⟨s, 0, none⟩), .string key] w fun e w' => ∃ v, e = .returned v ∧ Kd.R Kd.string 9 w' w.heap.size (fun _ => True) v (ks.filter fun k => preB k key) ∧ Below w.heap.size w w' := by
 have hso := fun w1 => sorted_says m n D w1
 have hlen := keysD_len h.map
 rw [hks] at hso hlen
 clear hks
 have c01 := blk_cell h.blk 1
 go_enter Tryz.func53, Tryz.ntmps53
 go_wp2_with fail
 refine (mkeys_says m w).mono ?_
 rintro e w1 ⟨rfl, rfl⟩
 go_wp2_with fail
 refine (hso w h.map (by omega)).mono ?_
 rintro e w1 ⟨v1, rfl, hr1, hb1⟩
 obtain ⟨A1, c1, e1⟩ := Kd.R_slice hr1
 subst e1
 have hrd := (Kd.R_reads' hr1).2.2
 clear hr1
 have hb01 : Below w.heap.size w w1 := hb1
 go_wp2_with fail
 go_loopw [5, 17] (fun v3 v10 wr => ∃ i : Nat, v10 = .int .i64 i ∧ i ≤ ks.length ∧ Kd.R Kd.string 9 wr w1.heap.size (fun _ => True) v3 ((ks.take i).filter fun k => preB k key) ∧ Below w1.heap.size w1 wr) (fun _ v10 _ => ks.length - (intOf v10).toNat)
 case atStart => exact ⟨0, rfl, Nat.zero_le _, Kd.R_nil _ _ _ _ _, Below.refl _ w1⟩
 case round =>
  obtain ⟨i, rfl, hi, hr, hb⟩ := hrel
  have hC := Kd.C_below hrd hb
  by_cases hlt : i < ks.length
  ·
   have d1 : decide ((i : Int) < (ks.length : Int)) = true := decide_eq_true (by omega)
   obtain ⟨ad, rfl, hx⟩ := Kd.at_string hC (i : Int) (by omega) (by omega)
   have i3 : ((i : Int) < (ks.length : Int)) = True := eq_true (by omega)
   have i0 : (0 ≤ (i : Int)) = True := eq_true (by omega)
   have e1 : IntKind.i64.wrap ((i : Int) + 1) = (i : Int) + 1 := IntWalk.i64_in _ (by omega)
   simp only [Int.toNat_natCast] at hx
   have hxg : rdOf ByteArray.empty ks (i : Int) = ks.getD i ByteArray.empty := by unfold rdOf; rw [Int.toNat_natCast]
   have htk : ks.take (i + 1) = ks.take i ++ [ks.getD i ByteArray.empty] := by
    rw [List.take_add_one]; simp [List.getD_eq_getElem?_getD, List.getElem?_eq_getElem hlt]
   rw [hxg] at hx
   clear hxg
   generalize ks.getD i ByteArray.empty = x at hx htk
   have hfl : ((ks.take (i + 1)).filter fun k => preB k key) = if preB x key = true then ((ks.take i).filter fun k => preB k key) ++ [x] else ((ks.take i).filter fun k => preB k key) := by
    rw [htk, List.filter_append, List.filter_cons, List.filter_nil]
    split
    ·
     rfl
    ·
     rw [List.append_nil]
   have hol : ((ks.take i).filter fun k => preB k key).length ≤ i := Nat.le_trans (List.length_filter_le _ _) (by rw [List.length_take]; omega)
   have LB := Lib.hid (show (((ks.take i).filter fun k => preB k key).length + 1) * 16 ≤ 140737488355328 by omega)
   have Hfl := Lib.hid hfl
   have Hi := Lib.hid (show i + 1 ≤ ks.length by omega)
   clear htk hfl hol
   generalize (ks.take i).filter (fun k => preB k key) = out at hr LB Hfl
   obtain ⟨pb, hpb⟩ : ∃ pb, Lib.hasPrefix x.data.toList key.data.toList = pb := ⟨_, rfl⟩
   have hpre := Go.Proofs.Tryz.strings_HasPrefix x key wr
   rw [hpb] at hpre
   have Hpb := Lib.hid hpb
   clear hpb
   cases pb with
   | true =>
    go_wp2_with fail
    refine hpre.mono ?_
    rintro e w2 ⟨rfl, rfl⟩
    go_wp2_with (first
     | ((with_reducible refine gate_builtin (b := .append) (xs := #[.tmp 24, .tmp 26]) rfl ?_); at_builtin; refine Kd.R_append Kd.string (w0 := w1) w1.heap.size rfl (.tmp 24) (.tmp 26) 88 9 (.string ⟨#[]⟩) 16 rfl Tryz.underlying88 (by kernel_rfl) rfl (by decide) (by decide) u5 out x [.string x] (fun _ => True) (fun _ => False) rfl rfl rfl (fun _ h => h.elim) (fun _ _ => trivial) (Kd.R_mono hr (fun _ _ => trivial)) hb hb.size LB ?_; intro v5 w5 ho5 hb5 hg5 hat5))
    refine ⟨⟨i + 1, rfl, Hi, ?_, hb5⟩, ?_⟩
    ·
     rw [(show (ks.take (i + 1)).filter _ = _ from Hfl), if_pos (show preB x key = true from Hpb)]
     exact ho5
    ·
     have := (show i + 1 ≤ ks.length from Hi); simp only [intOf]; omega
   | false =>
    go_wp2_with fail
    refine hpre.mono ?_
    rintro e w2 ⟨rfl, rfl⟩
    go_wp2_with fail
    refine ⟨⟨i + 1, rfl, Hi, ?_, hb⟩, ?_⟩
    ·
     rw [(show (ks.take (i + 1)).filter _ = _ from Hfl), if_neg (by rw [(show preB x key = false from Hpb)]; decide)]
     exact hr
    ·
     have := (show i + 1 ≤ ks.length from Hi); simp only [intOf]; omega
  ·
   have d1 : decide ((i : Int) < (ks.length : Int)) = false := decide_eq_false (by omega)
   have hil : i = ks.length := by omega
   subst hil
   rw [List.take_length] at hr
   go_wp2_with fail
   go_ret
   exact ⟨_, rfl, Kd.R_lower hr hb01.size, below_then hb01 hb01.size hb⟩
theorem keys_says (base s t m n : Nat) (D : DataW Unit) (key : ByteArray) (w : World) (h : StoreAt w base s t m n D) (hn : n ≤ 3400000000000) :
  Calls Tryz.prog 53 #[.pointer (some ⟨s, 0, none⟩), .string key] w fun e w' => ∃ v, e = .returned v ∧ Kd.R Kd.string 9 w' w.heap.size (fun _ => True) v ((keysD D).filter fun k => preB k key) ∧ Below w.heap.size w w' :=
 keys_core base s t m n D _ rfl key w h hn
end Go.Proofs.YtpoblffgclmmlaaGreatDoor.X
end
