/- store.whole, store.renew. -/
import Derived.Test.YtkmokcfnfhabgaaDoorDo
import Derived.Test.YtkmokcfnfhabgaaDoorIter
set_option linter.unusedVariables false
set_option linter.unusedSimpArgs false
namespace Go.Proofs.YtkmokcfnfhabgaaDoor.X
open Go.RowKit Go.WideMaps Go.Maps Go.Proofs.YtkmokcfnfhabgaaDoorW.PrintWords Go.Proofs.YtkmokcfnfhabgaaDoorW.PrintLast Go.Proofs.YtkmokcfnfhabgaaDoorW.PrintMore Go.Proofs.YtkmokcfnfhabgaaDoor.Q

/-- A map's keys, rising. -/
def keysD (D : DataW Unit) : List ByteArray := ((strKeys D).mergeSort leB).map fun l => (⟨l.toArray⟩ : ByteArray)
theorem encs_keys (ss : List (List UInt8)) : (ss.map encStr) = encs Value.string (ss.map fun l => (⟨l.toArray⟩ : ByteArray)) := by
  induction ss with
  | nil => rfl
  | cons a ss ih =>
    rw [List.map_cons, List.map_cons, ih]; rfl
theorem keysD_len {W : World} {m n : Nat} {D : DataW Unit} (h : MapAt W m n D) : (keysD D).length ≤ n := by
  unfold keysD
  rw [List.length_map, List.length_mergeSort]
  have h1 := World.ownsMap.size_le h
  obtain ⟨es, rfl, _⟩ := World.ownsMap.keysOf h
  show (es.map _).length ≤ n
  rw [List.length_map]; exact h1
theorem keysD_small {W : World} {m n : Nat} {D : DataW Unit} (h : MapAt W m n D) : ∀ x ∈ keysD D, x.size ≤ maxLen := by
  intro x hx
  obtain ⟨l, hl, rfl⟩ := List.mem_map.1 hx
  exact strKeys_le h Tryd.underlying9 l (List.mem_mergeSort.1 hl)
section
variable {ops : Array Oper} {rest : List Oper} {o : Oper} {a : Act} {Q : Exit → Act → World → Prop}
theorem wpList_lookup_str (w : World) (hg : o.guard = none) (m x : Operand) (hop : o.op = Op.lookup 72 m x false)
    (b n : Nat) (D : DataW Unit) (hm : a.eval m = .map (some b)) (hown : MapAt w b n D) (key : ByteArray) (hx : a.eval x = .string key) (hkey : key.size ≤ maxLen)
    (hK : wpList Tryd.prog ops Q rest (a.put o.dst (.string (valS D key))) w) : wpList Tryd.prog ops Q (o :: rest) a w := by
  refine wpList_plain hg fun K' hK' => ?_
  have hz : plainElem (H := Unit) Tryd.prog 9 (.string ⟨#[]⟩) = some (.lit (.string []), []) := plainElem_string Tryd.underlying9 (by decide)
  have hk : keyOf Tryd.prog 9 (.string key) = some (kb key) := keyOf_string_mk Tryd.underlying9 hkey
  obtain ⟨v, ps, hrun, hv⟩ := World.ownsMap.lookup hown keyLaw Tryd.underlying72 (zeroS w) hz hk
  have hv := valS_of hv
  subst hv
  unfold Oper.wp
  simp [execOp, hop, hm, hx, hrun, Result.andThen]
  exact hK' _ _ hK
end
theorem mkeys_says (m : Nat) (w : World) : Calls Tryd.prog 40 #[.map (some m)] w fun e w' => e = .returned (.func (.func 58) #[] #[.pointer (some ⟨w.heap.size, 0, none⟩)]) ∧ w' = w.alloc (.cells #[.map (some m)] 72) :=
  callsIn_wide.1 (Go.Proofs.Tryd.maps_Keys_40 (some m) w)
theorem sorted_says (m n : Nat) (D : DataW Unit) (w : World) (h : MapAt w m n D) (hn : n ≤ 3500000000000) :
    Calls Tryd.prog 39 #[.func (.func 58) #[] #[.pointer (some ⟨w.heap.size, 0, none⟩)]] (w.alloc (.cells #[.map (some m)] 72)) fun e w' => ∃ v, e = .returned v ∧ Kd.R Kd.string 9 w' (w.heap.size + 1) (fun _ => True) v (keysD D) ∧ Below w.heap.size w w' := by
  have hsz : Maps.size D ≤ n := by
    exact World.ownsMap.size_le h
  refine (callsIn_wide.1 (Go.Proofs.Tryd.slices_Sorted_keys_39_40 m n D _ w h (by unfold maxLen; omega) (by omega))).mono ?_
  rintro e w' ⟨v, ss, rfl, hS, hrow, hnil, hb⟩
  refine ⟨v, rfl, ?_, ?_⟩
  · have hk : (ss.mergeSort (fun x y => decide (x ≤ y))).map encStr = encs Value.string (keysD D) := by
      rw [encs_keys]
      unfold keysD
      rw [← mergeSort_of_perm hS]
    have hlen : (keysD D).length = ss.length := by
      unfold keysD
      rw [List.length_map, List.length_mergeSort, hS.length_eq]
    rw [hk, ← hlen] at hrow
    have h0 : (w.alloc (.cells #[.map (some m)] 72)).heap.size = w.heap.size + 1 := by simp
    rw [h0] at hrow
    exact Kd.R_of_own hrow (fun _ _ => trivial)
  · exact below_then (below_alloc (Below.refl _ w) _) (by simp) hb
set_option maxHeartbeats 4000000 in
set_option maxRecDepth 100000 in
theorem whole_core (m n : Nat) (D : DataW Unit) (ks : List ByteArray) (hks : keysD D = ks) (w : World) (h : MapAt w m n D) (hn : n ≤ 3500000000000) :
    Calls Tryd.prog 53 #[.map (some m)] w fun e w' => ∃ v, e = .returned v ∧ Kd.R k49 49 w' w.heap.size (fun _ => True) v (ks.map fun k => (⟨k, valS D k, false⟩ : S49)) ∧ Below w.heap.size w w' := by
  have hso := fun w1 => sorted_says m n D w1
  have hlen := keysD_len h
  have hsm := keysD_small h
  rw [hks] at hso hlen hsm
  clear hks
  go_enter Tryd.func53, Tryd.ntmps53
  go_wp2_with fail
  refine (mkeys_says m w).mono ?_
  rintro e w1 ⟨rfl, rfl⟩
  go_wp2_with fail
  refine (hso w h hn).mono ?_
  rintro e w1 ⟨v1, rfl, hr1, hb1⟩
  obtain ⟨A1, c1, e1⟩ := Kd.R_slice hr1
  subst e1
  have hrd := (Kd.R_reads' hr1).2.2
  clear hr1
  have hb01 : Below w.heap.size w w1 := hb1
  go_wp2_with fail
  go_loopw [3, 10] (fun v3 v10 wr => ∃ i : Nat, v10 = .int .i64 i ∧ i ≤ ks.length ∧ Kd.R k49 49 wr w1.heap.size (fun _ => True) v3 ((ks.take i).map fun k => (⟨k, valS D k, false⟩ : S49)) ∧ Below w1.heap.size w1 wr) (fun _ v10 _ => ks.length - (intOf v10).toNat)
  case atStart => exact ⟨0, rfl, Nat.zero_le _, Kd.R_nil _ _ _ _ _, Below.refl _ w1⟩
  case round =>
    obtain ⟨i, rfl, hi, hr, hb⟩ := hrel
    have hC := Kd.C_below hrd hb
    by_cases hlt : i < ks.length
    · have d1 : decide ((i : Int) < (ks.length : Int)) = true := decide_eq_true (by omega)
      obtain ⟨ad, rfl, hx⟩ := Kd.at_string hC (i : Int) (by omega) (by omega)
      have i3 : ((i : Int) < (ks.length : Int)) = True := eq_true (by omega)
      have i0 : (0 ≤ (i : Int)) = True := eq_true (by omega)
      have e1 : IntKind.i64.wrap ((i : Int) + 1) = (i : Int) + 1 := IntWalk.i64_in _ (by omega)
      simp only [Int.toNat_natCast] at hx
      have hxg : rdOf ByteArray.empty ks (i : Int) = ks.getD i ByteArray.empty := by unfold rdOf; rw [Int.toNat_natCast]
      have hmem : ks.getD i ByteArray.empty ∈ ks := by simp [List.getD_eq_getElem?_getD, List.getElem?_eq_getElem hlt]
      have htk : ks.take (i + 1) = ks.take i ++ [ks.getD i ByteArray.empty] := by
        rw [List.take_add_one]; simp [List.getD_eq_getElem?_getD, List.getElem?_eq_getElem hlt]
      have hxs := hsm _ hmem
      rw [hxg] at hx
      clear hxg hmem
      generalize ks.getD i ByteArray.empty = x at hx htk hxs
      have hm := h.kept (Tur.of_below (below_then hb01 hb01.size hb) (fun _ => False)) (fun h => h)
      have LB := Lib.hid (show (((ks.take i).map fun k => (⟨k, valS D k, false⟩ : S49)).length + 1) * 40 ≤ 140737488355328 by rw [List.length_map, List.length_take]; omega)
      have Htk := Lib.hid htk
      have Hi := Lib.hid (show i + 1 ≤ ks.length by omega)
      clear htk hsm
      obtain ⟨out, hout⟩ : ∃ out, out = (ks.take i).map fun k => (⟨k, valS D k, false⟩ : S49) := ⟨_, rfl⟩
      rw [← hout] at hr LB
      have Hout := Lib.hid hout
      clear hout
      go_wp2_with (first
        | (at_lookup; refine wpList_lookup_str _ rfl _ _ rfl m n D rfl hm x rfl hxs ?_)
        | ((with_reducible refine gate_builtin (b := .append) (xs := #[.tmp 14, .tmp 20]) rfl ?_); at_builtin; refine Kd.R_append k49 (w0 := w1) w1.heap.size rfl (.tmp 14) (.tmp 20) 57 49 (.agg #[.string ⟨#[]⟩, .string ⟨#[]⟩, .bool false]) 40 rfl Tryd.underlying57 (by kernel_rfl) rfl (by decide) (by decide) u3 out ⟨x, valS D x, false⟩ [.string x, .string (valS D x), .bool false] (fun _ => True) (fun _ => False) rfl rfl (k49_mkM _ _ _ ⟨x, valS D x, false⟩) (fun _ h => h.elim) (fun _ _ => trivial) (Kd.R_mono hr (fun _ _ => trivial)) hb hb.size LB ?_; intro v5 w5 ho5 hb5 hg5 hat5))
      refine ⟨⟨i + 1, rfl, Hi, ?_, hb5⟩, ?_⟩
      · rw [(show ks.take (i + 1) = ks.take i ++ [x] from Htk), List.map_append, ← (show out = _ from Hout)]
        exact ho5
      · have := (show i + 1 ≤ ks.length from Hi); simp only [intOf]; omega
    · have d1 : decide ((i : Int) < (ks.length : Int)) = false := decide_eq_false (by omega)
      have hil : i = ks.length := by omega
      subst hil
      rw [List.take_length] at hr
      go_wp2_with fail
      go_ret
      exact ⟨_, rfl, Kd.R_lower hr hb01.size, below_then hb01 hb01.size hb⟩
theorem whole_says (m n : Nat) (D : DataW Unit) (w : World) (h : MapAt w m n D) (hn : n ≤ 3500000000000) :
    Calls Tryd.prog 53 #[.map (some m)] w fun e w' => ∃ v, e = .returned v ∧ Kd.R k49 49 w' w.heap.size (fun _ => True) v ((keysD D).map fun k => (⟨k, valS D k, false⟩ : S49)) ∧ Below w.heap.size w w' :=
  whole_core m n D _ rfl w h hn
end Go.Proofs.YtkmokcfnfhabgaaDoor.X
