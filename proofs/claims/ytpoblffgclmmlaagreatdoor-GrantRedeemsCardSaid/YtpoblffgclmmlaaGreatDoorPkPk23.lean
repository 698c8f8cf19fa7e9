/- A part of the proof of a card: what some functions of the program come to, each under the conditions that its theorem names. -/
import Derived.HandedShaped
import Derived.Shelf.Vars
import Derived.Test.YtpoblffgclmmlaaGreatDoorPkPk22
section
set_option linter.unusedVariables false
set_option linter.unusedSimpArgs false
namespace Go.Proofs.YtpoblffgclmmlaaGreatDoor.X
open Go.RowKit Go.ChangeShapes Go.WideShapes Go.ChangeAt Go.Proofs.YtpoblffgclmmlaaGreatDoorW.PrintWords

theorem iface_laid {W : World} {laid : List (String × DataW Unit)} (h : laidMet Tryz.prog laid W) {n name : String} {g T : Nat} {d : DataW Unit} {m : _} (hn : Tryz.prog.globalNamed n = some g) (hT : (Tryz.prog.globals[g]?).map (·.type) = some T)
  (hu : Tryz.prog.underlying T = some (.interface m)) (hm : (n, DataW.iface name d) ∈ laid) : ∃ t p, W.cell? ⟨g, 0, none⟩ = some (.iface t p) := by
 obtain ⟨ps, hl, _, hz⟩ := h
 obtain ⟨g', t', cs, fuel, p, h1, h2, h3, h4, h5⟩ := laid_mem hl _ _ hm
 obtain rfl := Option.some.inj (hn.symm.trans h1)
 obtain rfl := Option.some.inj (hT.symm.trans h2)
 obtain ⟨T0, z0, a0⟩ := var_at hn h3
 obtain ⟨l⟩ := cs
 simp only at h4
 cases fuel with
 | zero => simp [DataW.trod] at h4
 | succ fuel =>
  unfold DataW.trod at h4
  rw [hu] at h4
  rcases l with _ | ⟨x, _ | ⟨y, r⟩⟩
  ·
   simp at h4
  ·
   cases x <;> simp at h4
   rename_i t0 v0
   exact ⟨t0, v0, (cell_of_row W g 0 _ T0 z0 a0).trans rfl⟩
  ·
   simp at h4
def laid7 : List (String × DataW Unit) := [("math/bits.deBruijn32tab", Rows.laid_math_bits_deBruijn32tab), ("math/bits.deBruijn64tab", Rows.laid_math_bits_deBruijn64tab), ("internal/strconv.uint64pow10", Rows.laid_internal_strconv_uint64pow10), ("strconv.ErrRange", Rows.laid_strconv_ErrRange), ("strconv.ErrSyntax", Rows.laid_strconv_ErrSyntax), ("exequatur/hash.rounds", Rows.laid_exequatur_hash_rounds), ("exequatur/hash.begin", Rows.laid_exequatur_hash_begin)]
theorem gSyn : Tryz.prog.globalNamed "strconv.ErrSyntax" = some 3 := by kernel_rfl
theorem gRan : Tryz.prog.globalNamed "strconv.ErrRange" = some 4 := by kernel_rfl
theorem tSyn : (Tryz.prog.globals[3]?).map (·.type) = some 187 := by kernel_rfl
theorem tRan : (Tryz.prog.globals[4]?).map (·.type) = some 187 := by kernel_rfl
theorem maxLen_cell {W : World} (h : W.ShapedOpen Tryz.prog) : ∃ m, W.cell? ⟨5, 0, none⟩ = some (.int .i64 m) :=
 cell_of_shapedOpen_int (t := 3) (zero := #[.int .i64 0]) h (by decide +kernel) (by kernel_rfl) rfl (by kernel_rfl) (by kernel_rfl) Tryz.underlying3
theorem of_laid7 {W : World} (h : laidMetH Tryz.prog laid7 W) (hS : W.ShapedOpen Tryz.prog) : GL W ∧ GP W ∧ GE W := by
 rw [MakeChecks.laidMetH_plain _ _ _ (by kernel_rfl)] at h
 exact ⟨gl_of h (.tail _ (.tail _ (.tail _ (.tail _ (.tail _ (.head _)))))) (.tail _ (.tail _ (.tail _ (.tail _ (.tail _ (.tail _ (.head _))))))), gp_of h (.tail _ (.tail _ (.head _))),
  iface_laid h gSyn tSyn Tryz.underlying187 (.tail _ (.tail _ (.tail _ (.tail _ (.head _))))), iface_laid h gRan tRan Tryz.underlying187 (.tail _ (.tail _ (.tail _ (.head _)))), maxLen_cell hS⟩
theorem door_met7 (os : Os) (args : Array Value) : laidMetH Tryz.prog laid7 ((World.doorLaid Tryz.prog 400 os).forCall (fun _ _ => 0) ⟨#[], args, []⟩).memory :=
 laidMetH_of_parts3 (fuel := 8) (laidMet_of_run' 8 (by kernel_rfl) (by kernel_rfl)) (by kernel_rfl) (by kernel_rfl)
section
variable {H : Type} {enc : TypeId × Value → H}
/-- The wrap of a row with listed variables, the reach, and the world's shape, all handed on. -/
theorem returnsInHanded_of_change_both {a : Assume} {C : Checked} {os : Os} {f : FuncId} {fn : Func} {s : ChangeSpec} {conds : List PathCond} {apart fresh handsOn again : Bool} {X : World → Array Value → Prop}
  (hX : ∀ (w w' : World) (args : Array Value), w.heap = w'.heap → X w args → X w' args)
  (own : ownKnob C.prog.godebug = none) (started : os.Started) (noInit : C.prog.inits.idxOf? f = none) (hfn : C.prog.funcs[f]? = some fn)
  (witness : ∃ (w : World) (tape : Tape) (i : Input), w.os = os ∧ (w.forCall tape i).Shaped C.prog ∧ i.vars = [] ∧ Input.okWide C.prog (w.forCall tape i) .any w.heap.size f i ∧
   ((s.pre enc C.prog fn conds apart (w.forCall tape i).memory i.args ∧ X (w.forCall tape i).memory i.args) ∧ sizedMet enc C.prog fn (OpenSpec.ofChange s) apart (w.forCall tape i).memory i.args) ∧ a.holds C.prog (lone (Frame.enter C.prog f i.args .normal) [] (w.forCall tape i)))
  (contract : ∀ (W : World) (base : Nat) (args : Array Value) (ds gs : List (DataW H)) (before : List MemPlace),
   (∀ (j : Nat) t v, fn.params[j]? = some t → args[j]? = some v → Value.okWide C.prog W .any base t v) →
   DataW.Whole enc C.prog fn.params.toList s.vars apart W args.toList ds gs before →
   conds.all (PathCond.test C.prog ⟨fn.params.toList, ds, s.plain.varTypes C.prog, gs⟩) = true →
   (DataW.weightsEach C.prog (fn.params.toList ++ s.plain.varTypes C.prog) (ds ++ gs)).all (· ≤ reachBytes) = true → X W args → W.ShapedOpen C.prog →
   a.holds C.prog (lone (Frame.enter C.prog f args .normal) [] W) →
   Calls C.prog f args W fun e W' => ∃ v, e = .returned v ∧ s.post enc C.prog fn apart fresh handsOn again W args v W') :
  ReturnsInHanded a C os f .any (fun w args => (s.pre enc C.prog fn conds apart w args ∧ X w args) ∧ sizedMet enc C.prog fn (OpenSpec.ofChange s) apart w args) (s.post enc C.prog fn apart fresh handsOn again) := by
 refine returnsInHanded_of_calls own started noInit witness ?_
 intro w tape i _ hsh _ hok hpre hholds
 obtain ⟨_, _, _, fn', hfn', _, _, _, _, hval⟩ := hok
 have e : fn' = fn := Option.some.inj (hfn'.symm.trans hfn)
 subst e
 obtain ⟨⟨⟨ds, gs, before, hw, hc⟩, hx⟩, hz⟩ := hpre
 have hw' := DataW.Whole.of_heap (w' := w.forCall tape i) (by rfl) hw
 refine (contract (w.forCall tape i) w.heap.size i.args ds gs before hval hw' hc (hz.weights hw) (hX _ _ _ (by rfl) hx) hsh hholds).mono fun e W' ⟨v, he, hp⟩ => ?_
 subst he
 exact ChangeSpec.post_blind hp
end
end Go.Proofs.YtpoblffgclmmlaaGreatDoor.X
end
