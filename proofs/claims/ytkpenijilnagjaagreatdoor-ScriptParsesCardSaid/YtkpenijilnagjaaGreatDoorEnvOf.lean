/- From what the rows list, and the world's shape, to the walks' Env; the wrap that keeps the shape. -/
import Derived.Test.YtkpenijilnagjaaGreatDoorBase
import Derived.Test.YtkpenijilnagjaaGreatDoorRows
import Derived.ProofKit
import Derived.HandedShaped
import Derived.Lay
import Derived.Lib.LaidU8
import Derived.Lib.LaidTab
import Derived.Shelf.Vars
namespace Go.Proofs.YtkpenijilnagjaaGreatDoor
open Go.ChangeShapes Go.WideShapes Go.ChangeAt Go.RowKit

theorem own : ownKnob Tryz.prog.godebug = none := by kernel_rfl

theorem returns_shaped {H : Type} {enc : TypeId × Value → H} {a : Assume} {C : Checked} {os : Os} {f : FuncId} {fn : Func} {s : ChangeSpec} {conds : List PathCond} {apart fresh handsOn again : Bool} {X : World → Array Value → Prop}
    (hX : ∀ (w w' : World) (args : Array Value), w.heap = w'.heap → X w args → X w' args)
    (own : ownKnob C.prog.godebug = none) (started : os.Started) (noInit : C.prog.inits.idxOf? f = none) (hfn : C.prog.funcs[f]? = some fn)
    (witness : ∃ (w : World) (tape : Tape) (i : Input), w.os = os ∧ (w.forCall tape i).Shaped C.prog ∧ i.vars = [] ∧ Input.okWide C.prog (w.forCall tape i) .any w.heap.size f i ∧
      ((s.pre enc C.prog fn conds apart (w.forCall tape i).memory i.args ∧ X (w.forCall tape i).memory i.args) ∧ sizedMet enc C.prog fn (OpenSpec.ofChange s) apart (w.forCall tape i).memory i.args) ∧ a.holds C.prog (lone (Frame.enter C.prog f i.args .normal) [] (w.forCall tape i)))
    (contract : ∀ (W : World) (base : Nat) (args : Array Value) (ds gs : List (DataW H)) (before : List MemPlace),
      (∀ (j : Nat) t v, fn.params[j]? = some t → args[j]? = some v → Value.okWide C.prog W .any base t v) →
      DataW.Whole enc C.prog fn.params.toList s.vars apart W args.toList ds gs before →
      conds.all (PathCond.test C.prog ⟨fn.params.toList, ds, s.plain.varTypes C.prog, gs⟩) = true →
      (DataW.weightsEach C.prog (fn.params.toList ++ s.plain.varTypes C.prog) (ds ++ gs)).all (· ≤ reachBytes) = true → X W args → W.ShapedOpen C.prog →
      Calls C.prog f args W fun e W' => ∃ v, e = .returned v ∧ s.post enc C.prog fn apart fresh handsOn again W args v W') :
    ReturnsInHanded a C os f .any (fun w args => (s.pre enc C.prog fn conds apart w args ∧ X w args) ∧ sizedMet enc C.prog fn (OpenSpec.ofChange s) apart w args) (s.post enc C.prog fn apart fresh handsOn again) := by
  refine returnsInHanded_of_calls own started noInit witness ?_
  intro w tape i _ hsh _ hok hpre hholds
  obtain ⟨_, _, _, fn', hfn', _, _, _, _, hval⟩ := hok
  have e : fn' = fn := Option.some.inj (hfn'.symm.trans hfn)
  subst e
  obtain ⟨⟨⟨ds, gs, before, hw, hc⟩, hx⟩, hz⟩ := hpre
  have hw' := DataW.Whole.of_heap (w' := w.forCall tape i) (by rfl) hw
  refine (contract (w.forCall tape i) w.heap.size i.args ds gs before hval hw' hc (hz.weights hw) (hX _ _ _ (by rfl) hx) hsh).mono fun e W' ⟨v, he, hp⟩ => ?_
  subst he
  exact ChangeSpec.post_blind hp

theorem env_of_laid {l : List (String × DataW Unit)} {W : World} (hL : laidMet Tryz.prog l W) (hsh : W.ShapedOpen Tryz.prog)
    (mp : ("internal/strconv.uint64pow10", Rows.laid_internal_strconv_uint64pow10) ∈ l) (mr : ("offshoot/api.Root", Rows.laid_offshoot_api_Root) ∈ l) (mt : ("offshoot/api.Trash", Rows.laid_offshoot_api_Trash) ∈ l)
    (ms : ("strconv.ErrSyntax", Rows.laid_strconv_ErrSyntax) ∈ l) (mb : ("math/bits.deBruijn64tab", Rows.laid_math_bits_deBruijn64tab) ∈ l) (me : ("strconv.ErrRange", Rows.laid_strconv_ErrRange) ∈ l) : Env W := by
  have g0 : Tryz.prog.globalNamed "offshoot/api.Root" = some 0 := by kernel_rfl
  have g1 : Tryz.prog.globalNamed "offshoot/api.Trash" = some 1 := by kernel_rfl
  have c9 := fun (g : Nat) (h : g < Tryz.prog.globals.size) => hsh.1 g
  obtain ⟨m, hm⟩ := cell_of_shapedOpen_int (P := Tryz.prog) (g := 3) (t := 3) (zero := #[.int .i64 0]) hsh (of_decide_eq_true (by kernel_rfl)) (by kernel_rfl) rfl (by kernel_rfl) (by kernel_rfl) Tryz.underlying3
  obtain ⟨_, t0, cs0, f0, p0, e0, ht0, hv0, hd0⟩ := Lib.laidMet.reads hL mr
  obtain rfl := Option.some.inj (g0.symm.trans e0)
  obtain ⟨_, t1, cs1, f1, p1, e1, ht1, hv1, hd1⟩ := Lib.laidMet.reads hL mt
  obtain rfl := Option.some.inj (g1.symm.trans e1)
  obtain ⟨_, t5, cs5, f5, p5, e5, ht5, hv5, hd5⟩ := Lib.laidMet.reads hL mp
  obtain rfl := Option.some.inj (named_pow.symm.trans e5)
  obtain ⟨_, t6, cs6, f6, p6, e6, ht6, hv6, hd6⟩ := Lib.laidMet.reads hL ms
  obtain rfl := Option.some.inj (named_errS.symm.trans e6)
  obtain ⟨_, t7, cs7, f7, p7, e7, ht7, hv7, hd7⟩ := Lib.laidMet.reads hL me
  obtain rfl := Option.some.inj (named_errR.symm.trans e7)
  obtain ⟨g9, t9, cs9, f9, p9, e9, ht9, hv9, hd9⟩ := Lib.laidMet.reads hL mb
  obtain rfl := Option.some.inj ((show Tryz.prog.globalNamed "math/bits.deBruijn64tab" = some 10 by kernel_rfl).symm.trans e9)
  obtain rfl := Option.some.inj ((show (Tryz.prog.globals[0]?).map (·.type) = some 34 by kernel_rfl).symm.trans ht0)
  obtain rfl := Option.some.inj ((show (Tryz.prog.globals[1]?).map (·.type) = some 34 by kernel_rfl).symm.trans ht1)
  obtain rfl := Option.some.inj ((show (Tryz.prog.globals[8]?).map (·.type) = some 325 by kernel_rfl).symm.trans ht5)
  obtain rfl := Option.some.inj ((show (Tryz.prog.globals[6]?).map (·.type) = some 93 by kernel_rfl).symm.trans ht6)
  obtain rfl := Option.some.inj ((show (Tryz.prog.globals[7]?).map (·.type) = some 93 by kernel_rfl).symm.trans ht7)
  have fields : ∀ (i : Nat) (f : Field), (Tryz.prog.fieldsOf 34)[i]? = some f → Tryz.prog.underlying f.type = some (.int .i64) ∧ f.offset = i ∧ Tryz.prog.cellsOf f.type = 1 := by
    intro i f hf
    simp only [Program.fieldsOf, Tryz.underlying34] at hf
    match i, hf with
    | 0, hf => simp at hf; subst hf; exact ⟨Tryz.underlying3, rfl, by kernel_rfl⟩
    | 1, hf => simp at hf; subst hf; exact ⟨Tryz.underlying3, rfl, by kernel_rfl⟩
    | n + 2, hf => simp at hf
  have hS : Tryz.prog.underlying 34 = some (.struct (Tryz.prog.fieldsOf 34)) := by kernel_rfl
  have hC : Tryz.prog.cellsOf 34 = (Tryz.prog.fieldsOf 34).size := by kernel_rfl
  have r0 : cs0.toList = [0, 0].map fun z => Value.int .i64 z := Lib.ints_of_struct hS fields hC hd0
  have r1 : cs1.toList = [1, 0].map fun z => Value.int .i64 z := Lib.ints_of_struct hS fields hC hd1
  have r5 : cs5.toList = Lib.pow10Tab.map fun z => Value.int .u64 z := Lib.cells_of_tab Tryz.underlying325 Tryz.underlying293 (by kernel_rfl) (by kernel_rfl) hd5
  obtain ⟨_, u6, v6, h6, _, _⟩ := iface_of_trod Tryz.underlying93 hd6
  obtain ⟨_, u7, v7, h7, _, _⟩ := iface_of_trod Tryz.underlying93 hd7
  have k0 : ∀ i, W.cell? ⟨0, i, none⟩ = cs0[i]? := fun i => World.var?_cell g0 hv0 i
  have k1 : ∀ i, W.cell? ⟨1, i, none⟩ = cs1[i]? := fun i => World.var?_cell g1 hv1 i
  refine ⟨?_, ⟨m, hm⟩, ?_, ?_, ?_, ?_, ?_, ⟨u6, v6, ?_⟩, ⟨u7, v7, ?_⟩⟩
  · unfold World.var? at hv9
    rw [e9] at hv9
    simp only [Option.bind_some] at hv9
    rcases Nat.lt_or_ge 10 W.heap.size with h | h
    · omega
    · rw [Array.getElem?_eq_none h] at hv9; cases hv9
  · unfold Lib.TabIs
    rw [hv5, ← r5]
  · rw [k0, ← Array.getElem?_toList, r0]; rfl
  · rw [k0, ← Array.getElem?_toList, r0]; rfl
  · rw [k1, ← Array.getElem?_toList, r1]; rfl
  · rw [k1, ← Array.getElem?_toList, r1]; rfl
  · rw [hv6, ← h6]
  · rw [hv7, ← h7]

end Go.Proofs.YtkpenijilnagjaaGreatDoor
