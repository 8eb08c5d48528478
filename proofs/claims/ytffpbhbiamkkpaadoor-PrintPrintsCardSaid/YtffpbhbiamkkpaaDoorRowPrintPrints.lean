/- PrintPrints: any tree is printed to just the document's bytes, or refused; any text is escaped to just its bytes; what was handed in stays. For every input; the listed package-level variables start as the program's text lays them (the card ties them). -/
import Derived.Test.YtffpbhbiamkkpaaDoorCards
import Derived.Test.YtffpbhbiamkkpaaDoorTie
import Derived.Test.YtffpbhbiamkkpaaDoorPpW
import Derived.Test.YtffpbhbiamkkpaaDoorReadsN
import Derived.Lib.LaidTab
import Derived.Stop.LaidErr
import Derived.WalkKit
import Derived.ProofKit
import Derived.OpenShut
import Derived.ShutString
import Derived.ChangeOld
import Derived.Below
import Derived.SizedLaws
import Derived.Deep.DeepHandedRow
import Derived.Shelf.Vars
namespace Go.Proofs.YtffpbhbiamkkpaaDoor.RowPrintPrints
open Go.ChangeShapes Go.WideShapes Go.ChangeAt Go.RowKit
open Go.ChangeMaps (open_string shut_string)
open Go.Proofs.YtffpbhbiamkkpaaDoorW.PrintWords Go.Proofs.YtffpbhbiamkkpaaDoor.PR Go.Proofs.YtffpbhbiamkkpaaDoor.ND
set_option linter.unusedVariables false
theorem own : ownKnob Tryd.prog.godebug = none := by kernel_rfl
theorem laidOut : laidOutB Tryd.prog = true := by kernel_rfl
def nums : DataW Unit → List Int
  | .agg l => l.map fun d => match d with | .lit (.int _ n) => n | _ => 0
  | _ => []
theorem rdy (W : World) (h : laidMetH Tryd.prog Rows.printPrintsRow.laid W) : Refs.Tens W := by
  have hL : laidMet Tryd.prog (("math/bits.deBruijn32tab", Rows.laid_math_bits_deBruijn32tab) :: ("math/bits.deBruijn64tab", Lib.tabData .u8 (nums Rows.laid_math_bits_deBruijn64tab)) :: ("internal/strconv.uint64pow10", Lib.tabData .u64 Lib.pow10Tab) :: []) W := h
  exact Lib.tabIs_of_head (g := 0) (t := 156) (e := 128) (n := 20) (by kernel_rfl) (by kernel_rfl) (by kernel_rfl) (by kernel_rfl) (by kernel_rfl) (by kernel_rfl) hL.tail.tail
theorem o_int (N : Nat) : ReadsN.Opens N Tryd.prog 3 (Kd.int .i64) (fun x => (Lit.int .i64 x).wf = true) := ReadsN.opens_int Tryd.underlying3
theorem o_str (N : Nat) : ReadsN.Opens N Tryd.prog 9 Kd.string (fun s => s.size ≤ 140737488351232) := ReadsN.opens_string Tryd.underlying9
theorem o_name (N : Nat) : ReadsN.Opens (N + 1) Tryd.prog 23 kNm (fun _ => True) :=
  (ReadsN.yl4 (g := fun x : Nm => (x.f0, x.f1)) Tryd.underlying23 (by kernel_rfl) (fun y => ⟨y.1, y.2⟩) (fun _ => rfl)
    (ReadsN.yi7 rfl (by kernel_rfl) (o_str N) (ReadsN.yn9 rfl (by kernel_rfl) (o_str N)))).imp (fun _ _ => trivial)
theorem o_attr (N : Nat) : ReadsN.Opens (N + 2) Tryd.prog 63 kAt (fun _ => True) :=
  (ReadsN.yl4 (g := fun x : At => (x.f0, x.f1)) Tryd.underlying63 (by kernel_rfl) (fun y => ⟨y.1, y.2⟩) (fun _ => rfl)
    (ReadsN.yi7 rfl (by kernel_rfl) (o_name N) (ReadsN.yn9 rfl (by kernel_rfl) (o_str (N + 1))))).imp (fun _ _ => trivial)
theorem o_attrs (N : Nat) : ReadsN.Opens (N + 3) Tryd.prog 24 (Kd.slice 63 kAt) (fun _ => True) :=
  (ReadsN.opens_slice Tryd.underlying24 (by kernel_rfl) (o_attr N)).imp (fun _ _ => trivial)
/-- A node reads as a tree, however deep. -/
theorem o_node (N : Nat) : ReadsN.Opens N Tryd.prog 27 kNd (fun _ => True) := by
  induction N with
  | zero => exact ReadsN.Opens.none_
  | succ N ih =>
    have hk : ReadsN.Opens (N + 1) Tryd.prog 25 (Kd.slice 27 kNd) (fun _ => True) :=
      (ReadsN.opens_slice Tryd.underlying25 (by kernel_rfl) ih).imp (fun _ _ => trivial)
    have hs := ReadsN.yl4 (g := fun x : Nd => (x.f0, x.f1, x.f2, x.f3, x.f4)) Tryd.underlying27 (by kernel_rfl) (fun y => ⟨y.1, y.2.1, y.2.2.1, y.2.2.2.1, y.2.2.2.2⟩) (fun _ => rfl)
      (ReadsN.yi7 rfl (by kernel_rfl) (o_int N) (ReadsN.yi7 rfl (by kernel_rfl) ((o_name N).le (by omega)) (ReadsN.yi7 rfl (by kernel_rfl) ((o_attrs N).le (by omega)) (ReadsN.yi7 rfl (by kernel_rfl) (hk.le (by omega)) (ReadsN.yn9 rfl (by kernel_rfl) (o_str N))))))
    refine (hs.imp (Sz' := fun _ => True) (fun _ _ => trivial)).kd (d' := kNd) ?_
    rintro w x cs ⟨_, _, rfl, rfl, ⟨_, _, rfl, s1, ⟨_, _, rfl, ⟨A3, c3, rfl, l3, g3⟩, ⟨_, _, rfl, ⟨A4, c4, rfl, l4, g4⟩, rfl⟩⟩⟩⟩
    obtain rfl := yr2 s1
    exact kNd_mk w x l3 g3 l4 g4
theorem agg_of {v : Value} {a b : Value} {l : List Value} (h : v.cells.toList = a :: b :: l) : v = .agg (a :: b :: l).toArray := by
  cases v <;> simp_all [Value.cells]
  rename_i cs
  rw [← h]
theorem walk (W : World) (hr : Refs.Tens W) (v0 : Value) (n : Nd) (h0 : kNd.K W n v0.cells.toList) (a1 : ByteArray) (a2 : Bool) (h1 : a1.size ≤ 140737488351232) :
    Calls Tryd.prog 3 #[v0, .string a1, .bool a2] W fun e w' => e = .returned (.bool true) ∧ Below W.heap.size W w' := by
  obtain ⟨A3, c3, A4, c4, hc, l3, g3, l4, g4⟩ := kNd_open h0
  rw [agg_of hc]
  exact PP.prints_walk n a1 a2 W hr A3 A4 c3 c4 g3 l3 g4 l4 h1

set_option maxRecDepth 100000 in
theorem contract (H : Type) (enc : TypeId × Value → H) (W : World) (base : Nat) (args : Array Value) (ds gs : List (DataW H)) (before : List MemPlace)
    (hval : ∀ (j : Nat) t v, Tryd.f3.params[j]? = some t → args[j]? = some v → Value.okWide Tryd.prog W .any base t v)
    (hW : DataW.Whole enc Tryd.prog Tryd.f3.params.toList Rows.printPrintsSpec.vars false W args.toList ds gs before)
    (hsz0 : (DataW.weightsEach Tryd.prog (Tryd.f3.params.toList ++ (OpenSpec.ofChange Rows.printPrintsSpec).bare.plain.varTypes Tryd.prog) (ds ++ gs)).all (· ≤ reachBytes) = true) (hml : Refs.Tens W) :
    Calls Tryd.prog 3 args W fun e W' => ∃ v, e = .returned v ∧ Rows.printPrintsSpec.post enc Tryd.prog Tryd.f3 false true false false W args v W' := by
  have hW' := hW
  obtain ⟨p, q, hA0, hV, rfl, hfz, hnd⟩ := hW
  have hA : DataW.TrodAll enc Tryd.prog W 0 (fun _ => true) true Tryd.f3.params.toList args.toList ds p := hA0
  rw [Tryd.params3] at hA hsz0 hval
  obtain ⟨v0, vs0, d0, ds0, p0, q0, hargs, rfl, rfl, h0, r0⟩ := trodAll_cons hA
  obtain ⟨v1, vs1, d1, ds1, p1, q1, rfl, rfl, rfl, h1, r1⟩ := trodAll_cons r0
  obtain ⟨v2, vs2, d2, ds2, p2, q2, rfl, rfl, rfl, h2, r2⟩ := trodAll_cons r1
  obtain ⟨rfl, rfl, rfl⟩ := trodAll_nil r2
  obtain rfl : args = #[v0, v1, v2] := by cases args; simp_all
  obtain ⟨rfl, rfl⟩ := trodVars_none hV
  have k0 := h0
  have lt0 : ∀ x ∈ p0, x.block < W.heap.size := by obtain ⟨m, hm⟩ := k0; exact DataW.trod_lt m _ _ _ hm
  have k1 := h1
  have lt1 : ∀ x ∈ p1, x.block < W.heap.size := by obtain ⟨m, hm⟩ := k1; exact DataW.trod_lt m _ _ _ hm
  have k2 := h2
  have lt2 : ∀ x ∈ p2, x.block < W.heap.size := by obtain ⟨m, hm⟩ := k2; exact DataW.trod_lt m _ _ _ hm
  have hsz : ∀ n ∈ d0.weights Tryd.prog 27, n ≤ reachBytes := by
    intro n hn
    have := List.all_eq_true.1 hsz0 n (by simp only [List.cons_append, List.nil_append, DataW.weightsEach, List.mem_append]; exact .inl hn)
    simpa using this
  obtain ⟨m0, e0⟩ := h0
  obtain ⟨n, hn, -⟩ := (o_node m0).get enc W _ m0 (Nat.le_refl _) _ d0 p0 e0 hsz
  obtain ⟨a1, rfl, rfl, rfl, y1⟩ := open_string Tryd.underlying9 (hval 1 9 v1 rfl rfl) h1
  have s1 : a1.size ≤ 140737488351232 := by
    have z := sized_string hsz0 (j := 1) (t := 9) rfl rfl
    rw [Array.length_toList] at z
    exact z
  obtain ⟨a2, rfl, rfl, rfl⟩ := open_bool Tryd.underlying4 (hval 2 4 v2 rfl rfl) h2
  refine (walk W hml v0 n hn a1 a2 s1).mono fun e W' ⟨he, bel⟩ => ?_
  subst he
  exact ⟨_, rfl, _, _, _, [], _, [], hW', trodAll_mk1 (shut_bool Tryd.underlying4 _), (trodAll_cons_mk (Below.trod laidOut (by kernel_rfl) (of_decide_eq_true (by kernel_rfl)) k0 bel lt0) (trodAll_cons_mk (Below.trod laidOut (by kernel_rfl) (of_decide_eq_true (by kernel_rfl)) k1 bel lt1) (trodAll_cons_mk (Below.trod laidOut (by kernel_rfl) (of_decide_eq_true (by kernel_rfl)) k2 bel lt2) trodAll_mk0))), rfl, bel.frame _, fun h => by cases h⟩

/-- A world for the witness: the listed variables hold what their initialisers lay. -/
def flat1 : DataW Unit → List Value
  | .lit (.int k n) => [.int k n]
  | _ => []
def flat2 : DataW Unit → List Value
  | .agg l => l.flatMap flat1
  | d => flat1 d
def flat3 : DataW Unit → List Value
  | .agg l => l.flatMap flat2
  | d => flat1 d
def put (l : List Value) : Obj → Obj
  | .cells _ t frozen => .cells l.toArray t frozen
  | o => o
noncomputable def yq4 (os : Os) : World :=
  { World.holding Tryd.prog os ⟨#[], #[], []⟩ with heap := (((World.holding Tryd.prog os ⟨#[], #[], []⟩).heap.modify 2 (put (flat3 Rows.laid_math_bits_deBruijn32tab))).modify 3 (put (flat3 Rows.laid_math_bits_deBruijn64tab))).modify 0 (put (flat3 Rows.laid_internal_strconv_uint64pow10)) }
def wargs : Array Value := #[.agg #[.int .i64 0, .string ByteArray.empty, .string ByteArray.empty, .slice none 0 0, .slice none 0 0, .string ByteArray.empty], .string ByteArray.empty, .bool false]
theorem laid_met (os : Os) : laidMet Tryd.prog Rows.printPrintsRow.laid ((yq4 os).forCall (fun _ _ => 0) ⟨#[], wargs, []⟩).memory :=
  laidMet_of_run' 8 (by kernel_rfl) (by kernel_rfl)
theorem reads (os : Os) {H : Type} (enc : TypeId × Value → H) : ∃ places, DataW.whole enc Tryd.prog ((yq4 os).forCall (fun _ _ => 0) ⟨#[], wargs, []⟩).memory Tryd.f3.params.toList Rows.printPrintsSpec.vars false wargs.toList 8 = some ([.agg [.lit (.int .i64 0), .agg [.lit (.string []), .lit (.string [])], .nil, .nil, .lit (.string [])], .lit (.string []), .lit (.bool false)], [], places) :=
  ⟨[], by kernel_rfl⟩

set_option maxRecDepth 100000 in
theorem lifted (os : Os) (started : os.Started) (H : Type) (enc : TypeId × Value → H) (F : Stop.Interp) :
    ReturnsInHanded {} Tryd.checked os 3 .any ((OpenSpec.ofChange Rows.printPrintsSpec).preRow enc Tryd.prog Tryd.f3 Rows.printPrintsRow.domain false Rows.printPrintsRow.laid) (((OpenSpec.ofChange Rows.printPrintsSpec).at F).post enc Tryd.prog Tryd.f3 false true false false) := by
  obtain ⟨places, hx⟩ := reads os enc
  refine returnsInHanded_of_row (C := Tryd.checked) (s := OpenSpec.ofChange Rows.printPrintsSpec) own started (by kernel_rfl) Tryd.func3
    (witness_row_at (enc := enc) (C := Tryd.checked) false (yq4 os) wargs rfl (by kernel_rfl) (by kernel_rfl) (by kernel_rfl)
      (OpenSpec.preRow_of_cond 8 hx (by kernel_rfl) (fun k hk => by cases hk) (by kernel_rfl) (laid_met os))) ?_
  intro W base args ds gs before hval hW _ _ hsz hL _ _
  exact contract H enc W base args ds gs before hval hW hsz (rdy W hL)

theorem said : Rows.PrintPrintsSaid :=
  OpenClaim.holds_of_cond 3 Tryd.f3 rfl rfl rfl rfl rfl rfl rfl ⟨rfl, rfl, rfl, rfl, rfl⟩ rfl rfl rfl rfl rfl (by kernel_rfl) Tryd.func3 (by kernel_rfl)
    (of_decide_eq_true (by kernel_rfl)) (by unfold Func.isWrapper; first | (rw [if_pos (by decide +kernel)]; kernel_rfl) | (rw [if_neg (by decide +kernel)]; exact ⟨rfl, rfl⟩))
    (fun os started H enc _ F => by rw [OpenClaim.pre_eq_preRow]; exact lifted os started H enc F)

theorem plain (f : FuncId) (fn : Func) (hf : Tryd.pinned.checked.prog.funcNamed "watchbill/watchbilllaw05.PrintPrints" = some f) (hfn : Tryd.pinned.checked.prog.funcs[f]? = some fn) :
    true = Tryd.pinned.checked.prog.looks [] ∧ ∀ (j : Nat) t, fn.params[j]? = some t → Tryd.pinned.checked.prog.wantsStandIn t = false := by
  obtain rfl : f = 3 := Option.some.inj ((show Tryd.prog.funcNamed "watchbill/watchbilllaw05.PrintPrints" = some 3 by kernel_rfl).symm.trans hf) |>.symm
  obtain rfl : fn = Tryd.f3 := (Option.some.inj (Tryd.func3.symm.trans hfn)).symm
  refine ⟨by kernel_rfl, fun j t ht => ?_⟩
  rw [Tryd.params3] at ht
  have hm : t = 27 ∨ t = 9 ∨ t = 4 := by have := Array.mem_of_getElem? ht; simp at this; omega
  rcases hm with rfl | rfl | rfl
  · exact (show Tryd.prog.wantsStandIn 27 = false by kernel_rfl)
  · exact (show Tryd.prog.wantsStandIn 9 = false by kernel_rfl)
  · exact (show Tryd.prog.wantsStandIn 4 = false by kernel_rfl)

theorem card : Rows.PrintPrintsCardSaid :=
  Claim7.holds_tied_plain_at .later [] _ _ _ _ said (fun _ h => by cases h) (by kernel_rfl) (fun _ h => by cases h) printPrints_row_tie rfl ⟨rfl, rfl⟩ (by kernel_rfl) rfl plain (by kernel_rfl)
#print axioms card
end Go.Proofs.YtffpbhbiamkkpaaDoor.RowPrintPrints
namespace Go.Proofs.YtffpbhbiamkkpaaDoor
/-- The card, under a short name, for the claim. -/
theorem printPrints_holds : Rows.PrintPrintsCardSaid := RowPrintPrints.card
end Go.Proofs.YtffpbhbiamkkpaaDoor
