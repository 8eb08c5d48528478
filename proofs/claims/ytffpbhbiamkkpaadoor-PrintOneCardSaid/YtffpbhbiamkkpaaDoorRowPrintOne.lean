/- PrintOne: trees that are the same are printed alike, and others not. For every two nodes; the listed package-level variables start as the program's text lays them (the card ties them). -/
import Derived.Test.YtffpbhbiamkkpaaDoorCards
import Derived.Test.YtffpbhbiamkkpaaDoorTie
import Derived.Test.YtffpbhbiamkkpaaDoorOneW
import Derived.Test.YtffpbhbiamkkpaaDoorReadsN
import Derived.Lib.LaidTab
import Derived.Stop.LaidErr
import Derived.WalkKit
import Derived.ProofKit
import Derived.OpenShut
import Derived.ShutString
import Derived.ChangeOld
import Derived.Below
import Derived.SizedLaws
import Derived.Deep.DeepHandedRow
import Derived.Shelf.Vars
namespace Go.Proofs.YtffpbhbiamkkpaaDoor.RowPrintOne
open Go.ChangeShapes Go.WideShapes Go.ChangeAt Go.RowKit
open Go.ChangeMaps (open_string shut_string)
open Go.Proofs.YtffpbhbiamkkpaaDoorW.PrintWords Go.Proofs.YtffpbhbiamkkpaaDoor.PR Go.Proofs.YtffpbhbiamkkpaaDoor.ND
set_option linter.unusedVariables false
theorem own : ownKnob Tryd.prog.godebug = none := by kernel_rfl
theorem laidOut : laidOutB Tryd.prog = true := by kernel_rfl
def nums : DataW Unit → List Int
  | .agg l => l.map fun d => match d with | .lit (.int _ n) => n | _ => 0
  | _ => []
theorem rdy (W : World) (h : laidMetH Tryd.prog Rows.printOneRow.laid W) : Refs.Tens W := by
  have hL : laidMet Tryd.prog (("math/bits.deBruijn32tab", Rows.laid_math_bits_deBruijn32tab) :: ("math/bits.deBruijn64tab", Lib.tabData .u8 (nums Rows.laid_math_bits_deBruijn64tab)) :: ("internal/strconv.uint64pow10", Lib.tabData .u64 Lib.pow10Tab) :: []) W := h
  exact Lib.tabIs_of_head (g := 0) (t := 156) (e := 128) (n := 20) (by kernel_rfl) (by kernel_rfl) (by kernel_rfl) (by kernel_rfl) (by kernel_rfl) (by kernel_rfl) hL.tail.tail
theorem o_int (N : Nat) : ReadsN.Opens N Tryd.prog 3 (Kd.int .i64) (fun x => (Lit.int .i64 x).wf = true) := ReadsN.opens_int Tryd.underlying3
theorem o_str (N : Nat) : ReadsN.Opens N Tryd.prog 9 Kd.string (fun s => s.size ≤ 140737488351232) := ReadsN.opens_string Tryd.underlying9
theorem o_name (N : Nat) : ReadsN.Opens (N + 1) Tryd.prog 23 kNm (fun _ => True) :=
  (ReadsN.opens_struct (g := fun x : Nm => (x.f0, x.f1)) Tryd.underlying23 (by kernel_rfl) (fun y => ⟨y.1, y.2⟩) (fun _ => rfl)
    (ReadsN.opensL_cons rfl (by kernel_rfl) (o_str N) (ReadsN.opensL_one rfl (by kernel_rfl) (o_str N)))).imp (fun _ _ => trivial)
theorem o_attr (N : Nat) : ReadsN.Opens (N + 2) Tryd.prog 63 kAt (fun _ => True) :=
  (ReadsN.opens_struct (g := fun x : At => (x.f0, x.f1)) Tryd.underlying63 (by kernel_rfl) (fun y => ⟨y.1, y.2⟩) (fun _ => rfl)
    (ReadsN.opensL_cons rfl (by kernel_rfl) (o_name N) (ReadsN.opensL_one rfl (by kernel_rfl) (o_str (N + 1))))).imp (fun _ _ => trivial)
theorem o_attrs (N : Nat) : ReadsN.Opens (N + 3) Tryd.prog 24 (Kd.slice 63 kAt) (fun _ => True) :=
  (ReadsN.opens_slice Tryd.underlying24 (by kernel_rfl) (o_attr N)).imp (fun _ _ => trivial)
/-- A node reads as a tree, however deep. -/
theorem o_node (N : Nat) : ReadsN.Opens N Tryd.prog 27 kNd (fun _ => True) := by
  induction N with
  | zero => exact ReadsN.Opens.none_
  | succ N ih =>
    have hk : ReadsN.Opens (N + 1) Tryd.prog 25 (Kd.slice 27 kNd) (fun _ => True) :=
      (ReadsN.opens_slice Tryd.underlying25 (by kernel_rfl) ih).imp (fun _ _ => trivial)
    have hs := ReadsN.opens_struct (g := fun x : Nd => (x.f0, x.f1, x.f2, x.f3, x.f4)) Tryd.underlying27 (by kernel_rfl) (fun y => ⟨y.1, y.2.1, y.2.2.1, y.2.2.2.1, y.2.2.2.2⟩) (fun _ => rfl)
      (ReadsN.opensL_cons rfl (by kernel_rfl) (o_int N) (ReadsN.opensL_cons rfl (by kernel_rfl) ((o_name N).le (by omega)) (ReadsN.opensL_cons rfl (by kernel_rfl) ((o_attrs N).le (by omega)) (ReadsN.opensL_cons rfl (by kernel_rfl) (hk.le (by omega)) (ReadsN.opensL_one rfl (by kernel_rfl) (o_str N))))))
    refine (hs.imp (Sz' := fun _ => True) (fun _ _ => trivial)).kd (d' := kNd) ?_
    rintro w x cs ⟨_, _, rfl, rfl, ⟨_, _, rfl, s1, ⟨_, _, rfl, ⟨A3, c3, rfl, l3, g3⟩, ⟨_, _, rfl, ⟨A4, c4, rfl, l4, g4⟩, rfl⟩⟩⟩⟩
    obtain rfl := kNm_open s1
    exact kNd_mk w x l3 g3 l4 g4
theorem agg_of {v : Value} {a b : Value} {l : List Value} (h : v.cells.toList = a :: b :: l) : v = .agg (a :: b :: l).toArray := by
  cases v <;> simp_all [Value.cells]
  rename_i cs
  rw [← h]
theorem walk (W : World) (hr : Refs.Tens W) (v0 v1 : Value) (n m : Nd) (h0 : kNd.K W n v0.cells.toList) (h1 : kNd.K W m v1.cells.toList) :
    Calls Tryd.prog 4 #[v0, v1] W fun e w' => e = .returned (.bool true) ∧ Below W.heap.size W w' := by
  obtain ⟨A3, c3, A4, c4, hc, l3, g3, l4, g4⟩ := kNd_open h0
  obtain ⟨B3, d3, B4, d4, hd, m3, k3, m4, k4⟩ := kNd_open h1
  rw [agg_of hc, agg_of hd]
  exact PI.one_walk n m W hr A3 A4 B3 B4 c3 c4 d3 d4 g3 l3 g4 l4 k3 m3 k4 m4

set_option maxRecDepth 100000 in
theorem contract (H : Type) (enc : TypeId × Value → H) (W : World) (base : Nat) (args : Array Value) (ds gs : List (DataW H)) (before : List MemPlace)
    (hval : ∀ (j : Nat) t v, Tryd.f4.params[j]? = some t → args[j]? = some v → Value.okWide Tryd.prog W .any base t v)
    (hW : DataW.Whole enc Tryd.prog Tryd.f4.params.toList Rows.printOneSpec.vars false W args.toList ds gs before)
    (hsz0 : (DataW.weightsEach Tryd.prog (Tryd.f4.params.toList ++ (OpenSpec.ofChange Rows.printOneSpec).bare.plain.varTypes Tryd.prog) (ds ++ gs)).all (· ≤ reachBytes) = true) (hml : Refs.Tens W) :
    Calls Tryd.prog 4 args W fun e W' => ∃ v, e = .returned v ∧ Rows.printOneSpec.post enc Tryd.prog Tryd.f4 false true false false W args v W' := by
  have hW' := hW
  obtain ⟨p, q, hA0, hV, rfl, hfz, hnd⟩ := hW
  have hA : DataW.TrodAll enc Tryd.prog W 0 (fun _ => true) true Tryd.f4.params.toList args.toList ds p := hA0
  rw [Tryd.params4] at hA hsz0 hval
  obtain ⟨v0, vs0, d0, ds0, p0, q0, hargs, rfl, rfl, h0, r0⟩ := trodAll_cons hA
  obtain ⟨v1, vs1, d1, ds1, p1, q1, rfl, rfl, rfl, h1, r1⟩ := trodAll_cons r0
  obtain ⟨rfl, rfl, rfl⟩ := trodAll_nil r1
  obtain rfl : args = #[v0, v1] := by cases args; simp_all
  obtain ⟨rfl, rfl⟩ := trodVars_none hV
  have k0 := h0
  have lt0 : ∀ x ∈ p0, x.block < W.heap.size := by obtain ⟨m, hm⟩ := k0; exact DataW.trod_lt m _ _ _ hm
  have k1 := h1
  have lt1 : ∀ x ∈ p1, x.block < W.heap.size := by obtain ⟨m, hm⟩ := k1; exact DataW.trod_lt m _ _ _ hm
  have hsz : ∀ n ∈ d0.weights Tryd.prog 27 ++ d1.weights Tryd.prog 27, n ≤ reachBytes := by
    intro n hn
    have := List.all_eq_true.1 hsz0 n (by simpa [DataW.weightsEach] using hn)
    simpa using this
  obtain ⟨m0, e0⟩ := h0
  obtain ⟨m1, e1⟩ := h1
  obtain ⟨n, hn, -⟩ := (o_node m0).get enc W _ m0 (Nat.le_refl _) _ d0 p0 e0 (fun n hn => hsz n (List.mem_append_left _ hn))
  obtain ⟨m, hm, -⟩ := (o_node m1).get enc W _ m1 (Nat.le_refl _) _ d1 p1 e1 (fun n hn => hsz n (List.mem_append_right _ hn))
  refine (walk W hml v0 v1 n m hn hm).mono fun e W' ⟨he, bel⟩ => ?_
  subst he
  exact ⟨_, rfl, _, _, _, [], _, [], hW', trodAll_mk1 (shut_bool Tryd.underlying4 _), (trodAll_cons_mk (Below.trod laidOut (by kernel_rfl) (of_decide_eq_true (by kernel_rfl)) k0 bel lt0) (trodAll_cons_mk (Below.trod laidOut (by kernel_rfl) (of_decide_eq_true (by kernel_rfl)) k1 bel lt1) trodAll_mk0)), rfl, bel.frame _, fun h => by cases h⟩

/-- A world for the witness: the listed variables hold what their initialisers lay. -/
def flat1 : DataW Unit → List Value
  | .lit (.int k n) => [.int k n]
  | _ => []
def flat2 : DataW Unit → List Value
  | .agg l => l.flatMap flat1
  | d => flat1 d
def flat3 : DataW Unit → List Value
  | .agg l => l.flatMap flat2
  | d => flat1 d
def put (l : List Value) : Obj → Obj
  | .cells _ t frozen => .cells l.toArray t frozen
  | o => o
noncomputable def laidWorld (os : Os) : World :=
  { World.holding Tryd.prog os ⟨#[], #[], []⟩ with heap := (((World.holding Tryd.prog os ⟨#[], #[], []⟩).heap.modify 2 (put (flat3 Rows.laid_math_bits_deBruijn32tab))).modify 3 (put (flat3 Rows.laid_math_bits_deBruijn64tab))).modify 0 (put (flat3 Rows.laid_internal_strconv_uint64pow10)) }
def wargs : Array Value := #[.agg #[.int .i64 0, .string ByteArray.empty, .string ByteArray.empty, .slice none 0 0, .slice none 0 0, .string ByteArray.empty], .agg #[.int .i64 0, .string ByteArray.empty, .string ByteArray.empty, .slice none 0 0, .slice none 0 0, .string ByteArray.empty]]
theorem laid_met (os : Os) : laidMet Tryd.prog Rows.printOneRow.laid ((laidWorld os).forCall (fun _ _ => 0) ⟨#[], wargs, []⟩).memory :=
  laidMet_of_run' 8 (by kernel_rfl) (by kernel_rfl)
theorem reads (os : Os) {H : Type} (enc : TypeId × Value → H) : ∃ places, DataW.whole enc Tryd.prog ((laidWorld os).forCall (fun _ _ => 0) ⟨#[], wargs, []⟩).memory Tryd.f4.params.toList Rows.printOneSpec.vars false wargs.toList 8 = some ([.agg [.lit (.int .i64 0), .agg [.lit (.string []), .lit (.string [])], .nil, .nil, .lit (.string [])], .agg [.lit (.int .i64 0), .agg [.lit (.string []), .lit (.string [])], .nil, .nil, .lit (.string [])]], [], places) :=
  ⟨[], by kernel_rfl⟩

set_option maxRecDepth 100000 in
theorem lifted (os : Os) (started : os.Started) (H : Type) (enc : TypeId × Value → H) (F : Stop.Interp) :
    ReturnsInHanded {} Tryd.checked os 4 .any ((OpenSpec.ofChange Rows.printOneSpec).preRow enc Tryd.prog Tryd.f4 Rows.printOneRow.domain false Rows.printOneRow.laid) (((OpenSpec.ofChange Rows.printOneSpec).at F).post enc Tryd.prog Tryd.f4 false true false false) := by
  obtain ⟨places, hx⟩ := reads os enc
  refine returnsInHanded_of_row (C := Tryd.checked) (s := OpenSpec.ofChange Rows.printOneSpec) own started (by kernel_rfl) Tryd.func4
    (witness_row_at (enc := enc) (C := Tryd.checked) false (laidWorld os) wargs rfl (by kernel_rfl) (by kernel_rfl) (by kernel_rfl)
      (OpenSpec.preRow_of_cond 8 hx (by kernel_rfl) (fun k hk => by cases hk) (by kernel_rfl) (laid_met os))) ?_
  intro W base args ds gs before hval hW _ _ hsz hL _ _
  exact contract H enc W base args ds gs before hval hW hsz (rdy W hL)

theorem said : Rows.PrintOneSaid :=
  OpenClaim.holds_of_cond 4 Tryd.f4 rfl rfl rfl rfl rfl rfl rfl ⟨rfl, rfl, rfl, rfl, rfl⟩ rfl rfl rfl rfl rfl (by kernel_rfl) Tryd.func4 (by kernel_rfl)
    (of_decide_eq_true (by kernel_rfl)) (by unfold Func.isWrapper; first | (rw [if_pos (by decide +kernel)]; kernel_rfl) | (rw [if_neg (by decide +kernel)]; exact ⟨rfl, rfl⟩))
    (fun os started H enc _ F => by rw [OpenClaim.pre_eq_preRow]; exact lifted os started H enc F)

theorem plain (f : FuncId) (fn : Func) (hf : Tryd.pinned.checked.prog.funcNamed "watchbill/watchbilllaw05.PrintOne" = some f) (hfn : Tryd.pinned.checked.prog.funcs[f]? = some fn) :
    true = Tryd.pinned.checked.prog.looks [] ∧ ∀ (j : Nat) t, fn.params[j]? = some t → Tryd.pinned.checked.prog.wantsStandIn t = false := by
  obtain rfl : f = 4 := Option.some.inj ((show Tryd.prog.funcNamed "watchbill/watchbilllaw05.PrintOne" = some 4 by kernel_rfl).symm.trans hf) |>.symm
  obtain rfl : fn = Tryd.f4 := (Option.some.inj (Tryd.func4.symm.trans hfn)).symm
  refine ⟨by kernel_rfl, fun j t ht => ?_⟩
  rw [Tryd.params4] at ht
  have hm : t = 27 := by simpa using Array.mem_of_getElem? ht
  subst hm
  exact (show Tryd.prog.wantsStandIn 27 = false by kernel_rfl)

theorem card : Rows.PrintOneCardSaid :=
  Claim7.holds_tied_plain_at .later [] _ _ _ _ said (fun _ h => by cases h) (by kernel_rfl) (fun _ h => by cases h) printOne_row_tie rfl ⟨rfl, rfl⟩ (by kernel_rfl) rfl plain (by kernel_rfl)
#print axioms card
end Go.Proofs.YtffpbhbiamkkpaaDoor.RowPrintOne
namespace Go.Proofs.YtffpbhbiamkkpaaDoor
/-- The card, under a short name, for the claim. -/
theorem printOne_holds : Rows.PrintOneCardSaid := RowPrintOne.card
end Go.Proofs.YtffpbhbiamkkpaaDoor
