/- FilterAgain: granted once more the same is seen; without notes, contacts and classes that aren't granted; granted all, all is. For every grant and every presence that can be read; the listed package-level variables start as the program's text lays them (the card ties them). -/
import Derived.Test.YtpgmjbkmalobeaaDoorCards
import Derived.Test.YtpgmjbkmalobeaaDoorTie
import Derived.Test.YtpgmjbkmalobeaaDoorPureFA
import Derived.Test.YtpgmjbkmalobeaaDoorReads
import Derived.WalkKit
import Derived.ProofKit
import Derived.OpenShut
import Derived.ChangeOld
import Derived.Below
import Derived.SizedLaws
import Derived.Deep.DeepHandedRow
namespace Go.Proofs.YtpgmjbkmalobeaaDoor.RowFA
open Go.ChangeShapes Go.WideShapes Go.ChangeAt Go.RowKit
open Go.Proofs.YtpgmjbkmalobeaaDoorW.PrintWords Go.Proofs.YtpgmjbkmalobeaaDoor.PAll Go.Proofs.YtpgmjbkmalobeaaDoor.Reads Go.Proofs.YtpgmjbkmalobeaaDoor.Plain

theorem own : ownKnob Tryd.prog.godebug = none := by kernel_rfl
theorem laidOut : laidOutB Tryd.prog = true := by kernel_rfl

theorem o_int : Opens Tryd.prog 3 (Kd.int .i64) (fun x => (Lit.int .i64 x).wf = true) := opens_int Tryd.underlying3
theorem o_u64 : Opens Tryd.prog 36 (Kd.int .u64) (fun x => (Lit.int .u64 x).wf = true) := opens_int Tryd.underlying36
theorem o_bool : Opens Tryd.prog 4 Kd.bool (fun _ => True) := opens_bool Tryd.underlying4
theorem o_str : Opens Tryd.prog 9 Kd.string (fun s => s.size ≤ 140737488351232) := opens_string Tryd.underlying9
theorem bytes_str : Tryd.prog.bytesOf 9 = 16 := by kernel_rfl
theorem bytes_tuple : Tryd.prog.bytesOf 38 = 104 := by kernel_rfl
theorem o_strs : Opens Tryd.prog 22 (Kd.slice 9 Kd.string) (fun l => l.length * 16 ≤ 140737488351232) :=
  (opens_slice Tryd.underlying22 (by kernel_rfl) o_str).imp (fun l h => by have := h.2.1; rw [bytes_str] at this; exact this)
theorem o_tuple : Opens Tryd.prog 38 k38 small :=
  (opens_struct (g := fun x : S38 => (x.f0, x.f1, x.f2, x.f3, x.f4, x.f5, x.f6)) Tryd.underlying38 (by kernel_rfl) (fun y => ⟨y.1, y.2.1, y.2.2.1, y.2.2.2.1, y.2.2.2.2.1, y.2.2.2.2.2.1, y.2.2.2.2.2.2⟩) (fun _ => rfl)
    (opensL_cons rfl (by kernel_rfl) o_str (opensL_cons rfl (by kernel_rfl) o_str (opensL_cons rfl (by kernel_rfl) o_str (opensL_cons rfl (by kernel_rfl) o_str (opensL_cons rfl (by kernel_rfl) o_int (opensL_cons rfl (by kernel_rfl) o_strs (opensL_one rfl (by kernel_rfl) o_u64)))))))).imp
    (fun x h => h.2.2.2.2.2.1)
theorem o_tuples : Opens Tryd.prog 25 (Kd.slice 38 k38) (fun l => l.length * 104 ≤ 140737488351232 ∧ ∀ x ∈ l, small x) :=
  (opens_slice Tryd.underlying25 (by kernel_rfl) o_tuple).imp (fun l h => by have := h.2.1; rw [bytes_tuple] at this; exact ⟨this, h.2.2⟩)
def kg : Kd Gr := Kd.iso (Kd.pair (Kd.int .i64) (Kd.pair Kd.bool (Kd.pair (Kd.slice 9 Kd.string) (Kd.pair Kd.bool Kd.bool)))) (fun g => (g.h, g.all, g.cls, g.notes, g.con))
theorem o_grant : Opens Tryd.prog 24 kg (fun g => g.cls.length * 16 ≤ 140737488351232) :=
  (opens_struct (g := fun g : Gr => (g.h, g.all, g.cls, g.notes, g.con)) Tryd.underlying24 (by kernel_rfl) (fun y => ⟨y.1, y.2.1, y.2.2.1, y.2.2.2.1, y.2.2.2.2⟩) (fun _ => rfl)
    (opensL_cons rfl (by kernel_rfl) o_int (opensL_cons rfl (by kernel_rfl) o_bool (opensL_cons rfl (by kernel_rfl) o_strs (opensL_cons rfl (by kernel_rfl) o_bool (opensL_one rfl (by kernel_rfl) o_bool)))))).imp
    (fun x h => h.2.2.1)
structure Pr where
  e : ByteArray
  l : List S38
  m : List ByteArray
def kp : Kd Pr := Kd.iso (Kd.pair Kd.string (Kd.pair (Kd.slice 38 k38) (Kd.slice 9 Kd.string))) (fun p => (p.e, p.l, p.m))
theorem o_pres : Opens Tryd.prog 27 kp (fun p => (p.l.length * 104 ≤ 140737488351232 ∧ ∀ x ∈ p.l, small x) ∧ p.m.length * 16 ≤ 140737488351232) :=
  (opens_struct (g := fun p : Pr => (p.e, p.l, p.m)) Tryd.underlying27 (by kernel_rfl) (fun y => ⟨y.1, y.2.1, y.2.2⟩) (fun _ => rfl)
    (opensL_cons rfl (by kernel_rfl) o_str (opensL_cons rfl (by kernel_rfl) o_tuples (opensL_one rfl (by kernel_rfl) o_strs)))).imp
    (fun x h => h.2)

theorem agg_of {v : Value} {a b : Value} {l : List Value} (h : v.cells.toList = a :: b :: l) : v = .agg (a :: b :: l).toArray := by
  cases v <;> simp_all [Value.cells]
  rename_i cs
  rw [← h]

theorem walk (W : World) (v0 v1 : Value) (g : Gr) (p : Pr) (hg : kg.K W g v0.cells.toList) (hp : kp.K W p v1.cells.toList) (sg : g.cls.length * 16 ≤ 140737488351232) (sp : (p.l.length * 104 ≤ 140737488351232 ∧ ∀ x ∈ p.l, small x) ∧ p.m.length * 16 ≤ 140737488351232) :
    Calls Tryd.prog 4 #[v0, v1] W fun e w' => e = .returned (.bool true) ∧ Below W.heap.size W w' := by
  obtain ⟨_, _, hc, rfl, ⟨_, _, rfl, rfl, ⟨_, _, rfl, ⟨A2, c2, rfl, hl2, hr2⟩, ⟨_, _, rfl, rfl, rfl⟩⟩⟩⟩ := hg
  obtain ⟨_, _, hd, rfl, ⟨_, _, rfl, ⟨A3, c3, rfl, hl3, hr3⟩, ⟨A4, c4, rfl, hl4, hr4⟩⟩⟩ := hp
  rw [agg_of hc, agg_of hd]
  obtain ⟨k, hk⟩ := (filterAgain_ev g p.e p.l p.m sg sp.1.1 sp.1.2 sp.2).rounds
  exact watchbilllaw23_FilterAgain.calls k _ _ _ _ _ _ _ _ _ _ _ _ _ _ true W hr2 hl2 hr3 hl3 hr4 hl4 hk

theorem contract (H : Type) (enc : TypeId × Value → H) (W : World) (base : Nat) (args : Array Value) (ds gs : List (DataW H)) (before : List MemPlace)
    (hval : ∀ (j : Nat) t v, Tryd.f4.params[j]? = some t → args[j]? = some v → Value.okWide Tryd.prog W .any base t v)
    (hW : DataW.Whole enc Tryd.prog Tryd.f4.params.toList Rows.filterAgainSpec.vars false W args.toList ds gs before)
    (hsz0 : (DataW.weightsEach Tryd.prog (Tryd.f4.params.toList ++ (OpenSpec.ofChange Rows.filterAgainSpec).bare.plain.varTypes Tryd.prog) (ds ++ gs)).all (· ≤ reachBytes) = true) :
    Calls Tryd.prog 4 args W fun e W' => ∃ v, e = .returned v ∧ Rows.filterAgainSpec.post enc Tryd.prog Tryd.f4 false true false false W args v W' := by
  have hW' := hW
  obtain ⟨p, q, hA0, hV, rfl, hfz, hnd⟩ := hW
  have hA : DataW.TrodAll enc Tryd.prog W 0 (fun _ => true) true Tryd.f4.params.toList args.toList ds p := hA0
  rw [Tryd.params4] at hA hsz0
  obtain ⟨v0, vs0, d0, ds0, p0, q0, hargs, rfl, rfl, h0, r0⟩ := trodAll_cons hA
  obtain ⟨v1, vs1, d1, ds1, p1, q1, rfl, rfl, rfl, h1, r1⟩ := trodAll_cons r0
  obtain ⟨rfl, rfl, rfl⟩ := trodAll_nil r1
  obtain rfl : args = #[v0, v1] := by cases args; simp_all
  obtain ⟨rfl, rfl⟩ := trodVars_none hV
  have k0 := h0
  have k1 := h1
  have lt0 : ∀ x ∈ p0, x.block < W.heap.size := by obtain ⟨m, hm⟩ := k0; exact DataW.trod_lt m _ _ _ hm
  have lt1 : ∀ x ∈ p1, x.block < W.heap.size := by obtain ⟨m, hm⟩ := k1; exact DataW.trod_lt m _ _ _ hm
  have hsz : ∀ n ∈ d0.weights Tryd.prog 24 ++ d1.weights Tryd.prog 27, n ≤ reachBytes := by
    intro n hn
    have := List.all_eq_true.1 hsz0 n (by simpa [DataW.weightsEach] using hn)
    simpa using this
  obtain ⟨m0, e0⟩ := h0
  obtain ⟨m1, e1⟩ := h1
  obtain ⟨g, hg, sg⟩ := o_grant.get enc W _ m0 _ d0 p0 e0 (fun n hn => hsz n (List.mem_append_left _ hn))
  obtain ⟨pr, hp, sp⟩ := o_pres.get enc W _ m1 _ d1 p1 e1 (fun n hn => hsz n (List.mem_append_right _ hn))
  refine (walk W v0 v1 g pr hg hp sg sp).mono fun e W' ⟨he, bel⟩ => ?_
  subst he
  exact ⟨_, rfl, _, _, _, [], _, [], hW', trodAll_mk1 (shut_bool Tryd.underlying4 _), (trodAll_cons_mk (Below.trod laidOut (by kernel_rfl) (of_decide_eq_true (by kernel_rfl)) k0 bel lt0) (trodAll_cons_mk (Below.trod laidOut (by kernel_rfl) (of_decide_eq_true (by kernel_rfl)) k1 bel lt1) trodAll_mk0)), rfl, bel.frame _, fun h => by cases h⟩

/-- A world for the witness: the listed variables hold what their initialisers lay. -/
def flat1 : DataW Unit → List Value
  | .lit (.int k n) => [.int k n]
  | _ => []
def flat2 : DataW Unit → List Value
  | .agg l => l.flatMap flat1
  | d => flat1 d
def flat3 : DataW Unit → List Value
  | .agg l => l.flatMap flat2
  | d => flat1 d
def put (l : List Value) : Obj → Obj
  | .cells _ t frozen => .cells l.toArray t frozen
  | o => o
noncomputable def laidWorld (os : Os) : World :=
  { World.holding Tryd.prog os ⟨#[], #[], []⟩ with heap := (((World.holding Tryd.prog os ⟨#[], #[], []⟩).heap.modify 2 (put (flat3 Rows.laid_math_bits_deBruijn32tab))).modify 3 (put (flat3 Rows.laid_math_bits_deBruijn64tab))).modify 0 (put (flat3 Rows.laid_internal_strconv_uint64pow10)) }
def wargs : Array Value := #[.agg #[.int .i64 0, .bool false, .slice none 0 0, .bool false, .bool false], .agg #[.string ByteArray.empty, .slice none 0 0, .slice none 0 0]]
theorem laid_met (os : Os) : laidMet Tryd.prog Rows.filterAgainRow.laid ((laidWorld os).forCall (fun _ _ => 0) ⟨#[], wargs, []⟩).memory :=
  laidMet_of_run' 8 (by kernel_rfl) (by kernel_rfl)
theorem reads (os : Os) {H : Type} (enc : TypeId × Value → H) : ∃ places, DataW.whole enc Tryd.prog ((laidWorld os).forCall (fun _ _ => 0) ⟨#[], wargs, []⟩).memory Tryd.f4.params.toList Rows.filterAgainSpec.vars false wargs.toList 8 = some ([.agg [.lit (.int .i64 0), .lit (.bool false), .nil, .lit (.bool false), .lit (.bool false)], .agg [.lit (.string []), .nil, .nil]], [], places) :=
  ⟨[], by kernel_rfl⟩

set_option maxRecDepth 100000 in
theorem lifted (os : Os) (started : os.Started) (H : Type) (enc : TypeId × Value → H) (F : Stop.Interp) :
    ReturnsInHanded {} Tryd.checked os 4 .any ((OpenSpec.ofChange Rows.filterAgainSpec).preRow enc Tryd.prog Tryd.f4 Rows.filterAgainRow.domain false Rows.filterAgainRow.laid) (((OpenSpec.ofChange Rows.filterAgainSpec).at F).post enc Tryd.prog Tryd.f4 false true false false) := by
  obtain ⟨places, hx⟩ := reads os enc
  refine returnsInHanded_of_row (C := Tryd.checked) (s := OpenSpec.ofChange Rows.filterAgainSpec) own started (by kernel_rfl) Tryd.func4
    (witness_row_at (enc := enc) (C := Tryd.checked) false (laidWorld os) wargs rfl (by kernel_rfl) (by kernel_rfl) (by kernel_rfl)
      (OpenSpec.preRow_of_cond 8 hx (by kernel_rfl) (fun k hk => by cases hk) (by kernel_rfl) (laid_met os))) ?_
  intro W base args ds gs before hval hW _ _ hsz _ _ _
  exact contract H enc W base args ds gs before hval hW hsz

theorem said : Rows.FilterAgainSaid :=
  OpenClaim.holds_of_cond 4 Tryd.f4 rfl rfl rfl rfl rfl rfl rfl ⟨rfl, rfl, rfl, rfl, rfl⟩ rfl rfl rfl rfl rfl (by kernel_rfl) Tryd.func4 (by kernel_rfl)
    (of_decide_eq_true (by kernel_rfl)) (by unfold Func.isWrapper; first | (rw [if_pos (by decide +kernel)]; kernel_rfl) | (rw [if_neg (by decide +kernel)]; exact ⟨rfl, rfl⟩))
    (fun os started H enc _ F => by rw [OpenClaim.pre_eq_preRow]; exact lifted os started H enc F)

theorem plain (f : FuncId) (fn : Func) (hf : Tryd.pinned.checked.prog.funcNamed "watchbill/watchbilllaw23.FilterAgain" = some f) (hfn : Tryd.pinned.checked.prog.funcs[f]? = some fn) :
    false = Tryd.pinned.checked.prog.looks [] ∧ ∀ (j : Nat) t, fn.params[j]? = some t → Tryd.pinned.checked.prog.wantsStandIn t = false := by
  obtain rfl : f = 4 := Option.some.inj ((show Tryd.prog.funcNamed "watchbill/watchbilllaw23.FilterAgain" = some 4 by kernel_rfl).symm.trans hf) |>.symm
  obtain rfl : fn = Tryd.f4 := (Option.some.inj (Tryd.func4.symm.trans hfn)).symm
  refine ⟨by kernel_rfl, fun j t ht => ?_⟩
  rw [Tryd.params4] at ht
  have hm : t = 24 ∨ t = 27 := by simpa using Array.mem_of_getElem? ht
  rcases hm with rfl | rfl
  · exact (show Tryd.prog.wantsStandIn 24 = false by kernel_rfl)
  · exact (show Tryd.prog.wantsStandIn 27 = false by kernel_rfl)

theorem card : Rows.FilterAgainCardSaid :=
  Claim7.holds_tied_plain_at .later [] _ _ _ _ said (fun _ h => by cases h) (by kernel_rfl) (fun _ h => by cases h) filterAgain_row_tie rfl ⟨rfl, rfl⟩ (by kernel_rfl) rfl plain (by kernel_rfl)
#print axioms card
end Go.Proofs.YtpgmjbkmalobeaaDoor.RowFA
namespace Go.Proofs.YtpgmjbkmalobeaaDoor
/-- The card, under a short name, for the claim. -/
theorem filterAgain_holds : Rows.FilterAgainCardSaid := RowFA.card
end Go.Proofs.YtpgmjbkmalobeaaDoor
