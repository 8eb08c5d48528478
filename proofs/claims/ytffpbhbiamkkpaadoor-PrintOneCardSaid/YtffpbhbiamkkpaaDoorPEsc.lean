/- PrintEscapes: a text, and a value, that was escaped stands for itself, has no < and no quote that would end it, and no line ends but a text's own 10: walked to the law's end. -/
import Derived.Test.YtffpbhbiamkkpaaDoorPPrint
import Derived.Test.YtffpbhbiamkkpaaDoorEscBack
namespace Go.Proofs.YtffpbhbiamkkpaaDoor.Prt
open Go Go.RowKit Go.Proofs.YtffpbhbiamkkpaaDoorW.PrintWords Go.Proofs.YtffpbhbiamkkpaaDoorW.PrintLast Go.Proofs.YtffpbhbiamkkpaaDoorW.PrintMore Go.Proofs.YtffpbhbiamkkpaaDoor.ND
set_option linter.unusedVariables false
def nA : Nd := ⟨1, ⟨⟨#[117, 114, 110, 58, 120]⟩, ⟨#[97]⟩⟩, [⟨⟨⟨#[117, 114, 110, 58, 121]⟩, ⟨#[98]⟩⟩, ⟨#[49]⟩⟩], [], ⟨#[]⟩⟩
def nZ : Nd := ⟨0, ⟨⟨#[]⟩, ⟨#[]⟩⟩, [], [], ⟨#[]⟩⟩
theorem printA : printN nA = ([60, 97, 32, 120, 109, 108, 110, 115, 61, 34, 117, 114, 110, 58, 120, 34, 32, 120, 109, 108, 110, 115, 58, 110, 49, 61, 34, 117, 114, 110, 58, 121, 34, 32, 110, 49, 58, 98, 61, 34, 49, 34, 47, 62], 0) := by decide +kernel
theorem printZ : printN nZ = ([], 4) := by decide +kernel
theorem wtA : wt nA ≤ 100000 := by decide +kernel
theorem wtZ : wt nZ ≤ 100000 := by decide +kernel
theorem C_one (W : World) (g : Nat) (a : At) (h : W.heap[g]? = some (.cells #[.string a.f0.f0, .string a.f0.f1, .string a.f1] 63 (0, 0))) : kAt.C W (some ⟨g, 0, none⟩) 1 [a] := by
  refine ⟨rfl, by decide, fun _ => ⟨_, rfl, fun j p hj => ?_⟩⟩
  match j, hj with
  | 0, hj =>
    obtain rfl := Option.some.inj hj
    refine ⟨_, rfl, kAt_mk W a, fun i u hi => ?_⟩
    have e : (⟨g, 0, none⟩ : Addr).add (0 * kAt.sz + i) = ⟨g, i, none⟩ := by rw [Nat.zero_mul, Nat.zero_add]; exact add_plain g i
    rw [e, blk_cell h]
    simpa using hi
set_option maxHeartbeats 2000000 in
set_option maxRecDepth 100000 in
theorem awake_calls (w : World) (ht : Refs.Tens w) : Calls Tryd.prog 11 #[] w fun e w' => e = .returned (.bool true) ∧ Below w.heap.size w w' := by
  have ha : ∀ W, Refs.Tens W → kAt.C W (some ⟨w.heap.size, 0, none⟩) 1 nA.f2 → Calls Tryd.prog 14 #[.agg #[.int .i64 1, .string ⟨#[117, 114, 110, 58, 120]⟩, .string ⟨#[97]⟩, .slice (some ⟨w.heap.size, 0, none⟩) 1 1, .slice none 0 0, .string ⟨#[]⟩]] W fun e w' => e = .returned (.tuple #[.string ⟨(printN nA).1.toArray⟩, .int .i64 (printN nA).2]) ∧ Below W.heap.size W w' :=
    fun W hT h3 => Print_calls nA W wtA hT (some ⟨w.heap.size, 0, none⟩) none 1 0 h3 (Nat.le_refl _) (Kd.C_nil _ _) (Nat.le_refl _)
  have hz : ∀ W, Refs.Tens W → Calls Tryd.prog 14 #[.agg #[.int .i64 0, .string ⟨#[]⟩, .string ⟨#[]⟩, .slice none 0 0, .slice none 0 0, .string ⟨#[]⟩]] W fun e w' => e = .returned (.tuple #[.string ⟨(printN nZ).1.toArray⟩, .int .i64 (printN nZ).2]) ∧ Below W.heap.size W w' :=
    fun W hT => Print_calls nZ W wtZ hT none none 0 0 (Kd.C_nil _ _) (Nat.le_refl _) (Kd.C_nil _ _) (Nat.le_refl _)
  rw [printA] at ha
  rw [printZ] at hz
  have HA := Aside0.mk ha
  have HZ := Aside0.mk hz
  have HE := Aside0.mk (fun W hT => Esc.escape_calls ⟨#[97, 60, 98]⟩ false W hT (by decide))
  have e1 : Esc.esc false (⟨#[97, 60, 98]⟩ : ByteArray).data.toList = [97, 38, 108, 116, 59, 98] := by decide +kernel
  rw [e1] at HE
  have HT := Aside0.mk ht
  clear ht e1 ha hz
  go_enter Tryd.func11, Tryd.ntmps11
  have hA1 : Below w.heap.size w ((w.alloc (.cells #[.string ⟨#[117, 114, 110, 58, 121]⟩, .string ⟨#[98]⟩, .string ⟨#[49]⟩] 63)).alloc (.cells #[.int .i64 1, .string ⟨#[117, 114, 110, 58, 120]⟩, .string ⟨#[97]⟩, .slice (some ⟨w.heap.size, 0, none⟩) 1 1, .slice none 0 0, .string ⟨#[]⟩] 27)) := ((Below.refl _ _).alloc (Nat.le_refl _) _).alloc (by simp) _
  have hC : kAt.C ((w.alloc (.cells #[.string ⟨#[117, 114, 110, 58, 121]⟩, .string ⟨#[98]⟩, .string ⟨#[49]⟩] 63)).alloc (.cells #[.int .i64 1, .string ⟨#[117, 114, 110, 58, 120]⟩, .string ⟨#[97]⟩, .slice (some ⟨w.heap.size, 0, none⟩) 1 1, .slice none 0 0, .string ⟨#[]⟩] 27)) (some ⟨w.heap.size, 0, none⟩) 1 nA.f2 := C_one ((w.alloc (.cells #[.string ⟨#[117, 114, 110, 58, 121]⟩, .string ⟨#[98]⟩, .string ⟨#[49]⟩] 63)).alloc (.cells #[.int .i64 1, .string ⟨#[117, 114, 110, 58, 120]⟩, .string ⟨#[97]⟩, .slice (some ⟨w.heap.size, 0, none⟩) 1 1, .slice none 0 0, .string ⟨#[]⟩] 27)) w.heap.size ⟨⟨⟨#[117, 114, 110, 58, 121]⟩, ⟨#[98]⟩⟩, ⟨#[49]⟩⟩ ((((Below.refl _ _).alloc (Nat.le_refl _) _).block w.heap.size (by simp)).trans (heap_alloc_last w _))
  have HA1 := Aside0.mk hA1
  have HC := Aside0.mk hC
  clear hA1 hC
  go_wp2_with fail
  (with_reducible refine (HA.out _ (Refs.tens_below HT.out HA1.out) HC.out).mono ?_)
  rintro e w1 ⟨rfl, hb1⟩
  have HB1 := Aside0.mk (HA1.out.trans (hb1.mono HA1.out.size))
  clear hb1
  go_wp2_with fail
  (with_reducible refine (HZ.out _ (Refs.tens_below HT.out HB1.out)).mono ?_)
  rintro e w2 ⟨rfl, hb2⟩
  have HB2 := Aside0.mk (HB1.out.trans (hb2.mono HB1.out.size))
  clear hb2
  go_wp2_with fail
  (with_reducible refine (HE.out _ (Refs.tens_below HT.out HB2.out)).mono ?_)
  rintro e w3 ⟨rfl, hb3⟩
  have HB3 := Aside0.mk (HB2.out.trans (hb3.mono HB2.out.size))
  clear hb3
  go_wp2_with fail
  go_ret
  exact ⟨rfl, HB3.out⟩
end Go.Proofs.YtffpbhbiamkkpaaDoor.Prt
