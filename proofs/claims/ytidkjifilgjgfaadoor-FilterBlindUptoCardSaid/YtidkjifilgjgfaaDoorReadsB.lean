/- (With the bulk of what is read.) What an argument reads as (the form's own reading of data) is what the printed kinds say of its cells, with the sizes that the form's reach pays. For any program; no conditions. -/
import Derived.Test.YtidkjifilgjgfaaDoorWWords
import GoSem.ClaimChange
import GoSem.ClaimJoined
import Derived.Test.YtidkjifilgjgfaaDoorRows
namespace Go.Proofs.YtidkjifilgjgfaaDoor.ReadsB
open Go.RowKit Go.Proofs.YtidkjifilgjgfaaDoorW.PrintWords
set_option linter.unusedVariables false
theorem sum_le {α H : Type} (μ : α → Nat) : ∀ (l : List α) (ds : List (DataW H)), l.length = ds.length → (∀ (i : Nat) x d, l[i]? = some x → ds[i]? = some d → μ x ≤ Rows.uptoBulk d) → (l.map μ).sum ≤ Rows.uptoBulkAll ds
  | [], ds, _, _ => by simp
  | x :: l, [], h, _ => by simp at h
  | x :: l, d :: ds, h, k => by
    have h1 := k 0 x d rfl rfl
    have h2 := sum_le μ l ds (by simpa using h) (fun i y e hy he => k (i + 1) y e (by simpa using hy) (by simpa using he))
    simp only [List.map_cons, List.sum_cons, Rows.uptoBulkAll]
    omega

/-- A value's cells at type t that read as data within the form's reach are of kind d, and are Sz. -/
structure Opens {α : Type} (P : Program) (t : TypeId) (d : Kd α) (Sz : α → Prop) (μ : α → Nat) : Prop where
  get : ∀ {H : Type} (enc : TypeId × Value → H) (w : World) (spare : Nat → Bool) (fuel : Nat) (cs : List Value) (dt : DataW H) (ps : List MemPlace),
    DataW.trod enc P w 0 spare true fuel t cs = some (dt, ps) → (∀ n ∈ dt.weights P t, n ≤ reachBytes) → ∃ x, d.K w x cs ∧ Sz x ∧ μ x ≤ Rows.uptoBulk dt

theorem opens_int {P : Program} {t : TypeId} {k : IntKind} (hu : P.underlying t = some (.int k)) : Opens P t (Kd.int k) (fun x => (Lit.int k x).wf = true) (fun _ => 0) := by
  refine ⟨fun {H} enc w spare fuel cs dt ps h hw => ?_⟩
  cases fuel with
  | zero => simp [DataW.trod] at h
  | succ fuel =>
    unfold DataW.trod at h
    rw [hu] at h
    match cs, h with
    | [.int k' n], h =>
      simp only at h
      split at h
      · rename_i hc
        obtain ⟨rfl, hwf⟩ := hc
        exact ⟨n, rfl, hwf, Nat.zero_le _⟩
      · exact absurd h (by simp)

theorem opens_bool {P : Program} {t : TypeId} (hu : P.underlying t = some .bool) : Opens P t Kd.bool (fun _ => True) (fun _ => 0) := by
  refine ⟨fun {H} enc w spare fuel cs dt ps h hw => ?_⟩
  cases fuel with
  | zero => simp [DataW.trod] at h
  | succ fuel =>
    unfold DataW.trod at h
    rw [hu] at h
    match cs, h with
    | [.bool b], h => exact ⟨b, rfl, trivial, Nat.zero_le _⟩

theorem opens_string {P : Program} {t : TypeId} (hu : P.underlying t = some .string) : Opens P t Kd.string (fun s => s.size ≤ 140737488351232) (fun s => s.size + 1) := by
  refine ⟨fun {H} enc w spare fuel cs dt ps h hw => ?_⟩
  cases fuel with
  | zero => simp [DataW.trod] at h
  | succ fuel =>
    unfold DataW.trod at h
    rw [hu] at h
    match cs, h with
    | [.string s], h =>
      simp only at h
      split at h
      · obtain ⟨rfl, rfl⟩ := Prod.mk.inj (Option.some.inj h)
        refine ⟨s, rfl, ?_, by simp [Rows.uptoBulk]⟩
        have := hw s.data.toList.length (by simp [DataW.weights])
        simp only [Array.length_toList, reachBytes] at this
        exact this
      · exact absurd h (by simp)

theorem mapM_range {β : Type} (f : Nat → Option β) (n : Nat) {l : List β} (h : (List.range n).mapM f = some l) : l.length = n ∧ ∀ i, i < n → ∃ y, l[i]? = some y ∧ f i = some y := by
  have key : ∀ (ks : List Nat) (l : List β), ks.mapM f = some l → l.length = ks.length ∧ ∀ (i : Nat) (k : Nat), ks[i]? = some k → ∃ y, l[i]? = some y ∧ f k = some y := by
    intro ks
    induction ks with
    | nil =>
      intro l h
      simp at h
      subst h
      simp
    | cons k ks ih =>
      intro l h
      rw [List.mapM_cons] at h
      simp only [Option.bind_eq_bind, Option.bind_eq_some_iff, Option.pure_def, Option.some.injEq] at h
      obtain ⟨y, hy, l', hl', rfl⟩ := h
      obtain ⟨h1, h2⟩ := ih l' hl'
      refine ⟨by simp [h1], ?_⟩
      intro i k' hi
      cases i with
      | zero => simp at hi; subst hi; exact ⟨y, rfl, hy⟩
      | succ i => simpa using h2 i k' (by simpa using hi)
  obtain ⟨h1, h2⟩ := key _ l h
  refine ⟨by simpa using h1, fun i hi => h2 i i (by rw [List.getElem?_range hi])⟩

theorem mem_weightsAll {H : Type} {P : Program} {e : TypeId} {l : List (DataW H)} {i : Nat} {d : DataW H} (h : l[i]? = some d) {n : Nat} (hn : n ∈ d.weights P e) : n ∈ DataW.weightsAll P e l := by
  induction l generalizing i with
  | nil => simp at h
  | cons x r ih =>
    simp only [DataW.weightsAll, List.mem_append]
    cases i with
    | zero => simp at h; subst h; exact .inl hn
    | succ i => exact .inr (ih (by simpa using h))

theorem cells_get {w : World} {a : Addr} {n : Nat} {cs : List Value} (h : w.cells? 0 a n = some cs) : cs.length = n ∧ ∀ i u, cs[i]? = some u → w.cell? (a.add i) = some u := by
  unfold World.cells? at h
  rw [if_pos (Nat.zero_le _)] at h
  obtain ⟨h1, h2⟩ := mapM_range _ _ h
  refine ⟨h1, fun i u hi => ?_⟩
  have hlt : i < n := by
    have := (List.getElem?_eq_some_iff.1 hi).1
    omega
  obtain ⟨y, hy, hc⟩ := h2 i hlt
  rw [hi] at hy
  obtain rfl := Option.some.inj hy
  exact hc

theorem add_add (a : Addr) (n m : Nat) : (a.add n).add m = a.add (n + m) := by
  unfold Addr.add
  by_cases hn : n = 0
  · subst hn; simp
  · by_cases hm : m = 0
    · subst hm; simp [hn]
    · simp [hn, hm, Nat.add_assoc]

theorem list_choose {α : Type} {Q : Nat → α → Prop} (n : Nat) (h : ∀ i, i < n → ∃ x, Q i x) : ∃ l : List α, l.length = n ∧ ∀ i x, l[i]? = some x → Q i x := by
  induction n with
  | zero => exact ⟨[], rfl, by simp⟩
  | succ n ih =>
    obtain ⟨l, hl, hq⟩ := ih (fun i hi => h i (by omega))
    obtain ⟨x, hx⟩ := h n (by omega)
    refine ⟨l ++ [x], by simp [hl], fun i y hy => ?_⟩
    by_cases hi : i < n
    · rw [List.getElem?_append_left (by omega)] at hy
      exact hq i y hy
    · rw [List.getElem?_append_right (by omega), hl] at hy
      have : i = n := by
        have := (List.getElem?_eq_some_iff.1 hy).1
        simp at this
        omega
      subst this
      simp at hy
      subst hy
      exact hx

/-- A slice: its elements one by one. -/
theorem opens_slice {α : Type} {P : Program} {t e : TypeId} {d : Kd α} {Sz : α → Prop} {μ : α → Nat} (hu : P.underlying t = some (.slice e)) (hsz : P.cellsOf e = d.sz) (hd : Opens P e d Sz μ) :
    Opens P t (Kd.slice e d) (fun l => l.length ≤ maxLen ∧ l.length * P.bytesOf e ≤ 140737488351232 ∧ ∀ x ∈ l, Sz x) (fun l => (l.map μ).sum) := by
  refine ⟨fun {H} enc w spare fuel cs dt ps h hw => ?_⟩
  cases fuel with
  | zero => simp [DataW.trod] at h
  | succ fuel =>
    unfold DataW.trod at h
    rw [hu] at h
    match cs, h with
    | [.slice none 0 0], h =>
      exact ⟨[], ⟨none, 0, rfl, Nat.le_refl _, by exact ⟨rfl, by simp, fun h => absurd h (Nat.lt_irrefl 0)⟩⟩, ⟨by simp, by simp, by simp⟩, by simp⟩
    | [.slice (some a) len cap], h =>
      simp only [Nat.zero_le, true_and] at h
      split at h
      · rename_i hc
        obtain ⟨hlc, hcm⟩ := hc
        rw [Option.bind_eq_some_iff] at h
        obtain ⟨elems, he, h⟩ := h
        rw [Option.map_eq_some_iff] at h
        obtain ⟨rest, hrest, h⟩ := h
        obtain ⟨rfl, rfl⟩ := Prod.mk.inj h
        obtain ⟨hel, hget⟩ := mapM_range _ _ he
        have hwt : ∀ n ∈ (elems.map (·.1)).length * P.bytesOf e :: DataW.weightsAll P e (elems.map (·.1)), n ≤ reachBytes := by
          intro n hn
          rcases List.mem_cons.1 hn with hn | hn
          · have := hw (((elems.map (·.1)).length + (rest.map (·.1)).length) * P.bytesOf e) (by simp [DataW.weights, hu])
            subst hn
            refine Nat.le_trans (Nat.mul_le_mul_right _ (Nat.le_add_right _ _)) this
          · exact hw n (by simp only [DataW.weights, hu]; exact List.mem_cons_of_mem _ (List.mem_append_left _ hn))
        have hall : ∀ i, i < len → ∃ x, (∃ c : List Value, c.length = d.sz ∧ d.K w x c ∧ ∀ j u, c[j]? = some u → w.cell? (a.add (i * d.sz + j)) = some u) ∧ Sz x ∧ ∀ q, (elems.map (·.1))[i]? = some q → μ x ≤ Rows.uptoBulk q := by
          intro i hi
          obtain ⟨y, hy, hf⟩ := hget i hi
          rw [Option.bind_eq_some_iff] at hf
          obtain ⟨c, hc, hf⟩ := hf
          obtain ⟨hcl, hcg⟩ := cells_get hc
          obtain ⟨x, hx, hs, hμ⟩ := hd.get enc w spare fuel c y.1 y.2 hf (fun n hn => hwt n (List.mem_cons_of_mem _ (mem_weightsAll (i := i) (d := y.1) (by simp [hy]) hn)))
          refine ⟨x, ⟨c, by rw [hcl, hsz], hx, fun j u hj => ?_⟩, hs, fun q hq => by rw [List.getElem?_map, hy] at hq; cases hq; exact hμ⟩
          have := hcg j u hj
          rw [add_add, hsz] at this
          exact this
        obtain ⟨l, hl, hq⟩ := list_choose len hall
        refine ⟨l, ⟨some a, cap, by rw [hl], by omega, ⟨rfl, by rw [hl]; unfold maxLen at hcm; omega, fun _ => ⟨a, rfl, fun j p hj => ?_⟩⟩⟩, ⟨by omega, ?_, ?_⟩, ?_⟩
        · obtain ⟨⟨c, h1, h2, h3⟩, _⟩ := hq j p hj
          exact ⟨c, h1, h2, h3⟩
        · have := hwt _ List.mem_cons_self
          simp only [List.length_map, hel, reachBytes] at this
          rw [hl]
          exact this
        · intro x hx
          obtain ⟨i, hi⟩ := List.getElem?_of_mem hx
          exact (hq i x hi).2.1
        · have h1 := sum_le μ l (elems.map (·.1)) (by rw [hl, List.length_map, hel]) (fun i x q hi hqi => (hq i x hi).2.2 q hqi)
          simp only [Rows.uptoBulk]
          omega
      · exact absurd h (by simp)

/-! ### structs: the fields from the front -/
structure OpensL {α : Type} (P : Program) (fs : List Field) (off : Nat) (d : Kd α) (Sz : α → Prop) (μ : α → Nat) : Prop where
  get : ∀ {H : Type} (enc : TypeId × Value → H) (w : World) (spare : Nat → Bool) (fuel : Nat) (cs : List Value) (xs : List (DataW H × List MemPlace)),
    (fs.mapM fun f => DataW.trod enc P w 0 spare true fuel f.type ((cs.drop f.offset).take (P.cellsOf f.type))) = some xs → cs.length = off + d.sz →
    (∀ n ∈ DataW.weightsEach P (fs.map (·.type)) (xs.map (·.1)), n ≤ reachBytes) → ∃ x, d.K w x (cs.drop off) ∧ Sz x ∧ μ x ≤ Rows.uptoBulkAll (xs.map (·.1))

theorem yo0 {α : Type} {P : Program} {f : Field} {off : Nat} {d : Kd α} {Sz : α → Prop} {μ : α → Nat} (ho : f.offset = off) (hsz : P.cellsOf f.type = d.sz) (hd : Opens P f.type d Sz μ) : OpensL P [f] off d Sz μ := by
  refine ⟨fun {H} enc w spare fuel cs xs h hl hw => ?_⟩
  rw [List.mapM_cons] at h
  simp only [List.mapM_nil, Option.bind_eq_bind, Option.bind_eq_some_iff, Option.pure_def, Option.some.injEq] at h
  obtain ⟨y, hy, _, rfl, rfl⟩ := h
  rw [ho, hsz, List.take_of_length_le (by simp; omega)] at hy
  obtain ⟨x, h1, h2, h3⟩ := hd.get enc w spare fuel _ y.1 y.2 hy (fun n hn => hw n (by simp [DataW.weightsEach, hn]))
  exact ⟨x, h1, h2, by simp only [List.map_cons, List.map_nil, Rows.uptoBulkAll]; omega⟩

theorem yf7 {α β : Type} {P : Program} {f : Field} {fs : List Field} {off : Nat} {d : Kd α} {d2 : Kd β} {Sz : α → Prop} {Sz2 : β → Prop} {μ : α → Nat} {μ2 : β → Nat} (ho : f.offset = off) (hsz : P.cellsOf f.type = d.sz)
    (hd : Opens P f.type d Sz μ) (hr : OpensL P fs (off + d.sz) d2 Sz2 μ2) : OpensL P (f :: fs) off (Kd.pair d d2) (fun x => Sz x.1 ∧ Sz2 x.2) (fun x => μ x.1 + μ2 x.2) := by
  refine ⟨fun {H} enc w spare fuel cs xs h hl hw => ?_⟩
  rw [List.mapM_cons] at h
  simp only [Option.bind_eq_bind, Option.bind_eq_some_iff, Option.pure_def, Option.some.injEq] at h
  obtain ⟨y, hy, ys, hys, rfl⟩ := h
  rw [ho, hsz] at hy
  have hl' : cs.length = off + (d.sz + d2.sz) := hl
  obtain ⟨x, hx, hs, hm⟩ := hd.get enc w spare fuel _ y.1 y.2 hy (fun n hn => hw n (by simp [DataW.weightsEach, hn]))
  obtain ⟨x2, hx2, hs2, hm2⟩ := hr.get enc w spare fuel cs ys hys (by omega) (fun n hn => hw n (by simp only [List.map_cons, DataW.weightsEach, List.mem_append]; exact .inr hn))
  refine ⟨(x, x2), ⟨(cs.drop off).take d.sz, cs.drop (off + d.sz), ?_, hx, hx2⟩, ⟨hs, hs2⟩, by simp only [List.map_cons, Rows.uptoBulkAll]; omega⟩
  rw [← List.drop_drop, List.take_append_drop]

theorem yl4 {α β : Type} {P : Program} {t : TypeId} {fs : Array Field} {d : Kd α} {g : β → α} {Sz : α → Prop} {μ : α → Nat} (hu : P.underlying t = some (.struct fs)) (hsz : P.cellsOf t = d.sz)
    (inv : α → β) (hinv : ∀ x, g (inv x) = x) (hr : OpensL P fs.toList 0 d Sz μ) : Opens P t (Kd.iso d g) (fun x => Sz (g x)) (fun x => μ (g x)) := by
  refine ⟨fun {H} enc w spare fuel cs dt ps h hw => ?_⟩
  cases fuel with
  | zero => simp [DataW.trod] at h
  | succ fuel =>
    unfold DataW.trod at h
    rw [hu] at h
    simp only at h
    split at h
    · rename_i hl
      rw [Option.map_eq_some_iff] at h
      obtain ⟨xs, hxs, h⟩ := h
      obtain ⟨rfl, rfl⟩ := Prod.mk.inj h
      obtain ⟨x, hx, hs, hm⟩ := hr.get enc w spare fuel cs xs hxs (by omega) (fun n hn => hw n (by simpa only [DataW.weights, hu] using hn))
      exact ⟨inv x, by show d.K w (g (inv x)) cs; rw [hinv]; simpa using hx, by show Sz (g (inv x)); rw [hinv]; exact hs, by show μ (g (inv x)) ≤ _; rw [hinv]; simp only [Rows.uptoBulk]; omega⟩
    · exact absurd h (by simp)

theorem Opens.imp {α : Type} {P : Program} {t : TypeId} {d : Kd α} {Sz Sz' : α → Prop} {μ μ' : α → Nat} (h : Opens P t d Sz μ) (hi : ∀ x, Sz x → Sz' x) (hm : ∀ x, μ' x ≤ μ x) : Opens P t d Sz' μ' :=
  ⟨fun enc w spare fuel cs dt ps ht hw => let ⟨x, hx, hs, hb⟩ := h.get enc w spare fuel cs dt ps ht hw; ⟨x, hx, hi _ hs, Nat.le_trans (hm x) hb⟩⟩
end Go.Proofs.YtidkjifilgjgfaaDoor.ReadsB
