/- What pidf.Print is asked with is there wherever the presence's letters are few. -/
import Derived.Test.YtidkjifilgjgfaaDoorPurePid
namespace Go.Proofs.YtidkjifilgjgfaaDoor.Pd
open Go Go.RowKit Go.Proofs.YtidkjifilgjgfaaDoorW.PrintWords Go.Proofs.YtidkjifilgjgfaaDoorW.PrintLast Go.Proofs.YtidkjifilgjgfaaDoorW.PrintMore Go.Proofs.YtidkjifilgjgfaaDoor.Prt
open Go.Proofs.YtidkjifilgjgfaaDoor.ND (Nm At Nd zNd)
set_option linter.unusedVariables false
theorem le_sum : ∀ {l : List Nat} {a : Nat}, a ∈ l → a ≤ l.sum
  | x :: l, a, h => by
    rw [List.sum_cons]
    rcases List.mem_cons.1 h with rfl | h
    · omega
    · have := le_sum h
      omega
def szS (l : List ByteArray) : Nat := (l.map (fun s => s.size)).sum
def szT (x : Tu) : Nat := x.f0.size + x.f1.size + x.f2.size + x.f3.size + szS x.f5
def szP (e : ByteArray) (ts : List Tu) (ms : List ByteArray) : Nat := e.size + (ts.map szT).sum + szS ms
theorem ym4 : ∀ (a b : List Nd), wts (a ++ b) = wts a + wts b
  | [], b => by simp [wts]
  | d :: a, b => by
    show wt d + wts (a ++ b) = wt d + wts a + wts b
    rw [ym4 a b]
    omega
theorem ym7 (a b s : ByteArray) : wts (textN a b s) ≤ 2 + a.size + b.size + s.size := by
  unfold textN
  split
  · simp [wts]
  · simp only [elN, txN, wts, wt, wAs, List.map_nil, List.sum_nil]
    have : (⟨#[]⟩ : ByteArray).size = 0 := rfl
    omega
theorem wts_notes (l : List ByteArray) : wts (l.flatMap (textN spF sNote)) ≤ 40 * l.length + szS l := by
  induction l with
  | nil => simp [wts]
  | cons s l ih =>
    have h := ym7 spF sNote s
    have e1 : spF.size = 27 := rfl
    have e2 : sNote.size = 4 := rfl
    rw [List.flatMap_cons, ym4]
    simp only [szS, List.map_cons, List.sum_cons, List.length_cons] at *
    omega
theorem prio_size (p : Int) (h0 : 0 ≤ p) (h1 : p ≤ 1000) : (prioS p).size ≤ 40 := by
  unfold prioS
  split
  · rw [ByteArray.size_append, ByteArray.size_extract]
    have h := Lib.itoa_length_le (1000 + p) (by omega) (by omega)
    have e : (itoaB (1000 + p)).size = (Lib.itoa (1000 + p)).length := by unfold itoaB; rw [Lib.size_eq]
    have e2 : (⟨#[48, 46]⟩ : ByteArray).size = 2 := rfl
    omega
  · exact (by decide : (1 : Nat) ≤ 40)
theorem wt_enc (x : Tu) (h : Told x) : wt (encN x) ≤ 1000 + szT x := by
  obtain ⟨h5, h40, h41, _, h60, h61⟩ := h
  have t1 := ym7 spF sBasic x.f1
  have t2 := ym7 spR sClass x.f3
  have t3 : wts (conN x.f2 x.f4) ≤ 200 + x.f2.size := by
    unfold conN
    split
    · have hp := prio_size x.f4 h40 h41
      simp only [wts, wt, wAs, txN, List.map_nil, List.sum_nil, List.map_cons, List.sum_cons, wA]
      have e0 : (⟨#[]⟩ : ByteArray).size = 0 := rfl
      have e1 : spF.size = 27 := rfl
      have e2 : yf6.size = 7 := rfl
      have e3 : sPrio.size = 8 := rfl
      omega
    · have h := ym7 spF yf6 x.f2
      have e1 : spF.size = 27 := rfl
      have e2 : yf6.size = 7 := rfl
      omega
  have t4 := wts_notes x.f5
  have t5 : wts (stampN x.f6) ≤ 100 := by
    unfold stampN
    split
    · have h := ym7 spF sStamp (itoaB x.f6)
      have hi := Lib.itoa_length_le x.f6 (by omega) (by omega)
      have e : (itoaB x.f6).size = (Lib.itoa x.f6).length := by unfold itoaB; rw [Lib.size_eq]
      have e1 : spF.size = 27 := rfl
      have e2 : sStamp.size = 9 := rfl
      omega
    · simp [wts]
  have e0 : (⟨#[]⟩ : ByteArray).size = 0 := rfl
  have e1 : spF.size = 27 := rfl
  have e2 : spR.size = 32 := rfl
  have e3 : sTuple.size = 5 := rfl
  have e4 : sId.size = 2 := rfl
  have e5 : yj4.size = 6 := rfl
  have e6 : sBasic.size = 5 := rfl
  have e7 : sClass.size = 5 := rfl
  unfold encN kidsN
  rw [wt, ym4, ym4, ym4, ym4]
  simp only [wts, wt, wAs, elN, List.map_nil, List.sum_nil, List.map_cons, List.sum_cons, wA]
  unfold szT
  omega
theorem wts_encs : ∀ (ts : List Tu), (∀ x ∈ ts, Told x) → wts (ts.map encN) ≤ 1000 * ts.length + (ts.map szT).sum
  | [], _ => by simp [wts]
  | x :: ts, h => by
    have h1 := wt_enc x (h x List.mem_cons_self)
    have h2 := wts_encs ts (fun y hy => h y (List.mem_cons_of_mem _ hy))
    show wt (encN x) + wts (ts.map encN) ≤ _
    simp only [List.length_cons, List.map_cons, List.sum_cons]
    omega
theorem wt_pres (e : ByteArray) (ts : List Tu) (ms : List ByteArray) (h : ∀ x ∈ ts, Told x) (ht : ts.length ≤ 12) (hm : ms.length ≤ 4) : wt (presN e ts ms) ≤ 20000 + szP e ts ms := by
  have t1 := wts_encs ts h
  have t2 := wts_notes ms
  have e0 : (⟨#[]⟩ : ByteArray).size = 0 := rfl
  have e1 : spF.size = 27 := rfl
  have e2 : sPres.size = 8 := rfl
  have e3 : sEnt.size = 6 := rfl
  unfold presN
  rw [wt, ym4]
  simp only [wAs, List.map_nil, List.sum_nil, List.map_cons, List.sum_cons, wA]
  unfold szP
  omega
theorem rs_ex : ∀ (ts : List Tu), (∀ x ∈ ts, ∃ r, MayIs x r) → ∃ rs : List Bool, rs.length = ts.length ∧ ∀ (j : Nat) x r, ts[j]? = some x → rs[j]? = some r → MayIs x r
  | [], _ => ⟨[], rfl, fun j x r h => by simp at h⟩
  | x :: ts, h => by
    obtain ⟨r, hr⟩ := h x List.mem_cons_self
    obtain ⟨rs, h1, h2⟩ := rs_ex ts (fun y hy => h y (List.mem_cons_of_mem _ hy))
    refine ⟨r :: rs, by simp [h1], fun j y q hy hq => ?_⟩
    cases j with
    | zero =>
      simp only [List.getElem?_cons_zero, Option.some.injEq] at hy hq
      subst hy hq
      exact hr
    | succ j => exact h2 j y q (by simpa using hy) (by simpa using hq)
/-- It is there. -/
theorem pidOK_ex (e : ByteArray) (ts : List Tu) (ms : List ByteArray) (hts : ts.length ≤ 1000000) (h6 : ∀ x ∈ ts, 0 ≤ x.f6) (h5 : ∀ x ∈ ts, x.f5.length ≤ 1000000000) (hml : ms.length ≤ 1000000000) (hz : szP e ts ms ≤ 1900000) : ∃ rs nb, PidOK e ts ms rs nb := by
  have hle : ∀ x ∈ ts, szT x ≤ 1900000 := fun x hx => by
    have h1 : szT x ≤ (ts.map szT).sum := le_sum (List.mem_map_of_mem hx)
    unfold szP at hz
    omega
  have hse : ∀ (l : List ByteArray) s, s ∈ l → s.size ≤ szS l := fun l s hs => le_sum (List.mem_map_of_mem (f := fun s : ByteArray => s.size) hs)
  have hmay : ∀ x ∈ ts, ∃ r, MayIs x r := fun x hx => by
    have hx1 := hle x hx
    unfold szT at hx1
    obtain ⟨r, hr⟩ := may_ends x (by omega) (by omega) (h5 x hx) (fun s hs => by have := hse _ s hs; omega)
    obtain ⟨k, hk⟩ := hr.rounds
    exact ⟨r, k, hk⟩
  obtain ⟨rs, hl, hrs⟩ := rs_ex ts hmay
  obtain ⟨nb, hn⟩ := noted_ends ms hml (fun s hs => by have := hse _ s hs; unfold szP at hz; omega)
  obtain ⟨k, hk⟩ := hn.rounds
  have hnl : nb = true → ms.length ≤ 4 := fun h => by subst h; exact yo1 hk
  refine ⟨rs, nb, hl, hrs, fun x hx hm => told_of x (h6 x hx) hm, hts, fun x hx => by have := hle x hx; unfold szT at this; omega, ⟨k, hk⟩, hnl, fun h0 => ?_⟩
  unfold encP at h0 ⊢
  split at h0
  · cases h0
  · rename_i hc
    split at h0
    · cases h0
    · rename_i hd
      rw [if_neg hc, if_neg hd]
      have c2 : ts.length ≤ 12 := Nat.le_of_not_lt (fun h => hc (Or.inr (Or.inl h)))
      have c3 : rs.all (· = true) = true := by
        cases h : rs.all (· = true) with
        | true => rfl
        | false => exact absurd (Or.inr (Or.inr (Or.inl h))) hc
      have c4 : nb = true := by
        cases h : nb with
        | true => rfl
        | false => exact absurd (Or.inr (Or.inr (Or.inr h))) hc
      have htd : ∀ x ∈ ts, Told x := fun x hx => by
        obtain ⟨j, hj⟩ := List.getElem?_of_mem hx
        have hlt : j < ts.length := (List.getElem?_eq_some_iff.1 hj).1
        have hr : rs[j]? = some (rs[j]'(by omega)) := List.getElem?_eq_getElem _
        have ht : rs[j]'(by omega) = true := by simpa using List.all_eq_true.1 c3 _ (List.getElem_mem _)
        have hm := hrs j x _ hj hr
        rw [ht] at hm
        exact told_of x (h6 x hx) hm
      have := wt_pres e ts ms htd c2 (hnl c4)
      show wt (presN e ts ms) ≤ 2000000
      omega
end Go.Proofs.YtidkjifilgjgfaaDoor.Pd
