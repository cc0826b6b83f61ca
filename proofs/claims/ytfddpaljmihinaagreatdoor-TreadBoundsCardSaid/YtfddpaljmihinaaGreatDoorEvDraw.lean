/-
  Regions that draw their order: the small facts (masks, who writes which temporary, the blocks beside the memory). (Conditions: none.)
-/
import Derived.Test.YtfddpaljmihinaaGreatDoorEvCongr
namespace Go.Proofs.YtfddpaljmihinaaGreatDoor
namespace Ev
open Go

theorem Cap.same_eq {c c' : Cap} (h : Cap.same c c' = true) : c = c' := by
  cases c <;> cases c' <;> simp_all [Cap.same]

theorem sameL_eq {p : AVal → AVal → Bool} (hp : ∀ a b, p a b = true → a = b) : ∀ {l l' : List AVal}, sameL p l l' = true → l = l'
  | [], [], _ => rfl
  | [], _ :: _, h => by simp [sameL] at h
  | _ :: _, [], h => by simp [sameL] at h
  | a :: as, b :: bs, h => by
    simp only [sameL] at h
    split at h
    · rename_i hab
      rw [hp a b hab, sameL_eq hp h]
    · cases h

theorem sameF_eq : ∀ (f : Nat) {a b : AVal}, sameF f a b = true → a = b
  | 0, a, b, h => by simp [sameF] at h
  | f + 1, a, b, h => by
    have ih := fun a b h => sameF_eq f (a := a) (b := b) h
    unfold sameF at h
    split at h
    · rfl
    · rw [eq_of_beq h]
    · split at h
      · rename_i hk; rw [hk, eq_of_beq h]
      · cases h
    · rw [bytesEq_eq] at h; rw [eq_of_beq h]
    · rfl
    · split at h
      · rename_i h1; rw [Nat.eq_of_beq_eq_true h1, Nat.eq_of_beq_eq_true h]
      · cases h
    · rfl
    · split at h
      · rename_i h1 h2 h3 h4 h5
        rw [Nat.eq_of_beq_eq_true h1, Nat.eq_of_beq_eq_true h2, Nat.eq_of_beq_eq_true h3, Nat.eq_of_beq_eq_true h4, Cap.same_eq h5]
      · cases h
    · rfl
    · rw [Nat.eq_of_beq_eq_true h]
    · split at h
      · rename_i h1 h2 h3
        rw [Nat.eq_of_beq_eq_true h1, sameL_eq ih h2, sameL_eq ih h3]
      · cases h
    · rfl
    · split at h
      · rename_i h1
        rw [Nat.eq_of_beq_eq_true h1, ih _ _ h]
      · cases h
    · rfl
    · rw [sameL_eq ih h]
    · rw [sameL_eq ih h]
    · cases h

theorem diff_testBit (a b i : Nat) : Nat.testBit (diff a b) i = (Nat.testBit a i && !Nat.testBit b i) := by
  show Nat.testBit ((a ||| b) ^^^ b) i = _
  rw [Nat.testBit_xor, Nat.testBit_or]
  cases Nat.testBit a i <;> cases Nat.testBit b i <;> rfl

theorem lor_testBit (a b i : Nat) : Nat.testBit (Nat.lor a b) i = (Nat.testBit a i || Nat.testBit b i) := Nat.testBit_or a b i
theorem land_testBit (a b i : Nat) : Nat.testBit (Nat.land a b) i = (Nat.testBit a i && Nat.testBit b i) := Nat.testBit_and a b i
theorem two_testBit (n i : Nat) : Nat.testBit (2 ^ n) i = decide (n = i) := Nat.testBit_two_pow

/-! ### Blocks beside the memory -/
def sideOf : List (Nat × ABlk) → Nat → Option ABlk
  | [], _ => none
  | x :: rest, j => if j = x.1 then some x.2 else sideOf rest j

theorem view_next (base : Nat) (m : AMem) (f : Nat → Bool) : ∀ made, (view base m f made).next = m.next
  | [] => rfl
  | (q, k) :: rest => by
    simp only [view]
    split
    · exact view_next base m f rest
    · exact view_next base m f rest

theorem AMem.get_set' (m : AMem) (b : Nat) (k : ABlk) (x : Nat) : (m.set b k).get x = if b = x then some k else m.get x := Tree.get_put m.tree b k x

theorem view_side {base : Nat} {m : AMem} {f : Nat → Bool} : ∀ {made : List (Nat × ABlk)} {q : Nat} {k : ABlk}, f q = true → sideOf made q = some k → (view base m f made).get (base + q) = some k
  | [], _, _, _, h => by simp [sideOf] at h
  | (x, y) :: rest, q, k, hf, h => by
    simp only [sideOf] at h
    simp only [view]
    by_cases e : q = x
    · subst e
      rw [if_pos rfl] at h
      cases h
      rw [hf]
      simp [AMem.get_set']
    · rw [if_neg e] at h
      have ih := view_side (base := base) (m := m) hf h
      split
      · rw [AMem.get_set', if_neg (by omega)]; exact ih
      · exact ih

theorem view_main {base : Nat} {m : AMem} {f : Nat → Bool} : ∀ {made : List (Nat × ABlk)} {b : Nat}, (∀ q, b = base + q → f q = true → sideOf made q = none) → (view base m f made).get b = m.get b
  | [], _, _ => rfl
  | (x, y) :: rest, b, h => by
    have ih : (view base m f rest).get b = m.get b := view_main fun q hq hf => by
      have := h q hq hf
      simp only [sideOf] at this
      split at this
      · cases this
      · exact this
    simp only [view]
    split
    · rename_i hf
      rw [AMem.get_set', if_neg ?_]
      · exact ih
      · intro e
        have := h x e.symm hf
        simp [sideOf] at this
    · exact ih

theorem view_cases {base : Nat} {m : AMem} {f : Nat → Bool} {made : List (Nat × ABlk)} {b : Nat} {k : ABlk} (h : (view base m f made).get b = some k) :
    (∃ q, b = base + q ∧ f q = true ∧ sideOf made q = some k) ∨ (m.get b = some k ∧ ∀ q, b = base + q → f q = true → sideOf made q = none) := by
  by_cases c : ∃ q k', b = base + q ∧ f q = true ∧ sideOf made q = some k'
  · obtain ⟨q, k', e, hf, hs⟩ := c
    have := view_side (base := base) (m := m) hf hs
    rw [← e, h] at this
    cases this
    exact .inl ⟨q, e, hf, hs⟩
  · have hn : ∀ q, b = base + q → f q = true → sideOf made q = none := by
      intro q e hf
      cases hs : sideOf made q with
      | none => rfl
      | some k' => exact absurd ⟨q, k', e, hf, hs⟩ c
    rw [view_main hn] at h
    exact .inr ⟨h, hn⟩

theorem view_newer (base : Nat) (m : AMem) (f : Nat → Bool) (made : List (Nat × ABlk)) : ∀ (newer : List (Nat × ABlk)), (∀ x ∈ newer, f x.1 = false) → view base m f (newer ++ made) = view base m f made
  | [], _ => rfl
  | (x, y) :: rest, h => by
    simp only [List.cons_append, view]
    rw [h (x, y) (by simp)]
    exact view_newer base m f made rest fun z hz => h z (by simp [hz])

theorem sideOf_newer (made : List (Nat × ABlk)) (q : Nat) : ∀ (newer : List (Nat × ABlk)), (∀ x ∈ newer, x.1 ≠ q) → sideOf (newer ++ made) q = sideOf made q
  | [], _ => rfl
  | (x, y) :: rest, h => by
    simp only [List.cons_append, sideOf]
    rw [if_neg (fun e => h (x, y) (by simp) e.symm)]
    exact sideOf_newer made q rest fun z hz => h z (by simp [hz])

theorem sideOf_none (made : List (Nat × ABlk)) (q : Nat) (h : ∀ x ∈ made, x.1 ≠ q) : sideOf made q = none := by
  have := sideOf_newer [] q made h
  simpa [sideOf] using this

theorem sideOf_mem {made : List (Nat × ABlk)} {q : Nat} {k : ABlk} (h : sideOf made q = some k) : ∃ x ∈ made, x.1 = q := by
  by_cases c : ∃ x ∈ made, x.1 = q
  · exact c
  · rw [sideOf_none made q fun x hx e => c ⟨x, hx, e⟩] at h
    cases h

/-! ### Masks -/
theorem maskFrom_spec {pre : Tree Nat} : ∀ {es : List Edge} {m : Nat}, maskFrom pre es = some m →
    (∀ b, m.testBit b = true → ∃ e ∈ es, Region.binds .any e = true ∧ (b = e.on ∨ ∃ p', pre.get e.on = some p' ∧ p'.testBit b = true)) ∧
    ∀ e ∈ es, Region.binds .any e = true → ∃ p', pre.get e.on = some p'
  | [], m, h => by
    simp only [maskFrom] at h
    cases h
    exact ⟨fun b hb => by simp at hb, fun e he => by simp at he⟩
  | e :: es, m, h => by
    simp only [maskFrom] at h
    split at h
    · rename_i hb
      obtain ⟨h1, h2⟩ := maskFrom_spec h
      refine ⟨fun b hb => let ⟨e', he', x⟩ := h1 b hb; ⟨e', by simp [he'], x⟩, fun e' he' hb' => ?_⟩
      rcases List.mem_cons.1 he' with rfl | he'
      · rw [hb] at hb'; cases hb'
      · exact h2 e' he' hb'
    · rename_i hb
      split at h
      · rename_i k m' hk hm
        cases h
        obtain ⟨h1, h2⟩ := maskFrom_spec hm
        refine ⟨fun b hb' => ?_, fun e' he' hb' => ?_⟩
        · rw [lor_testBit, lor_testBit, two_testBit] at hb'
          simp only [Bool.or_eq_true, decide_eq_true_eq] at hb'
          rcases hb' with (h3 | h3) | h3
          · exact ⟨e, by simp, hb, .inl h3.symm⟩
          · exact ⟨e, by simp, hb, .inr ⟨k, hk, h3⟩⟩
          · obtain ⟨e', he', x⟩ := h1 b h3
            exact ⟨e', by simp [he'], x⟩
        · rcases List.mem_cons.1 he' with rfl | he'
          · exact ⟨k, hk⟩
          · exact h2 e' he' hb'
      · cases h

def PreAt (pre : Tree Nat) (i : Nat) (o : Oper) : Prop :=
  ∃ p, pre.get i = some p ∧ (∀ b, p.testBit b = true → b < i ∧ ∃ e ∈ o.after, Region.binds .any e = true ∧ (b = e.on ∨ ∃ p', pre.get e.on = some p' ∧ p'.testBit b = true)) ∧
    ∀ e ∈ o.after, Region.binds .any e = true → e.on < i

theorem masks_spec : ∀ (l : List Oper) (i : Nat) (p pre : Tree Nat), (∀ j, i ≤ j → p.get j = none) → (∀ j k, p.get j = some k → ∀ b, k.testBit b = true → b < j) → masks l i p = some pre →
    (∀ j, j < i → pre.get j = p.get j) ∧ ∀ j o, l[j]? = some o → PreAt pre (i + j) o
  | [], i, p, pre, _, _, h => by
    simp only [masks] at h
    cases h
    exact ⟨fun _ _ => rfl, fun j o e => by simp at e⟩
  | o :: rest, i, p, pre, hn, hb, h => by
    simp only [masks] at h
    split at h
    · rename_i k hk
      obtain ⟨s1, s2⟩ := maskFrom_spec hk
      have below : ∀ j k', p.get j = some k' → j < i := fun j k' e => by
        rcases Nat.lt_or_ge j i with c | c
        · exact c
        · rw [hn j c] at e; cases e
      have hkb : ∀ b, k.testBit b = true → b < i := by
        intro b hb'
        obtain ⟨e, he, hbind, h3⟩ := s1 b hb'
        obtain ⟨p1, hp1⟩ := s2 e he hbind
        rcases h3 with rfl | ⟨p', hp', hb2⟩
        · exact below _ _ hp1
        · exact Nat.lt_trans (hb _ _ hp' b hb2) (below _ _ hp')
      obtain ⟨r1, r2⟩ := masks_spec rest (i + 1) (p.put i k) pre
        (fun j hj => by rw [Tree.get_put, if_neg (by omega)]; exact hn j (by omega))
        (fun j k' e b hb' => by
          rw [Tree.get_put] at e
          split at e
          · rename_i c; cases e; rw [← c]; exact hkb b hb'
          · exact hb j k' e b hb') h
      have low : ∀ j, j < i → pre.get j = p.get j := fun j hj => by rw [r1 j (by omega), Tree.get_put, if_neg (by omega)]
      refine ⟨low, fun j o' e => ?_⟩
      cases j with
      | zero =>
        simp at e
        subst e
        refine ⟨k, by rw [Nat.add_zero, r1 i (by omega), Tree.get_put, if_pos rfl], fun b hb' => ⟨hkb b hb', ?_⟩, fun e he hbind => ?_⟩
        · obtain ⟨e, he, hbind, h3⟩ := s1 b hb'
          refine ⟨e, by simpa using he, hbind, ?_⟩
          rcases h3 with h3 | ⟨p', hp', hb2⟩
          · exact .inl h3
          · exact .inr ⟨p', by rw [low _ (below _ _ hp')]; exact hp', hb2⟩
        · obtain ⟨p1, hp1⟩ := s2 e (by simpa using he) hbind
          exact below _ _ hp1
      | succ j =>
        have := r2 j o' (by simpa using e)
        rw [show i + (j + 1) = i + 1 + j by omega]
        exact this
    · cases h

theorem whoOf_spec : ∀ (l : List Oper) (i : Nat) (w who : Tree Nat), whoOf l i w = some who →
    (∀ d j, w.get d = some j → who.get d = some j) ∧ ∀ (j : Nat) (o : Oper) d, l[j]? = some o → o.dst = some d → who.get d = some (i + j)
  | [], i, w, who, h => by
    simp only [whoOf] at h
    cases h
    exact ⟨fun _ _ e => e, fun j o d e => by simp at e⟩
  | o :: rest, i, w, who, h => by
    simp only [whoOf] at h
    split at h
    · rename_i hd
      obtain ⟨r1, r2⟩ := whoOf_spec rest (i + 1) w who h
      refine ⟨r1, fun j o' d e hd' => ?_⟩
      cases j with
      | zero => simp at e; subst e; rw [hd] at hd'; cases hd'
      | succ j => rw [r2 j o' d (by simpa using e) hd']; congr 1; omega
    · rename_i d hd
      split at h
      · cases h
      · rename_i hw
        obtain ⟨r1, r2⟩ := whoOf_spec rest (i + 1) (w.put d i) who h
        refine ⟨fun d' j e => r1 d' j ?_, fun j o' d' e hd' => ?_⟩
        · rw [Tree.get_put, if_neg ?_]
          · exact e
          · intro c; subst c; rw [hw] at e; cases e
        · cases j with
          | zero =>
            simp at e
            subst e
            rw [hd] at hd'
            cases hd'
            exact r1 _ _ (by rw [Tree.get_put, if_pos rfl]; rfl)
          | succ j => rw [r2 j o' d' (by simpa using e) hd']; congr 1; omega

theorem looksOk_spec {pre who : Tree Nat} {i p : Nat} : ∀ {us : List Nat}, looksOk pre who i p us = true → ∀ u ∈ us, ∀ j, who.get u = some j → p.testBit j = true ∨ ∃ pj, pre.get j = some pj ∧ pj.testBit i = true
  | [], _, u, hu => by simp at hu
  | u :: us, h, x, hx => by
    simp only [looksOk] at h
    split at h
    · rename_i hw
      rcases List.mem_cons.1 hx with rfl | hx
      · intro j hj; rw [hw] at hj; cases hj
      · exact looksOk_spec h x hx
    · rename_i j hw
      split at h
      · rename_i hb
        rcases List.mem_cons.1 hx with rfl | hx
        · intro j' hj; rw [hw] at hj; cases hj; exact .inl hb
        · exact looksOk_spec h x hx
      · split at h
        · rename_i pj hpj
          split at h
          · rename_i hb
            rcases List.mem_cons.1 hx with rfl | hx
            · intro j' hj; rw [hw] at hj; cases hj; exact .inr ⟨pj, hpj, hb⟩
            · exact looksOk_spec h x hx
          · cases h
        · cases h

/-! ### Stages -/
def stageOf : List Stage → Nat → Option Stage
  | [], _ => none
  | s :: rest, k => if k = rest.length then some s else stageOf rest k

theorem stageOf_lt : ∀ {l : List Stage} {k : Nat} {s : Stage}, stageOf l k = some s → k < l.length
  | [], k, s, h => by simp [stageOf] at h
  | x :: rest, k, s, h => by
    simp only [stageOf] at h
    split at h
    · rename_i e; simp [e]
    · have := stageOf_lt h; simp; omega

theorem stageOf_some : ∀ {l : List Stage} {k : Nat}, k < l.length → ∃ s, stageOf l k = some s
  | [], k, h => by simp at h
  | x :: rest, k, h => by
    simp only [stageOf]
    split
    · exact ⟨x, rfl⟩
    · exact stageOf_some (by simp at h; omega)

theorem stageOf_cons {l : List Stage} {x : Stage} {k : Nat} {s : Stage} (h : stageOf l k = some s) : stageOf (x :: l) k = some s := by
  simp only [stageOf]
  rw [if_neg (Nat.ne_of_lt (stageOf_lt h))]
  exact h
end Ev
end Go.Proofs.YtfddpaljmihinaaGreatDoor
