/-
  The walks of strings.Cut at a dot where there is none. (Conditions: none.)
-/
import Derived.Test.YtfddpaljmihinaaGreatDoorEvRuns
namespace Go.Proofs.YtfddpaljmihinaaGreatDoor
namespace Cut
open Go Go.RowKit

noncomputable def ansOf : Ev.Out Ev.AVal → Option Ev.AVal
  | .ok v _ => some v
  | _ => none

set_option maxRecDepth 1000000 in
theorem run_ib (l : List UInt8) : ansOf (Ev.evFn seatN 1000 146 [.str l, .int .u8 46] m0) = some (.int .i64 (Ev.idxByte 46 l 0)) := by kernel_rfl

theorem ans_calls {T : Ev.Tab} {f : FuncId} {F : List Ev.AVal → Ev.AMem → Ev.Out Ev.AVal} (hglob : ∀ g, T.glob g = false) (hF : Ev.CallOk T Tryz.prog f F) (hent : ∀ args w, (callFunc f args).run Tryz.prog w = .ok (.enter f args) w)
    {args : List Ev.AVal} {args' : Array Value} {k : IntKind} {n : Int} (ha : Ev.VsRel renNone args args'.toList) (hrun : ansOf (F args m0) = some (.int k n)) (w : World) :
    Calls Tryz.prog f args' w fun e w' => e = .returned (.int k n) ∧ Below w.heap.size w w' := by
  have hout : ∃ m', F args m0 = .ok (.int k n) m' := by
    unfold ansOf at hrun
    split at hrun
    · rename_i v m' _
      cases hrun
      exact ⟨m', by assumption⟩
    · cases hrun
  obtain ⟨m', hout⟩ := hout
  have hc := hF renNone w m0 args args' (fun g e => by rw [hglob g] at e; cases e) (m0_rel w) ha (by rw [hout]; trivial)
  rw [hout] at hc
  rcases hc with ⟨v', w', h1, _⟩ | ⟨_, h2⟩
  · rw [hent] at h1; cases h1
  · exact h2.mono fun e w' ⟨r', v', e1, hv, hst⟩ => ⟨by rw [e1, hv.int_inv], Ev.below_of_step hst fun b k h => (m0_get h).elim⟩

theorem idx_none : ∀ (l : List UInt8) (i : Int), (∀ b ∈ l, ¬ b = 46) → Ev.idxByte 46 l i = -1 := by
  intro l
  induction l with
  | nil => intros; rfl
  | cons b r ih =>
    intro i h
    have hb : (b == (46 : UInt8)) = false := beq_eq_false_iff_ne.2 (h b List.mem_cons_self)
    simp only [Ev.idxByte, hb]
    exact ih (i + 1) fun c hc => h c (List.mem_cons_of_mem _ hc)

theorem ib_none (s : ByteArray) (h : ∀ b ∈ s.data.toList, ¬ b = 46) (w : World) :
    Calls Tryz.prog 146 #[.string s, .int .u8 46] w fun e w' => e = .returned (.int .i64 (-1)) ∧ Below w.heap.size w w' := by
  have hr := run_ib s.data.toList
  rw [idx_none _ 0 h] at hr
  exact ans_calls (fun _ => rfl) (soundN 1000 146) (enters_of Tryz.func146 (by kernel_rfl) rfl) (.cons (.str s _ rfl) (.cons (.int .u8 46) (.nil _))) hr w

set_option maxRecDepth 1000000 in
theorem index_none (s : ByteArray) (hs : s.size = 10) (h : ∀ b ∈ s.data.toList, ¬ b = 46) (w : World) :
    Calls Tryz.prog 92 #[.string s, .string ⟨#[46]⟩] w fun e w' => e = .returned (.int .i64 (-1)) ∧ Below w.heap.size w w' := by
  have hi := fun w => ib_none s h w
  have hl : s.toList.length = 10 := by rw [ByteArray.toList_eq, Array.length_toList]; exact hs
  have hne : (([46] : List UInt8) == s.toList) = false := beq_eq_false_iff_ne.2 fun e => by rw [← e] at hl; cases hl
  clear h hs hl
  go_enter Tryz.func92, Tryz.ntmps92
  go_wp2_with (first | (go_at_call 146; refine (hi _).mono ?_; rintro e w1 ⟨rfl, hb1⟩))
  go_ret
  exact ⟨rfl, hb1⟩

set_option maxRecDepth 1000000 in
theorem scut_none (s : ByteArray) (hs : s.size = 10) (h : ∀ b ∈ s.data.toList, ¬ b = 46) (w : World) :
    Calls Tryz.prog 105 #[.string s, .string ⟨#[46]⟩] w fun e w' => e = .returned (.tuple #[.string s, .string ⟨#[]⟩, .bool false]) ∧ Below w.heap.size w w' := by
  have hi := fun w => index_none s hs h w
  clear h hs
  go_enter Tryz.func105, Tryz.ntmps105
  go_wp2_with (first | (go_at_call 92; refine (hi _).mono ?_; rintro e w1 ⟨rfl, hb1⟩))
  go_ret3
  exact ⟨rfl, hb1⟩

set_option maxRecDepth 1000000 in
theorem cut_none (s : ByteArray) (hs : s.size = 10) (h : ∀ b ∈ s.data.toList, ¬ b = 46) (w : World) :
    Calls Tryz.prog 61 #[.string s, .string ⟨#[46]⟩] w fun e w' => e = .returned (.tuple #[.string s, .string ⟨#[]⟩, .bool false]) ∧ Below w.heap.size w w' := by
  have hi := fun w => scut_none s hs h w
  clear h hs
  go_enter Tryz.func61, Tryz.ntmps61
  go_wp2_with (first | (go_at_call 105; refine (hi _).mono ?_; rintro e w1 ⟨rfl, hb1⟩))
  go_ret3
  exact ⟨rfl, hb1⟩

end Cut
end Go.Proofs.YtfddpaljmihinaaGreatDoor
