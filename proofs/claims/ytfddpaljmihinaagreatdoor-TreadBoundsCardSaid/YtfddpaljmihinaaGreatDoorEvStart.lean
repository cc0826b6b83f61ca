/-
  The memory that a law of this seat starts from: the variables that the rows list, and MaxLen, whatever it holds. (Conditions: the world is shaped, the listed variables are laid.)
-/
import Derived.Test.YtfddpaljmihinaaGreatDoorEvSeat
import Derived.Test.YtfddpaljmihinaaGreatDoorEvHanded
import Derived.Lib.LaidU8
import Derived.LaidLaws
import Derived.Shelf.Vars
namespace Go.Proofs.YtfddpaljmihinaaGreatDoor
namespace Ev
open Go
noncomputable section

def intsOf (k : IntKind) (l : List Int) : List AVal := l.map fun n => .int k n

def firstZ : List Int := Go.Pinned.utf8FirstZ.map Int.ofNat
def accZ : List Int := [128,191,160,191,128,159,144,191,128,143,0,0,0,0,0,0,0,0,0,0,0,0,0,0,0,0,0,0,0,0,0,0]
def litsOf : DataW Unit → List Int
  | .agg ds => ds.map fun d => match d with | .lit (.int _ n) => n | _ => 0
  | _ => []
def powZ : List Int := litsOf Rows.laid_internal_strconv_uint64pow10
def db32Z : List Int := litsOf Rows.laid_math_bits_deBruijn32tab
def db64Z : List Int := litsOf Rows.laid_math_bits_deBruijn64tab

/-- 'z': what MaxLen holds; 'u1', 'u2': the type of the two errors of strconv. -/
def startMem (z : Int) (u1 u2 : TypeId) : AMem :=
  ⟨8, ((((((((Tree.leaf.put 0 (.cells 3 [.int .i64 z] true 0 false)).put 1 (.cells 70 [.iface u1 .any] true 0 false)).put 2 (.cells 70 [.iface u2 .any] true 0 false)).put 3 (.cells 200 (intsOf .u8 firstZ) true 0 false)).put 4
    (.cells 203 (intsOf .u8 accZ) true 0 false)).put 5 (.cells 224 (intsOf .u64 powZ) true 0 false)).put 6 (.cells 228 (intsOf .u8 db32Z) true 0 false)).put 7 (.cells 229 (intsOf .u8 db64Z) true 0 false))⟩

def startRen (w : World) : Ren := ⟨fun b => match w.heap[b]? with
  | some (.cells c _ _) => if b < 8 then some ⟨b, 0, c.size⟩ else none
  | _ => none⟩

/-- A row of the world that reads as these values. -/
def RowIs (w : World) (g : Nat) (e : TypeId) (vs : List AVal) : Prop := ∃ c fr, w.heap[g]? = some (.cells c e fr) ∧ VsRel ⟨fun _ => none⟩ vs (c.toList.take vs.length) ∧ vs.length ≤ c.size

theorem start_rel {w : World} {z : Int} {u1 u2 : TypeId} (h0 : RowIs w 0 3 [.int .i64 z]) (h1 : RowIs w 1 70 [.iface u1 .any]) (h2 : RowIs w 2 70 [.iface u2 .any]) (h3 : RowIs w 3 200 (intsOf .u8 firstZ)) (h4 : RowIs w 4 203 (intsOf .u8 accZ))
    (h5 : RowIs w 5 224 (intsOf .u64 powZ)) (h6 : RowIs w 6 228 (intsOf .u8 db32Z)) (h7 : RowIs w 7 229 (intsOf .u8 db64Z)) :
    GlobOk seat (startRen w) ∧ MemRel (startRen w) (startMem z u1 u2).next (startMem z u1 u2).get w := by
  have key : ∀ b k, (startMem z u1 u2).get b = some k → b < 8 ∧ ∃ e vs, k = .cells e vs true 0 false ∧ RowIs w b e vs := by
    intro b k h
    simp only [startMem, AMem.get, Tree.get_put, Tree.get_leaf] at h
    split at h
    · rename_i e; subst e; cases h; exact ⟨by decide, _, _, rfl, h7⟩
    split at h
    · rename_i e; subst e; cases h; exact ⟨by decide, _, _, rfl, h6⟩
    split at h
    · rename_i e; subst e; cases h; exact ⟨by decide, _, _, rfl, h5⟩
    split at h
    · rename_i e; subst e; cases h; exact ⟨by decide, _, _, rfl, h4⟩
    split at h
    · rename_i e; subst e; cases h; exact ⟨by decide, _, _, rfl, h3⟩
    split at h
    · rename_i e; subst e; cases h; exact ⟨by decide, _, _, rfl, h2⟩
    split at h
    · rename_i e; subst e; cases h; exact ⟨by decide, _, _, rfl, h1⟩
    split at h
    · rename_i e; subst e; cases h; exact ⟨by decide, _, _, rfl, h0⟩
    cases h
  have at_ : ∀ b e vs, b < 8 → RowIs w b e vs → ∃ c fr, w.heap[b]? = some (.cells c e fr) ∧ (startRen w).at_ b = some ⟨b, 0, c.size⟩ ∧ VsRel ⟨fun _ => none⟩ vs (c.toList.take vs.length) ∧ vs.length ≤ c.size := by
    intro b e vs hb ⟨c, fr, e1, e2, e3⟩
    exact ⟨c, fr, e1, by simp [startRen, e1, hb], e2, e3⟩
  have inv : ∀ b B, (startRen w).at_ b = some B → b < 8 ∧ B.cb = b ∧ b < w.heap.size := by
    intro b B h
    simp only [startRen] at h
    split at h
    · rename_i c e fr hc
      split at h
      · rename_i hb
        cases h
        refine ⟨hb, rfl, ?_⟩
        rcases Nat.lt_or_ge b w.heap.size with q | q
        · exact q
        · rw [Array.getElem?_eq_none q] at hc; cases hc
      · cases h
    · cases h
  refine ⟨fun g hg => ?_, ⟨fun b B h => (inv b B h).1, fun b B h => by rw [(inv b B h).2.1]; exact (inv b B h).2.2, fun b k h => ?_, fun b1 k1 b2 k2 B1 B2 g1 _ _ _ hw _ => ?_, fun b B e vs ro frz h _ => ?_⟩⟩
  · have hg8 : g ≤ 7 := Nat.le_of_ble_eq_true hg
    have all : ∃ e vs, RowIs w g e vs := by
      match g, hg8 with
      | 0, _ => exact ⟨_, _, h0⟩
      | 1, _ => exact ⟨_, _, h1⟩
      | 2, _ => exact ⟨_, _, h2⟩
      | 3, _ => exact ⟨_, _, h3⟩
      | 4, _ => exact ⟨_, _, h4⟩
      | 5, _ => exact ⟨_, _, h5⟩
      | 6, _ => exact ⟨_, _, h6⟩
      | 7, _ => exact ⟨_, _, h7⟩
    obtain ⟨e, vs, hr⟩ := all
    obtain ⟨c, fr, _, e2, _⟩ := at_ g e vs (by omega) hr
    exact ⟨_, e2, rfl, rfl⟩
  · obtain ⟨hb, e, vs, rfl, hr⟩ := key b k h
    obtain ⟨c, fr, e1, e2, e3, e4⟩ := at_ b e vs hb hr
    refine ⟨_, e2, c, fr, e1, rfl, by simpa using e4, ?_, fun h => Bool.noConfusion h⟩
    simpa using e3.mono (r' := startRen w) (fun b B h => by cases h)
  · obtain ⟨_, e, vs, rfl, _⟩ := key b1 k1 g1
    cases hw
  · obtain ⟨_, e', vs', h', _⟩ := key b _ h
    cases h'
end
end Ev
end Go.Proofs.YtfddpaljmihinaaGreatDoor
