/-
  The operations that write: variables, append, copy. (Conditions: the tables tell of the program what is so; the memories are related.)
-/
import Derived.Test.YtfddpaljmihinaaGreatDoorEvWrite
namespace Go.Proofs.YtfddpaljmihinaaGreatDoor
namespace Ev
open Go

section
variable {P : Program} {r : Ren} {w : World} {T : Tab} (hT : TabOk T P)

include hT in
theorem storeOp_ok {m m' : AMem} (hm : MemRel r m.next m.get w) {t : TypeId} {x v : AVal} {x' v' : Value} {u : AVal} (hx : VRel r x x') (hv : VRel r v v') (h : storeOp T m t x v = .val u m') :
    u = .any ∧ ∃ w', (Instr.storeAt t x' v').run P w = .ok () w' ∧ Step r m.next m.get w r m'.next m'.get w' := by
  unfold storeOp at h
  split at h
  · rename_i b o
    obtain ⟨B, hB, rfl⟩ := hx.ptr_inv
    split at h
    · cases h
    · cases h
    · rename_i n1 n2
      split at h
      · rename_i n e vs frz wh hn hg
        split at h
        · rename_i hb
          cases h
          simp only [Bool.and_eq_true] at hb
          obtain ⟨⟨⟨b1, b2⟩, b3⟩, b4⟩ := hb
          have b1 : v.cells.length = n := Nat.eq_of_beq_eq_true b1
          have b3 := Nat.le_of_ble_eq_true b3
          have b4 := Nat.le_of_ble_eq_true b4
          have hc := hv.cells n1 n2
          have hl : v'.cells.size = v.cells.length := by have := hc.len; simpa using this
          obtain ⟨B', hB', c, fr, q1, q2, q3, q4, q5⟩ := hm.blk _ _ hg
          rw [hB] at hB'
          cases hB'
          obtain ⟨w', e1, e2⟩ := write_row (P := P) hm hg hB hc b2 b3 (by omega) (by omega)
          refine ⟨rfl, w', ?_, by rw [AMem.get_set]; exact e2⟩
          have hne : ¬ (v'.cells.size ≠ n) := by omega
          simp only [Instr.storeAt, Instr.sureAddr, storeVar, Sem.run_bind, Sem.run_pure, Result.andThen_ok, run_size hT hn]
          rw [if_neg hne]
          exact e1
        · cases h
      · cases h
  · cases h

/-! Append -/
theorem run_lenOf {x : AVal} {x' : Value} {esz n : Nat} {m : AMem} {cs : List AVal} (hx : VRel r x x') (h : sourceOf m esz x = some (n, cs)) (w1 : World) : (Builtin.lenOf x').run P w1 = .ok n w1 := by
  unfold sourceOf at h
  split at h
  · cases h; rw [hx.nslice_inv]; rfl
  · obtain ⟨B, a, c, hB, rfl, hc, hl, hr⟩ := hx.slice_inv
    split at h
    · split at h
      · split at h
        · cases h; rfl
        · cases h
      · cases h
    · cases h
  · obtain ⟨s', rfl, es⟩ := hx.str_inv
    split at h
    · cases h; rw [← es, data_size]; rfl
    · cases h
  · cases h

theorem cell?_heap {w1 : World} (h : w1.heap = w.heap) (a : Addr) : w1.cell? a = w.cell? a := by simp [World.cell?, h]

theorem MemRel.heap {next : Nat} {g : Nat → Option ABlk} {w1 : World} (hm : MemRel r next g w) (h : w1.heap = w.heap) : MemRel r next g w1 :=
  ⟨hm.fresh, fun b B e => by rw [h]; exact hm.inw b B e, fun b k e => let ⟨B, h1, h2⟩ := hm.blk b k e; ⟨B, h1, h2.mono r.le_refl (by rw [h])⟩, hm.inj, hm.whole⟩

/-- What is appended, read in whatever world has this heap. -/
theorem run_source {x : AVal} {x' : Value} {esz n : Nat} {m : AMem} {cs : List AVal} (hm : MemRel r m.next m.get w) (hx : VRel r x x') (h : sourceOf m esz x = some (n, cs)) :
    cs.length = n * esz ∧ cs.all AVal.one = true ∧ ∃ vs : List Value, VsRel r cs vs ∧ ∀ w1 : World, w1.heap = w.heap → (Builtin.firstCells esz n x').run P w1 = .ok vs.toArray w1 := by
  unfold sourceOf at h
  split at h
  · cases h
    rw [hx.nslice_inv]
    exact ⟨by simp, rfl, [], .nil r, fun w1 _ => rfl⟩
  · rename_i b o len e cap
    obtain ⟨B, a, c, hB, rfl, hc, hl, hr⟩ := hx.slice_inv
    split at h
    · rename_i he
      have he' : e = esz := Nat.eq_of_beq_eq_true he
      subst he'
      split at h
      · rename_i cs2 hrow
        split at h
        · rename_i hall
          cases h
          obtain ⟨vs, v1, v2, v3⟩ := sliceRow_ok (P := P) (k := n * e) hm hB (hr.imp id (·.1)) (fun h0 => Nat.mul_eq_zero.2 (.inl (by omega))) rfl hrow
          exact ⟨v2, hall, vs, v1, v3⟩
        · cases h
      · cases h
    · cases h
  · rename_i s
    obtain ⟨s', rfl, es⟩ := hx.str_inv
    split at h
    · cases h
      refine ⟨by simp, ?_, s'.data.toList.map fun b => Value.int .u8 b.toNat, ?_, fun w1 _ => ?_⟩
      · rw [List.all_eq_true]
        intro v hv
        obtain ⟨b, _, rfl⟩ := List.mem_map.1 hv
        rfl
      · rw [es]
        refine ⟨by simp, fun i v v' a b => ?_⟩
        rw [List.getElem?_map] at a b
        cases hs : s[i]? with
        | none => rw [hs] at a; cases a
        | some c => rw [hs] at a b; cases a; cases b; exact .int _ _
      · have hn : s.length = s'.size := by rw [← es, data_size]
        simp only [Builtin.firstCells, Sem.run_pure]
        congr 1
        apply Array.toList_inj.1
        rw [hn, Array.toList_map]
        have hx : s'.extract 0 s'.size = s' := by
          apply WideShapes.bytes_inj
          rw [Lib.extract_data, List.drop_zero, Nat.sub_zero, ← data_size, List.take_length]
        rw [hx]
    · cases h
  · cases h

def storeBase (base : Option Addr) (k : Nat) (l : List Value) : Sem Unit :=
  match base with
  | some a => storeCells (a.add k) l
  | none => pure ()

theorem append_fits {ts : Array TypeId} {ty st xt e : TypeId} {xd : TypeDesc} {i : TypeInfo} {x : Value} {base : Option Addr} {sLen sCap n : Nat} {news : List Value} {w' : World} {rest : List Value}
    {args : Array Value} (hargs : args.toList = .slice base sLen sCap :: x :: rest) (h0 : ts[0]? = some st) (h1 : ts[1]? = some xt) (hd : P.underlying st = some (.slice e)) (hx : P.underlying xt = some xd) (hxi : (∃ u, xd = .slice u) ∨ xd = .string)
    (hi : P.info? e = some i) (hl : (Builtin.lenOf x).run P w = .ok n w) (hf : (Builtin.firstCells i.size n x).run P w = .ok news.toArray w) (hcap : sLen + n ≤ sCap)
    (hst : ∀ a, base = some a → (storeCells (a.add (sLen * i.size)) news).run P w = .ok () w') (hno : base = none → w' = w) :
    (Builtin.append_ ts ty args).run P w = .ok (.slice base (sLen + n) sCap) w' := by
  have a0 : args[0]? = some (.slice base sLen sCap) := by rw [← Array.getElem?_toList, hargs]; rfl
  have a1 : args[1]? = some x := by rw [← Array.getElem?_toList, hargs]; rfl
  have hsz : (sizeOf e).run P w = .ok i.size w := by simp [sizeOf, typeInfo, hi]
  have key : (Builtin.append_ ts ty args).run P w = ((Builtin.firstCells i.size n x).run P w).andThen fun new w1 =>
      ((storeBase base (sLen * i.size) new.toList).run P w1).andThen fun _ w2 => .ok (.slice base (sLen + n) sCap) w2 := by
    unfold Builtin.append_
    rcases hxi with ⟨u, rfl⟩ | rfl <;> cases base <;> simp [h0, a0, a1, run_underlying hd, h1, hsz, run_underlying hx, hl, hcap, storeBase]
  rw [key, hf]
  cases base with
  | none => have e := hno rfl; subst e; rfl
  | some a => simp [storeBase, hst a rfl]

theorem append_grows {ts : Array TypeId} {ty st xt e : TypeId} {xd : TypeDesc} {i : TypeInfo} {x z : Value} {base : Option Addr} {sLen sCap n : Nat} {olds news : List Value} {rest : List Value}
    {args : Array Value} (hargs : args.toList = .slice base sLen sCap :: x :: rest) (h0 : ts[0]? = some st) (h1 : ts[1]? = some xt) (hd : P.underlying st = some (.slice e)) (hx : P.underlying xt = some xd) (hxi : (∃ u, xd = .slice u) ∨ xd = .string)
    (hi : P.info? e = some i) (hz : i.zero = some z) (hl : ∀ w1, (Builtin.lenOf x).run P w1 = .ok n w1) (hf : (Builtin.firstCells i.size n x).run P w.drew = .ok news.toArray w.drew)
    (hfo : (Builtin.firstCells i.size sLen (.slice base sLen sCap)).run P w.drew = .ok olds.toArray w.drew)
    (hcap : ¬ sLen + n ≤ sCap) (h63 : ((sLen + n : Nat) : Int) ≤ 9223372036854775807) (hfit : Builtin.nextslicecap (sLen + n) sCap * i.bytes ≤ 281474976710656) :
    (Builtin.append_ ts ty args).run P w = .ok (.slice (some ⟨w.heap.size, 0, none⟩) (sLen + n) (grownCap w (sLen + n) sCap e))
      (w.drew.alloc (.cells (olds.toArray ++ news.toArray ++ Builtin.zeroCells z.cells (grownCap w (sLen + n) sCap e - (sLen + n))) e)) := by
  have a0 : args[0]? = some (.slice base sLen sCap) := by rw [← Array.getElem?_toList, hargs]; rfl
  have a1 : args[1]? = some x := by rw [← Array.getElem?_toList, hargs]; rfl
  have hsz : ∀ w1, (sizeOf e).run P w1 = .ok i.size w1 := by intro w1; simp [sizeOf, typeInfo, hi]
  have hti : ∀ w1, (typeInfo e).run P w1 = .ok i w1 := by intro w1; simp [typeInfo, hi]
  have hzv : ∀ w1, (zeroValue e).run P w1 = .ok z w1 := by intro w1; simp [zeroValue, typeInfo, hi, hz]
  have h63' : ¬ (9223372036854775807 < ((sLen : Int) + (n : Int))) := by omega
  have h48' : ¬ (281474976710656 < Builtin.nextslicecap (sLen + n) sCap * i.bytes) := by omega
  have key : (Builtin.append_ ts ty args).run P w = ((Builtin.firstCells i.size sLen (.slice base sLen sCap)).run P w.drew).andThen fun old w1 =>
      ((Builtin.firstCells i.size n x).run P w1).andThen fun new w2 =>
        .ok (.slice (some ⟨w2.heap.size, 0, none⟩) (sLen + n) (grownCap w (sLen + n) sCap e)) { w2 with heap := w2.heap.push (.cells (old ++ new ++ Builtin.zeroCells z.cells (grownCap w (sLen + n) sCap e - (sLen + n))) e) } := by
    unfold Builtin.append_
    rcases hxi with ⟨u, rfl⟩ | rfl <;>
      simp [h0, a0, a1, run_underlying hd, h1, hsz, run_underlying hx, hl, hcap, hti, h63', h48', Question.forced, hzv, newRow, grownCap]
  rw [key, hfo, Result.andThen_ok, hf]
  rfl
end
end Ev
end Go.Proofs.YtfddpaljmihinaaGreatDoor
