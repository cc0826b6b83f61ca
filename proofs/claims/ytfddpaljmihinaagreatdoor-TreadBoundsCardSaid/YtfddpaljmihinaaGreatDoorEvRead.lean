/-
  What reads the abstract memory reads what the machine reads. (Conditions: the tables tell of the program what is so; the memories are related.)
-/
import Derived.Test.YtfddpaljmihinaaGreatDoorEvMem
import Derived.Laws.BytesString
namespace Go.Proofs.YtfddpaljmihinaaGreatDoor
namespace Ev
open Go
variable {D : Keep}

section
variable {P : Program} {r : Ren} {next : Nat} {g : Nat → Option ABlk} {w : World}

theorem exec_builtin {a : Act} {o : Oper} {c : Call} {b : Builtin} (ho : o.op = .call c) (hc : c.callee = .builtin b) :
    ∃ cs, execOp a.eval o = builtin b c.argTypes o.type cs (c.args.map a.eval) := ⟨_, by simp only [execOp, ho, resolve, hc]; rfl⟩

theorem bytesOf_ok : ∀ {cs : List AVal} {l : List UInt8} {vs : List Value}, VsRel r cs vs → bytesOf cs = some l →
    ∃ ns : List Int, vs = ns.map (Value.int .u8) ∧ l = ns.map fun n => UInt8.ofNat n.toNat := by
  intro cs
  induction cs with
  | nil => intro l vs h e; cases e; exact ⟨[], h.nil_inv, rfl⟩
  | cons c cs ih =>
    intro l vs h e
    obtain ⟨v, vs', rfl, hv, hr⟩ := h.cons_inv
    unfold bytesOf at e
    split at e
    · cases ‹_ :: _ = []›
    · rename_i n rest heq
      cases heq
      split at e
      · rename_i l' hl
        cases e
        obtain ⟨ns, e1, e2⟩ := ih hr hl
        exact ⟨n :: ns, by rw [hv.int_inv, e1]; rfl, by rw [e2]; rfl⟩
      · cases e
    · cases e

theorem foldl_push : ∀ (ns : List Int) (s : ByteArray), (ns.foldl (fun r n => r.push (UInt8.ofNat n.toNat)) s).data.toList = s.data.toList ++ ns.map fun n => UInt8.ofNat n.toNat := by
  intro ns
  induction ns with
  | nil => intro s; simp
  | cons n ns ih => intro s; simp only [List.foldl_cons, ih]; simp [ByteArray.push]

/-- The cells of a slice, whatever its address where it is empty. -/
theorem sliceRow_ok (hm : MemRel r next g w) {b o n k : Nat} {cs : List AVal} {B : Blk} {a : Addr} {c : Nat} (hB : r.at_ b = some B)
    (ha : c = 0 ∨ a = ⟨B.cb, B.base + o, none⟩) (hk : c = 0 → k = 0) (hn : n = k) (h : rowOf g b o n = some cs) :
    ∃ vs : List Value, VsRel r cs vs ∧ cs.length = n ∧ ∀ w1 : World, w1.heap = w.heap → (loadCells a k).run P w1 = .ok vs.toArray w1 := by
  subst hn
  obtain ⟨vs, h1, h2, h3⟩ := row_ok (P := P) hm hB h
  rcases ha with h0 | h0
  · have hk0 := hk h0
    subst hk0
    have : cs = [] := List.length_eq_zero_iff.1 h2
    subst this
    have := h1.nil_inv
    subst this
    exact ⟨[], h1, rfl, fun _ _ => rfl⟩
  · subst h0
    exact ⟨vs, h1, h2, h3⟩

theorem run_getMap {b : Nat} {es : Array MapEntry} {clock : Nat} (h : w.heap[b]? = some (.map es clock)) : (getObj b).run P w = .ok (.map es clock) w := by
  simp [getObj, Sem.run, h]
theorem run_getIter {b : Nat} {s : ByteArray} {pos : Nat} (h : w.heap[b]? = some (.stringIter s pos)) : (getObj b).run P w = .ok (.stringIter s pos) w := by
  simp [getObj, Sem.run, h]

theorem keyEq_ok {d : TypeDesc} {x y : AVal} {x' y' : Value} {b : Bool} (hx : VRel r x x') (hy : VRel r y y') (h : keyEq d x y = some b) : Instr.sameNow d x' y' = some b := by
  unfold keyEq at h
  split at h
  · rename_i k a k' c
    by_cases e : k = k'
    · rw [if_pos e] at h; cases h; subst e; rw [hx.int_inv, hy.int_inv]; simp [Instr.sameNow]
    · rw [if_neg e] at h; cases h
  · cases h
    obtain ⟨s1, rfl, e1⟩ := hx.str_inv
    obtain ⟨s2, rfl, e2⟩ := hy.str_inv
    simp only [Instr.sameNow]
    rw [bytesEq_eq, ← e1, ← e2, string_beq]
  · cases h; rw [hx.bool_inv, hy.bool_inv]; rfl
  · cases h

theorem EntRel.head {e : AVal × AVal} {e' : MapEntry} {es : List (AVal × AVal)} {es' : List MapEntry} (h : EntRel r (e :: es) (e' :: es')) : VRel r e.1 e'.key ∧ VRel r e.2 e'.val := h.2 0 e e' rfl rfl
theorem EntRel.tail {e : AVal × AVal} {e' : MapEntry} {es : List (AVal × AVal)} {es' : List MapEntry} (h : EntRel r (e :: es) (e' :: es')) : EntRel r es es' :=
  ⟨by simpa using h.1, fun i u u' a b => h.2 (i + 1) u u' (by simpa using a) (by simpa using b)⟩

theorem findKey_ok {d : TypeDesc} {x : AVal} {x' : Value} (hx : VRel r x x') : ∀ {es : List (AVal × AVal)} {es' : List MapEntry} {i : Nat} {res : Option (Nat × AVal)},
    EntRel r es es' → findKey d x es i = some res →
    (res = none ∧ Instr.findNow d x' es' i = some none) ∨ ∃ j v v', res = some (j, v) ∧ Instr.findNow d x' es' i = some (some (j, v')) ∧ VRel r v v' ∧ i ≤ j ∧ j < i + es.length := by
  intro es
  induction es with
  | nil =>
    intro es' i res h e
    have : es' = [] := by have := h.1; simpa using this
    subst this
    cases e
    exact .inl ⟨rfl, rfl⟩
  | cons p es ih =>
    intro es' i res h e
    cases es' with
    | nil => have := h.1; simp at this
    | cons p' es' =>
      obtain ⟨k, v⟩ := p
      simp only [findKey] at e
      have hh := h.head
      split at e
      · rename_i hk
        cases e
        exact .inr ⟨i, v, p'.val, rfl, by simp [Instr.findNow, keyEq_ok hx hh.1 hk], hh.2, Nat.le_refl _, by simp⟩
      · rename_i hk
        rcases ih h.tail e with ⟨h1, h2⟩ | ⟨j, u, u', h1, h2, h3, h4, h5⟩
        · exact .inl ⟨h1, by simp [Instr.findNow, keyEq_ok hx hh.1 hk, h2]⟩
        · exact .inr ⟨j, u, u', h1, by simp [Instr.findNow, keyEq_ok hx hh.1 hk, h2], h3, by omega, by simp; omega⟩
      · cases e

theorem checkKey_ok {d : TypeDesc} {x : AVal} {x' : Value} {t : TypeId} (n : Nat) (emp : Bool) (hu : P.underlying t = some d) (hx : VRel r x x') (h : keyFits d x = true) :
    (Instr.checkKey emp (n + 1) t x').run P w = .ok () w := by
  unfold keyFits at h
  split at h
  · obtain ⟨s, rfl, _⟩ := hx.str_inv; simp [Instr.checkKey, run_underlying hu]
  · rw [hx.int_inv]; simp [Instr.checkKey, run_underlying hu]
  · rw [hx.bool_inv]; simp [Instr.checkKey, run_underlying hu]
  · cases h

variable {T : Tab} (hT : TabOk T P)

theorem entries_ok (hm : MemRel r next g w) {x : AVal} {x' : Value} {es : List (AVal × AVal)} (hx : VRel r x x') (h : entriesOf g x = some es) :
    (x' = .map none ∧ es = []) ∨ ∃ b B es' clock, x = .map b ∧ r.at_ b = some B ∧ g b = some (.map es) ∧ x' = .map (some B.cb) ∧ w.heap[B.cb]? = some (.map es' clock) ∧ EntRel r es es'.toList := by
  unfold entriesOf at h
  split at h
  · cases h; exact .inl ⟨hx.nmap_inv, rfl⟩
  · rename_i b
    obtain ⟨B, hB, rfl⟩ := hx.map_inv
    split at h
    · rename_i es2 hg
      cases h
      obtain ⟨B', hB', es', clock, h1, h2, _⟩ := hm.blk _ _ hg
      rw [hB] at hB'
      cases hB'
      exact .inr ⟨b, B, es', clock, rfl, hB, hg, rfl, h1, h2⟩
    · cases h
  · cases h

theorem lookup_run {t kt et : TypeId} {x' k' z' : Value} {ok : Bool} {es' : Array MapEntry} {res : Option (Nat × Value)}
    (hx : (x' = .map none ∧ es' = #[]) ∨ ∃ b clock, x' = .map (some b) ∧ w.heap[b]? = some (.map es' clock)) (hd : P.underlying t = some (.map kt et))
    (hck : (Instr.checkKey es'.isEmpty 10000 kt k').run P w = .ok () w) (hf : (Instr.findKey kt k' es'.toList).run P w = .ok res w)
    (hz : (zeroValue et).run P w = .ok z' w) :
    (Instr.lookup t x' k' ok).run P w = .ok (if ok then .tuple #[(match res with | some (_, v) => v | none => z'), .bool res.isSome] else (match res with | some (_, v) => v | none => z')) w := by
  rcases hx with ⟨rfl, rfl⟩ | ⟨b, clock, rfl, hh⟩
  · have hck : (Instr.checkKey true 10000 kt k').run P w = .ok () w := hck
    have hf : (Instr.findKey kt k' []).run P w = .ok res w := hf
    cases res with
    | none => cases ok <;> simp [Instr.lookup, run_underlying hd, hck, hf, hz]
    | some p => cases ok <;> simp [Instr.lookup, run_underlying hd, hck, hf]
  · cases res with
    | none => cases ok <;> simp [Instr.lookup, run_underlying hd, run_getMap hh, hck, hf, hz]
    | some p => cases ok <;> simp [Instr.lookup, run_underlying hd, run_getMap hh, hck, hf]

include hT in
theorem lookupOp_ok (hm : MemRel r next g w) {t : TypeId} {x k : AVal} {x' k' : Value} {ok : Bool} {v : AVal} (hx : VRel r x x') (hk : VRel r k k')
    (h : lookupOp T g t x k ok = some v) : ∃ v', (Instr.lookup t x' k' ok).run P w = .ok v' w ∧ VRel r v v' := by
  obtain ⟨N, hN⟩ : ∃ N, (10000 : Nat) = N + 1 := ⟨9999, rfl⟩
  have two : ∀ {a b : AVal} {a' b' : Value}, VRel r a a' → VRel r b b' → VRel r (.tuple [a, b]) (.tuple #[a', b']) := fun h k => .tupleOf (.cons h (.cons k (.nil r)))
  unfold lookupOp at h
  split at h
  · rename_i kt et hd
    split at h
    · rename_i d z hd2 hz
      split at h
      · cases h
      · rename_i es hes
        split at h
        · cases h
        · rename_i hfit
          obtain ⟨z', ez, hzz⟩ := run_zero hT hz w
          have hzr : VRel r z z' := by rw [hzz]; exact absV_rel r z'
          obtain ⟨es', hx2, hrel⟩ : ∃ es' : Array MapEntry, ((x' = .map none ∧ es' = #[]) ∨ ∃ b clock, x' = .map (some b) ∧ w.heap[b]? = some (.map es' clock)) ∧ EntRel r es es'.toList := by
            rcases entries_ok hm hx hes with ⟨h1, h2⟩ | ⟨b, B, es', clock, _, _, _, h1, h2, h3⟩
            · exact ⟨#[], .inl ⟨h1, rfl⟩, by rw [h2]; exact ⟨rfl, fun i e e' a => by simp at a⟩⟩
            · exact ⟨es', .inr ⟨_, clock, h1, h2⟩, h3⟩
          have hck := checkKey_ok (P := P) (w := w) N es'.isEmpty (hT.und hd2) hk hfit
          rw [← hN] at hck
          split at h
          · rename_i j u hf
            cases h
            rcases findKey_ok hk hrel hf with ⟨h1, _⟩ | ⟨j', u0, u', h1, h2, h3, _⟩
            · cases h1
            · cases h1
              have hfk : (Instr.findKey kt k' es'.toList).run P w = .ok (some (j, u')) w := by simp [Instr.findKey, run_und hT hd2, h2]
              refine ⟨_, lookup_run hx2 (hT.und hd) hck hfk ez, ?_⟩
              cases ok with
              | true => exact two h3 (.bool _)
              | false => exact h3
          · rename_i hf
            cases h
            rcases findKey_ok hk hrel hf with ⟨_, h2⟩ | ⟨j', u0, u', h1, _⟩
            · have hfk : (Instr.findKey kt k' es'.toList).run P w = .ok none w := by simp [Instr.findKey, run_und hT hd2, h2]
              refine ⟨_, lookup_run hx2 (hT.und hd) hck hfk ez, ?_⟩
              cases ok with
              | true => exact two hzr (.bool _)
              | false => exact hzr
            · cases h1
          · cases h
    · cases h
  · cases h

include hT in
theorem sliceArr_ok (hm : MemRel r next g w) {t : TypeId} {x : AVal} {x' : Value} {lo hi mx : Option AVal} {lo' hi' mx' : Option Value} {v : AVal}
    (hx : VRel r x x') (hlo : ORel r lo lo') (hhi : ORel r hi hi') (hmx : ORel r mx mx') (h : sliceArr T g t x lo hi mx = some v) :
    ∃ v', (Instr.sliceAt t x' lo' hi' mx').run P w = .ok v' w ∧ VRel r v v' := by
  unfold sliceArr at h
  split at h
  · rename_i n e b o hd
    obtain ⟨B, hB, rfl⟩ := hx.ptr_inv
    split at h
    · rename_i esz eb vs ro frz wh hn hg
      split at h
      · rename_i hl
        have hl' := Nat.le_of_ble_eq_true hl
        cases hmx with
        | some _ => simp at h
        | none =>
          simp only at h
          split at h
          · rename_i l h' hb
            cases h
            obtain ⟨b1, b2, b3⟩ := bounds2_ok (P := P) (w := w) (isSlice := false) hlo hhi hb (Nat.le_refl _) (Nat.le_refl _)
            obtain ⟨B', hB', c, fr, h1, h2, h3, h4, h5⟩ := hm.blk _ _ hg
            rw [hB] at hB'
            cases hB'
            refine ⟨_, by simp [Instr.sliceAt, run_und hT hd, Instr.sureAddr, b1, run_size hT hn]; rfl, ?_⟩
            have := piece_rel (r := r) (b := b) (o := o) (esz := esz) (B := B) (a := ⟨B.cb, B.base + o, none⟩) (c := n) (l := l) (h := h') (m := n) (cap' := .exact (n - l)) hB
              (.inr ⟨rfl, by omega⟩) b2 b3 (Nat.le_refl _) rfl
            by_cases e : n = l
            · rw [if_pos e] at this ⊢; exact this
            · rw [if_neg e] at this ⊢; exact this
          · cases h
      · cases h
    · cases h
  · cases h

theorem shape_of {B : Blk} {c : Array Value} {e : TypeId} {fr : Nat × Nat} (h : w.heap[B.cb]? = some (.cells c e fr)) : w.shape? B.cb = some (e, c.size) := by
  simp [World.shape?, h]

include hT in
theorem unsafeConv_ok (hm : MemRel r next g w) {src dst : TypeId} {x : AVal} {x' : Value} {v : AVal} (hx : VRel r x x') (h : unsafeConv T g src dst x = some v) :
    ∃ v', (Go.convert src dst x').run P w = .ok v' w ∧ VRel r v v' := by
  unfold unsafeConv at h
  split at h
  · rename_i t hs hd
    split at h
    · cases h
      rw [hx.nptr_inv]
      exact ⟨.pointer none, by simp [Go.convert, run_und hT hs, run_und hT hd, Conv.unsafePointer], .nptr⟩
    · rename_i b o
      obtain ⟨B, hB, rfl⟩ := hx.ptr_inv
      split at h
      · rename_i e vs ro frz wh n hg hn
        split at h
        · rename_i hl
          cases h
          have hl' : o < vs.length := Nat.le_of_ble_eq_true hl
          obtain ⟨B', hB', c, fr, q1, q2, q3, q4, q5⟩ := hm.blk _ _ hg
          rw [hB] at hB'
          cases hB'
          have hsh := shape_of q1
          have hno : ¬ (c.size ≤ B.base + o) := by omega
          refine ⟨_, ?_, .ptr b o B hB⟩
          simp [Go.convert, run_und hT hs, run_und hT hd, Conv.unsafePointer, Conv.seenAt, viewAt, hsh, cellsIn, run_size hT hn, hno]
        · cases h
      · cases h
    · cases h
  · rename_i u hs hd
    split at h
    · cases h
      rw [hx.nptr_inv]
      exact ⟨.pointer none, by simp [Go.convert, run_und hT hs, run_und hT hd, Conv.unsafePointer], .nptr⟩
    · rename_i b o
      obtain ⟨B, hB, rfl⟩ := hx.ptr_inv
      split at h
      · rename_i e vs ro frz n hg hn
        split at h
        · rename_i hl
          cases h
          obtain ⟨B', hB', c, fr, q1, q2, q3, q4, q5⟩ := hm.blk _ _ hg
          rw [hB] at hB'
          cases hB'
          obtain ⟨z1, z2⟩ := hm.whole b B _ _ _ _ hg hB
          have hsh := shape_of q1
          have hva : (variablesAt ⟨B.cb, B.base + o, none⟩ u 1).run P w = .ok true w := by
            rw [hT.prog] at hl
            simp only [variablesAt, Sem.run_bind, run_program, Result.andThen_ok, run_shape, hsh, Sem.run_pure]
            rw [z1, q2, z2, Nat.zero_add, hl]
          have hsa : (Conv.seenAt ⟨B.cb, B.base + o, none⟩).run P w = .ok ⟨B.cb, B.base + o, none⟩ w := by simp [Conv.seenAt, viewAt, hsh]
          have hn := run_size hT hn w
          refine ⟨_, ?_, .ptr b o B hB⟩
          have e1 : (Go.convert src dst (.pointer (some ⟨B.cb, B.base + o, none⟩))).run P w = (Conv.unsafePointer src dst (.pointer (some ⟨B.cb, B.base + o, none⟩))).run P w := by
            simp [Go.convert, run_und hT hs, run_und hT hd]
          rw [e1]
          by_cases hz : n = 0
          · subst hz
            simp [Conv.unsafePointer, run_und hT hs, run_und hT hd, hsa, hn, hva]
          · simp [Conv.unsafePointer, run_und hT hs, run_und hT hd, hsa, hn, hz, hva]
        · cases h
      · cases h
    · cases h
  · cases h

include hT in
/-- THE READING OPERATIONS. -/
theorem evR_ok {n : Nat} {t : Tree AVal} {a : Act} {o : Oper} {v : AVal} (hg : GlobOk T r) (ht : TRel D r t n a) (hm : MemRel r next g w) (h : evR T t g o.op = some v) :
    GivesV P a o w r v w := by
  have E := fun x => ev_rel hg ht x
  cases ho : o.op with
  | load u x =>
    rw [ho] at h
    exact givesV_of w (by simp only [execOp, ho]) (loadOp_ok hT hm (E x) h)
  | lookup mt x k ok =>
    rw [ho] at h
    exact givesV_of w (by simp only [execOp, ho]) (lookupOp_ok hT hm (E x) (E k) h)
  | slice xt x lo hi mx =>
    rw [ho] at h
    exact givesV_of w (by simp only [execOp, ho]) (sliceArr_ok hT hm (E x) (oRel hg ht lo) (oRel hg ht hi) (oRel hg ht mx) h)
  | convert s d x =>
    rw [ho] at h
    simp only [evR] at h
    split at h
    · rename_i e x0 hs hd
      have hx := E x
      split at h
      · rename_i heu hxx
        cases h
        rw [hxx] at hx
        refine givesV_of w (x := Go.convert s d (a.eval x)) (by simp only [execOp, ho]) ⟨.string .empty, ?_, .str _ _ rfl⟩
        rw [hx.nslice_inv]
        simp [Go.convert, run_und hT hs, run_und hT hd, run_und hT heu, Conv.bytesToString]
      · rename_i b o' len cap heu hxx
        rw [hxx] at hx
        obtain ⟨B, ad, c, hB, e1, hc, hl, hr⟩ := hx.slice_inv
        split at h
        · rename_i cs hrow
          cases hby : bytesOf cs with
          | none => rw [hby] at h; cases h
          | some l =>
            rw [hby] at h
            cases h
            obtain ⟨vs, v1, v2, v3⟩ := sliceRow_ok (P := P) hm (a := ad) (k := len) hB (hr.imp id (·.1)) (fun h0 => by omega) rfl hrow
            obtain ⟨ns, n1, n2⟩ := bytesOf_ok v1 hby
            have v3 := v3 w rfl
            rw [n1] at v3
            refine givesV_of w (x := Go.convert s d (a.eval x)) (by simp only [execOp, ho]) ⟨.string (ns.foldl (fun r n => r.push (UInt8.ofNat n.toNat)) ByteArray.empty), ?_, .str _ _ ?_⟩
            · rw [e1, run_convert_bytes_string w s d x0 _ _ _ (hT.und hs) (hT.und heu) (hT.und hd)]
              exact run_bytesToString w ad len c ns v3
            · rw [foldl_push, n2]; rfl
        · cases h
      · cases h
    · exact givesV_of w (x := Go.convert s d (a.eval x)) (by simp only [execOp, ho]) (unsafeConv_ok hT hm (E x) h)
  | call c =>
    rw [ho] at h
    simp only [evR] at h
    split at h
    · rename_i b rest hc hargs
      split at h
      · rename_i mt hmt
        split at h
        · rename_i kt et hd
          split at h
          · rename_i es hgb
            cases h
            have ha := evList_rel hg ht c.args
            rw [hargs] at ha
            obtain ⟨x', rest', e, hx, _⟩ := ha.cons_inv
            obtain ⟨B, hB, rfl⟩ := hx.map_inv
            obtain ⟨B', hB', es', clock, h1, h2, _⟩ := hm.blk _ _ hgb
            rw [hB] at hB'
            cases hB'
            have h3 : (c.args.map a.eval)[0]? = some (.map (some B.cb)) := by rw [← Array.getElem?_toList, e]; rfl
            have hl : es'.size = es.length := by have := h2.1; simpa using this
            obtain ⟨cs, e0⟩ := exec_builtin (a := a) ho hc
            refine ⟨.int .i64 es.length, ?_, .int _ _⟩
            rw [e0, ← hl]
            simp only [builtin, Builtin.len_, hmt, h3]
            simp [run_und hT hd, run_getMap h1, goInt]
          · cases h
        · cases h
      · cases h
    · cases h
  | _ => rw [ho] at h; cases h
end
end Ev
end Go.Proofs.YtfddpaljmihinaaGreatDoor
