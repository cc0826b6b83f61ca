/-
  The evaluator's append answers what the machine's does. (Conditions: the tables tell of the program what is so; the memories are related.)
-/
import Derived.Test.YtfddpaljmihinaaGreatDoorEvWrite3
namespace Go.Proofs.YtfddpaljmihinaaGreatDoor
namespace Ev
open Go

section
variable {P : Program} {r : Ren} {w : World} {T : Tab} (hT : TabOk T P)

theorem over_drop (vs cs : List AVal) (o k : Nat) (h : o + k ≤ vs.length) : ((over vs (o + k) cs).drop o).take (k + cs.length) = (vs.drop o).take k ++ cs := by
  unfold over
  apply List.ext_getElem?
  intro j
  rw [List.getElem?_take]
  by_cases c : j < k + cs.length
  · rw [if_pos c, List.getElem?_drop, get_over _ _ _ _ h, List.getElem?_append]
    have hl : ((vs.drop o).take k).length = k := by simp; omega
    rw [hl]
    by_cases c1 : j < k
    · rw [if_pos (by omega), if_pos c1, List.getElem?_take, if_pos c1, List.getElem?_drop]
    · rw [if_neg (by omega), if_pos (by omega), if_neg c1]
      congr 1; omega
  · rw [if_neg c]
    symm
    apply List.getElem?_eq_none
    simp
    omega

include hT in
theorem appendOp_ok {m m' : AMem} (hm : MemRel r m.next m.get w) {ts : Array TypeId} {ty : TypeId} {args : List AVal} {args' : Array Value} {v : AVal} (ha : VsRel r args args'.toList)
    (h : appendOp T m ts args = .val v m') : ∃ v' w' r', (Builtin.append_ ts ty args').run P w = .ok v' w' ∧ VRel r' v v' ∧ Step r m.next m.get w r' m'.next m'.get w' := by
  unfold appendOp at h
  split at h
  · rename_i s x st xt h0 h1
    obtain ⟨s', rest, es, hs, ha2⟩ := ha.cons_inv
    obtain ⟨x', rest2, ex, hx, ha3⟩ := ha2.cons_inv
    rw [ha3.nil_inv] at ex
    rw [ex] at es
    split at h
    · rename_i e xd hd hxd
      split at h
      · rename_i i z hxk hi hz
        have hxi : (∃ u, xd = .slice u) ∨ xd = .string := by
          cases xd <;> first | exact .inl ⟨_, rfl⟩ | exact .inr rfl | (simp at hxk)
        obtain ⟨z', hiz, hzz⟩ : ∃ z', i.zero = some z' ∧ z = absV z' := by
          unfold Tab.zero at hz
          rw [hi] at hz
          simp only at hz
          split at hz
          · rename_i z' hzz; cases hz; exact ⟨z', hzz, rfl⟩
          · cases hz
        have hzr : VRel r z z' := by rw [hzz]; exact absV_rel r z'
        split at h
        · rename_i n cs hzl hsrc
          rw [Bool.and_eq_true] at hzl
          have hzlen : z.cells.length = i.size := Nat.eq_of_beq_eq_true hzl.1
          have hzc := hzr.fine_cells hzl.2
          obtain ⟨s1, s2, news, s3, s4⟩ := run_source (P := P) hm hx hsrc
          have hlen := run_lenOf (P := P) hx hsrc
          have hi' := hT.info _ _ hi
          split at h
          · -- nothing is appended
            have hcs : cs = [] := List.length_eq_zero_iff.1 (by rw [s1]; simp)
            have hnews : news = [] := by rw [hcs] at s3; exact s3.nil_inv
            subst hnews
            split at h
            · cases h
              rw [hs.nslice_inv] at es
              exact ⟨.slice none 0 0, w, r, append_fits es h0 h1 (hT.und hd) (hT.und hxd) hxi hi' (hlen w) (s4 w rfl) (Nat.le_refl _) (fun a e => by cases e) (fun _ => rfl), .nslice, .refl hm⟩
            · rename_i b o len esz c
              cases h
              obtain ⟨B, a, k, hB, e1, hc, hl, hr⟩ := hs.slice_inv
              rw [e1] at es hs
              exact ⟨_, w, r, append_fits (w' := w) es h0 h1 (hT.und hd) (hT.und hxd) hxi hi' (hlen w) (s4 w rfl) hl (fun a _ => rfl) (fun e => by cases e), hs, .refl hm⟩
            · cases h
          · rename_i n'
            generalize hq : n'.succ = q at h s1 hsrc s4 hlen
            have hq0 : 0 < q := by omega
            split at h
            · -- onto nil
              split at h
              · rename_i hb
                cases h
                simp only [Bool.and_eq_true] at hb
                obtain ⟨⟨b1, b2⟩, b3⟩ := hb
                have b1 := Nat.le_of_ble_eq_true b1
                have b2 := Nat.le_of_ble_eq_true b2
                rw [hs.nslice_inv] at es
                obtain ⟨hn1, hn2⟩ := hm.none_at (Nat.le_refl m.next)
                obtain ⟨B, hB⟩ := grown_made (sLen := 0) (sCap := 0) (n := q) hm (e := e) hzc hzlen (VsRel.nil r) s3 (by simp) s1
                have hst := hB.new hm hn2
                refine ⟨_, _, r.ext m.next B, append_grows es h0 h1 (hT.und hd) (hT.und hxd) hxi hi' hiz hlen (s4 _ rfl) (olds := []) rfl (by omega) (by omega)
                  (growslice_fits (by omega) (by rw [Nat.zero_add]; omega)), ?_, ?_⟩
                · have := hB.val
                  simpa using this
                · rw [AMem.get_new]
                  simpa [AMem.new] using hst
              · cases h
            · rename_i b o len esz c
              obtain ⟨B, a, k, hB, e1, hc, hl, hr⟩ := hs.slice_inv
              rw [e1] at es
              split at h
              · cases h
              · rename_i hb
                simp only [Bool.and_eq_true] at hb
                obtain ⟨⟨⟨b0, b1⟩, b2⟩, b3⟩ := hb
                have b0 : esz = i.size := Nat.eq_of_beq_eq_true b0
                subst b0
                have b1 := Nat.le_of_ble_eq_true b1
                have b2 := Nat.le_of_ble_eq_true b2
                split at h
                · rename_i eb vs ro frz wh hg
                  split at h
                  · cases h
                  · rename_i hlv
                    have hlv := Nat.le_of_ble_eq_true hlv
                    have hlow := Cap.low_le hc
                    have hmul : (len + q) * i.size = len * i.size + q * i.size := Nat.add_mul _ _ _
                    split at h
                    · -- there is room for sure
                      rename_i hfit
                      have hfit := Nat.le_of_ble_eq_true hfit
                      split at h
                      · rename_i hrf
                        cases h
                        simp only [Bool.and_eq_true, Bool.not_eq_true'] at hrf
                        obtain ⟨hro, hfz⟩ := hrf
                        subst hro
                        have hfz := Nat.le_of_ble_eq_true hfz
                        rcases hr with hr | ⟨ha', hroom⟩
                        · omega
                        · have hk : (len + q) * i.size ≤ k * i.size := Nat.mul_le_mul_right _ (by omega)
                          obtain ⟨w', e2, e3⟩ := write_row (P := P) hm hg hB s3 s2 hfz hlv (by omega)
                          refine ⟨_, w', r, append_fits es h0 h1 (hT.und hd) (hT.und hxd) hxi hi' (hlen w) (s4 w rfl) (by omega) ?_ (fun e => by cases e), ?_, ?_⟩
                          · intro a2 e4
                            cases e4
                            rw [ha', Addr_add, Nat.add_assoc]
                            exact e2
                          · exact .slice b o _ i.size c B a k hB hc (by omega) (.inr ⟨ha', hroom⟩)
                          · rw [AMem.get_set]; exact e3
                      · cases h
                    · rename_i hnofit
                      have hnofit : ¬ len + q ≤ c.low := fun hle => by rw [Nat.ble_eq_true_of_le hle] at hnofit; cases hnofit
                      split at h
                      · cases h
                      · rename_i hold
                        -- what it held
                        have hrow : rowOf m.get b o (len * i.size) = some ((vs.drop o).take (len * i.size)) := by
                          unfold rowOf; rw [hg]; simp only; rw [Nat.ble_eq_true_of_le hlv]
                        obtain ⟨olds, o1, o2, o3⟩ := sliceRow_ok (P := P) (k := len * i.size) hm hB (hr.imp id (·.1)) (fun h0 => Nat.mul_eq_zero.2 (.inl (by omega))) rfl hrow
                        have grow : ¬ len + q ≤ k → ∃ B', Made r m.next w (.cells e ((vs.drop o).take (len * i.size) ++ cs) false 0 false) (.slice m.next 0 (len + q) i.size (.least (len + q)))
                            (.slice (some ⟨w.heap.size, 0, none⟩) (len + q) (grownCap w (len + q) k e))
                            (w.drew.alloc (.cells (olds.toArray ++ news.toArray ++ Builtin.zeroCells z'.cells (grownCap w (len + q) k e - (len + q))) e)) B' ∧
                            (Builtin.append_ ts ty args').run P w = .ok (.slice (some ⟨w.heap.size, 0, none⟩) (len + q) (grownCap w (len + q) k e))
                            (w.drew.alloc (.cells (olds.toArray ++ news.toArray ++ Builtin.zeroCells z'.cells (grownCap w (len + q) k e - (len + q))) e)) := by
                          intro hno
                          obtain ⟨B', hB'⟩ := grown_made (sLen := len) (sCap := k) (n := q) hm (e := e) hzc hzlen o1 s3 o2 s1
                          exact ⟨B', hB', append_grows es h0 h1 (hT.und hd) (hT.und hxd) hxi hi' hiz hlen (s4 _ rfl) (o3 _ rfl) hno (by omega) (growslice_fits (by omega) (by omega))⟩
                        obtain ⟨hn1, hn2⟩ := hm.none_at (Nat.le_refl m.next)
                        split at h
                        · -- its capacity is known: it grows
                          cases h
                          obtain ⟨B', hB', hrun⟩ := grow (by simp only [Cap.holds, Cap.low] at hc hnofit; omega)
                          refine ⟨_, _, r.ext m.next B', hrun, hB'.val, ?_⟩
                          rw [AMem.get_new]
                          exact hB'.new hm hn2
                        · -- it may grow
                          rename_i low
                          split at h
                          · rename_i hrf
                            cases h
                            simp only [Bool.and_eq_true, Bool.not_eq_true'] at hrf
                            obtain ⟨⟨hro, hfz⟩, heb⟩ := hrf
                            subst hro
                            have hfz := Nat.le_of_ble_eq_true hfz
                            have heb : eb = e := Nat.eq_of_beq_eq_true heb
                            subst heb
                            by_cases hcap : len + q ≤ k
                            · rcases hr with hr | ⟨ha', hroom⟩
                              · omega
                              · have hk : (len + q) * i.size ≤ k * i.size := Nat.mul_le_mul_right _ hcap
                                obtain ⟨w', e2, e3⟩ := write_row (P := P) hm hg hB s3 s2 hfz hlv (by omega)
                                have hmv := step_move (wh := wh) (vs := over vs (o + len * i.size) cs) (frz := frz) (e := eb) (o := o) (b := b) (B := B) e3.mem (by simp [upd]) hB
                                  ⟨len * i.size + cs.length, rfl⟩ (by simp [over]; omega)
                                rw [over_drop _ _ _ _ hlv] at hmv
                                refine ⟨_, w', r.ext m.next ⟨B.cb, B.base + o, B.size⟩, append_fits es h0 h1 (hT.und hd) (hT.und hxd) hxi hi' (hlen w) (s4 w rfl) hcap ?_ (fun e => by cases e), ?_, ?_⟩
                                · intro a2 e4
                                  cases e4
                                  rw [ha', Addr_add, Nat.add_assoc]
                                  exact e2
                                · refine .slice m.next 0 _ i.size _ _ a k (Ren.ext_same r m.next _) hcap hcap (.inr ⟨by rw [ha']; rfl, ?_⟩)
                                  simp only [Nat.add_zero]
                                  exact hroom
                                · have hst := e3.trans hmv
                                  have eg : (upd (killed (upd m.get b (.cells eb (over vs (o + len * i.size) cs) false frz wh)) b) m.next (.cells eb ((vs.drop o).take (len * i.size) ++ cs) false (frz - o) false)) =
                                      ((m.kill b).new (.cells eb ((vs.drop o).take (len * i.size) ++ cs) false (frz - o) false)).get := by
                                    rw [AMem.get_new, AMem.get_kill]
                                    show _ = upd (fun j => if j = b then none else m.get j) m.next _
                                    funext j
                                    simp only [upd, killed]
                                    by_cases j1 : j = m.next
                                    · rw [if_pos j1, if_pos j1]
                                    · rw [if_neg j1, if_neg j1]
                                      by_cases j2 : j = b
                                      · rw [if_pos j2, if_pos j2]
                                      · rw [if_neg j2, if_neg j2, if_neg j2]
                                  rw [← eg]
                                  exact hst
                            · obtain ⟨B', hB', hrun⟩ := grow hcap
                              have hk1 := Step.sub hm (killed_sub m.get b)
                              have hB2 : Made r m.next w (.cells eb ((vs.drop o).take (len * i.size) ++ cs) false (frz - o) false) _ _ _ B' := ⟨hB'.cb, hB'.heap, hB'.os, hB'.tape, hB'.output, by
                                obtain ⟨c1, fr1, t1, t2, t3, t4, t5⟩ := hB'.blk
                                exact ⟨c1, fr1, t1, t2, t3, t4, fun _ j u1 u2 => t5 rfl j (by omega) u2⟩, hB'.val, fun e vs ro frz h => by cases h⟩
                              have hk2 := hB2.new hk1.mem (by simp [killed, hn2])
                              refine ⟨_, _, r.ext m.next B', hrun, hB'.val, ?_⟩
                              have hst := hk1.trans hk2
                              rw [AMem.get_new, AMem.get_kill]
                              exact hst
                          · cases h
                · cases h
            · cases h
        · cases h
      · cases h
    · cases h
  · cases h
end
end Ev
end Go.Proofs.YtfddpaljmihinaaGreatDoor
