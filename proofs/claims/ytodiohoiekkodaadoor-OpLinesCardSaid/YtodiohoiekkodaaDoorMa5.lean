/- The walks of op.Plain where there is a word: the subscriber's bounds. op.Plain, whatever the operation. strconv.Itoa and strings.Join in the words of these walks. -/
import Derived.Test.YtodiohoiekkodaaDoorMa4
import Derived.Test.YtodiohoiekkodaaDoorMa2
import Derived.Test.YtodiohoiekkodaaDoorMa1
section
set_option linter.unusedVariables false
attribute [local go_sem high] Go.Proofs.YtodiohoiekkodaaDoor.eqOp
namespace Go.Proofs.YtodiohoiekkodaaDoor.Op
open Go.RowKit Go.Proofs.YtodiohoiekkodaaDoor.Bd Go.Proofs.YtodiohoiekkodaaDoor.Sp

set_option maxHeartbeats 4000000 in
set_option maxRecDepth 100000 in
theorem plain_less (k sub : Int) (t p : ByteArray) (keep : Bool) (w : World) (hn : (nameOf k keep).toList.isEmpty = false) (hS : (toldS k sub == sub) = true) (hT : ((toldT k t).toList == t.toList) = true) (hP : ((toldP k p).toList == p.toList) = true) (h0 : decide ((0 : Int) ≤ sub) = false) :
    Calls Tryd.prog 12 #[opV k sub t p keep] w fun e w' => e = .returned (.bool false) ∧ Below w.heap.size w w' := by
  have q0 : OpAt w.heap.size k sub t p keep w (w.alloc (.cells #[.int .i64 k, .int .i64 sub, .string t, .string p, .bool keep] 23)).drew := ⟨by go_simp, by go_simp, by go_simp, by go_simp, by go_simp, ((Below.refl _ w).alloc (Nat.le_refl _) _).drew⟩
  go_enter Tryd.func12, Tryd.ntmps12
  go_wp2
  first | go_region_with (first
     | (go_at_call 30; refine (name_any _ _ _ _ _ _).mono ?_; rintro e w' ⟨rfl, hb⟩; have q := keep_op hb q0; clear hb; have qq := q; unfold OpAt at qq; obtain ⟨r0, r1, r2, r3, r4, r5⟩ := qq)
     | (go_at_call 36; refine (told_any _ _ _ _ _ _).mono ?_; rintro e w' ⟨rfl, hb⟩; have q2 := keep_op hb q; clear hb; have qq := q2; unfold OpAt at qq; obtain ⟨s0, s1, s2, s3, s4, s5⟩ := qq)) | fail
  all_goals
    go_wp2
    go_ret
    exact ⟨rfl, by assumption⟩

set_option maxHeartbeats 4000000 in
set_option maxRecDepth 100000 in
theorem plain_great (k sub : Int) (t p : ByteArray) (keep : Bool) (w : World) (hn : (nameOf k keep).toList.isEmpty = false) (hS : (toldS k sub == sub) = true) (hT : ((toldT k t).toList == t.toList) = true) (hP : ((toldP k p).toList == p.toList) = true) (h0 : decide ((0 : Int) ≤ sub) = true) (h1 : decide (sub ≤ (9999 : Int)) = false) :
    Calls Tryd.prog 12 #[opV k sub t p keep] w fun e w' => e = .returned (.bool false) ∧ Below w.heap.size w w' := by
  have q0 : OpAt w.heap.size k sub t p keep w (w.alloc (.cells #[.int .i64 k, .int .i64 sub, .string t, .string p, .bool keep] 23)).drew := ⟨by go_simp, by go_simp, by go_simp, by go_simp, by go_simp, ((Below.refl _ w).alloc (Nat.le_refl _) _).drew⟩
  go_enter Tryd.func12, Tryd.ntmps12
  go_wp2
  first | go_region_with (first
     | (go_at_call 30; refine (name_any _ _ _ _ _ _).mono ?_; rintro e w' ⟨rfl, hb⟩; have q := keep_op hb q0; clear hb; have qq := q; unfold OpAt at qq; obtain ⟨r0, r1, r2, r3, r4, r5⟩ := qq)
     | (go_at_call 36; refine (told_any _ _ _ _ _ _).mono ?_; rintro e w' ⟨rfl, hb⟩; have q2 := keep_op hb q; clear hb; have qq := q2; unfold OpAt at qq; obtain ⟨s0, s1, s2, s3, s4, s5⟩ := qq)) | fail
  all_goals
    go_wp2
    go_ret
    exact ⟨rfl, by assumption⟩

set_option maxHeartbeats 4000000 in
set_option maxRecDepth 100000 in
theorem plain_yes (k sub : Int) (t p : ByteArray) (keep : Bool) (w : World) (hn : (nameOf k keep).toList.isEmpty = false) (hS : (toldS k sub == sub) = true) (hT : ((toldT k t).toList == t.toList) = true) (hP : ((toldP k p).toList == p.toList) = true) (h0 : decide ((0 : Int) ≤ sub) = true) (h1 : decide (sub ≤ (9999 : Int)) = true) :
    Calls Tryd.prog 12 #[opV k sub t p keep] w fun e w' => e = .returned (.bool true) ∧ Below w.heap.size w w' := by
  have q0 : OpAt w.heap.size k sub t p keep w (w.alloc (.cells #[.int .i64 k, .int .i64 sub, .string t, .string p, .bool keep] 23)).drew := ⟨by go_simp, by go_simp, by go_simp, by go_simp, by go_simp, ((Below.refl _ w).alloc (Nat.le_refl _) _).drew⟩
  go_enter Tryd.func12, Tryd.ntmps12
  go_wp2
  first | go_region_with (first
     | (go_at_call 30; refine (name_any _ _ _ _ _ _).mono ?_; rintro e w' ⟨rfl, hb⟩; have q := keep_op hb q0; clear hb; have qq := q; unfold OpAt at qq; obtain ⟨r0, r1, r2, r3, r4, r5⟩ := qq)
     | (go_at_call 36; refine (told_any _ _ _ _ _ _).mono ?_; rintro e w' ⟨rfl, hb⟩; have q2 := keep_op hb q; clear hb; have qq := q2; unfold OpAt at qq; obtain ⟨s0, s1, s2, s3, s4, s5⟩ := qq)) | fail
  all_goals
    go_wp2
    go_ret
    exact ⟨rfl, by assumption⟩

end Go.Proofs.YtodiohoiekkodaaDoor.Op
end

section
set_option linter.unusedVariables false
namespace Go.Proofs.YtodiohoiekkodaaDoor.Op
open Go.RowKit Go.Proofs.YtodiohoiekkodaaDoor.Bd Go.Proofs.YtodiohoiekkodaaDoor.Sp
theorem plain_any (k sub : Int) (t p : ByteArray) (keep : Bool) (w : World) :
    Calls Tryd.prog 12 #[opV k sub t p keep] w fun e w' => e = .returned (.bool (plainOK k sub t p keep)) ∧ Below w.heap.size w w' := by
  by_cases hn : nameOf k keep = ⟨#[]⟩
  · have e : plainOK k sub t p keep = false := by simp [plainOK, hn, bytes_toList]
    rw [e]; exact plain_noname k sub t p keep w hn
  have hn2 : (nameOf k keep).toList.isEmpty = false := by
    rw [bytes_toList]
    cases h : (nameOf k keep).data.toList with
    | nil => exact absurd (by rcases hh : nameOf k keep with ⟨⟨l⟩⟩; rw [hh] at h; simp at h; rw [h]) hn
    | cons _ _ => rfl
  cases hS : (toldS k sub == sub) with
  | false =>
    have e : plainOK k sub t p keep = false := by simp only [plainOK, hS]; simp
    rw [e]; exact plain_sub k sub t p keep w hn2 hS
  | true =>
    cases hT : ((toldT k t).toList == t.toList) with
    | false =>
      have e : plainOK k sub t p keep = false := by simp only [plainOK, hS, hT]; simp
      rw [e]; exact plain_text k sub t p keep w hn2 hS hT
    | true =>
      cases hP : ((toldP k p).toList == p.toList) with
      | false =>
        have e : plainOK k sub t p keep = false := by simp only [plainOK, hS, hT, hP]; simp
        rw [e]; exact plain_payload k sub t p keep w hn2 hS hT hP
      | true =>
        cases h0 : decide ((0 : Int) ≤ sub) with
        | false =>
          have e : plainOK k sub t p keep = false := by simp only [plainOK, hS, hT, hP, h0]; simp
          rw [e]; exact plain_less k sub t p keep w hn2 hS hT hP h0
        | true =>
          cases h1 : decide (sub ≤ (9999 : Int)) with
          | false =>
            have e : plainOK k sub t p keep = false := by simp only [plainOK, hS, hT, hP, h0, h1]; simp
            rw [e]; exact plain_great k sub t p keep w hn2 hS hT hP h0 h1
          | true =>
            have e : plainOK k sub t p keep = true := by simp only [plainOK, hS, hT, hP, h0, h1, hn2]; rfl
            rw [e]; exact plain_yes k sub t p keep w hn2 hS hT hP h0 h1
end Go.Proofs.YtodiohoiekkodaaDoor.Op
end

section
set_option linter.unusedVariables false
namespace Go.Proofs.YtodiohoiekkodaaDoor.Op
open Go.RowKit Go.Proofs.YtodiohoiekkodaaDoor.Bd Go.Proofs.YtodiohoiekkodaaDoor.Sp

theorem below_growS (w : World) (k : Nat) (os : Array Obj) : Below w.heap.size w (Sort.grow (w.drewN k) os) :=
  ⟨rfl, rfl, rfl, by simp [Sort.grow, World.drewN], fun j hj => by
    show (w.heap ++ os)[j]? = w.heap[j]?
    rw [Array.getElem?_append, if_pos hj]⟩
theorem itoa_any (n : Int) (w : World) (hG : Glob w) (h1 : -9223372036854775808 ≤ n) (h2 : n ≤ 9223372036854775807) :
    Calls Tryd.prog 31 #[.int .i64 n] w fun e w' => e = .returned (.string (ba (Lib.itoa n))) ∧ Below w.heap.size w w' := by
  refine (Tryd.strconv_Itoa n h1 h2 w hG.tab).mono ?_
  rintro e w' ⟨rfl, k, os, rfl⟩
  exact ⟨rfl, below_growS w k os⟩

/-- A row of strings of the call's own: what Join asks of it. -/
theorem ownsRow_cells {w : World} {base : Nat} {e : TypeId} {g n cap : Nat} {xs : List Value} (h : w.ownsRow base e 1 (.slice (some ⟨g, 0, none⟩) n cap) n xs) (j : Nat) (x : Value) (hx : xs[j]? = some x) : w.cell? ⟨g, 0 + j, none⟩ = some x := by
  have e : (⟨g, 0, none⟩ : Addr).add j = ⟨g, 0 + j, none⟩ := by unfold Addr.add; split <;> simp_all
  rw [← e]
  exact h.cells (g := g) rfl j x hx
theorem ownsRow_ptr {w : World} {base : Nat} {e : TypeId} {v : Value} {n : Nat} {xs : List Value} (h : w.ownsRow base e 1 v n xs) (hn : 0 < n) : ∃ g cap, v = .slice (some ⟨g, 0, none⟩) n cap ∧ base ≤ g ∧ n ≤ cap ∧ g < w.heap.size := by
  rcases h.2 with ⟨_, h0⟩ | ⟨g, cap, cur, hv, hb, hh, hc, _⟩
  · omega
  · refine ⟨g, cap, hv, hb, hc, ?_⟩
    rcases Nat.lt_or_ge g w.heap.size with h' | h'
    · exact h'
    · simp [Array.getElem?_eq_none h'] at hh
/-- A row laid by a literal of one string. -/
theorem ownsRow_lit1 (w : World) (e : TypeId) (x : Value) (base : Nat) (hb : base ≤ w.heap.size) : (w.alloc (.cells #[x] e)).ownsRow base e 1 (.slice (some ⟨w.heap.size, 0, none⟩) 1 1) 1 [x] :=
  ⟨rfl, .inr ⟨_, 1, #[x], rfl, hb, heap_alloc_new _ _, Nat.le_refl _, by decide, rfl, rfl⟩⟩
theorem ownsRow_keep {w w' : World} {base : Nat} {e : TypeId} {v : Value} {n : Nat} {xs : List Value} (h : w.ownsRow base e 1 v n xs) (hb : Below w.heap.size w w') : w'.ownsRow base e 1 v n xs := by
  refine ⟨h.1, ?_⟩
  rcases h.2 with h | ⟨g, cap, cur, h1, h2, h3, h4⟩
  · exact .inl h
  · refine .inr ⟨g, cap, cur, h1, h2, (hb.block g ?_).trans h3, h4⟩
    rcases Nat.lt_or_ge g w.heap.size with h' | h'
    · exact h'
    · simp [Array.getElem?_eq_none h'] at h3
/-- What an append to a row of the call's own leaves of the operation's box. -/
theorem infoString : (Tryd.prog.info? 9).map (fun i => (i.zero, i.size, i.bytes)) = some (some (.string ⟨#[]⟩), 1, 16) := by kernel_rfl
end Go.Proofs.YtodiohoiekkodaaDoor.Op
end
