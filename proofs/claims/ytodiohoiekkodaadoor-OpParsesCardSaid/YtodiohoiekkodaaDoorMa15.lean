/- What the program reads from a line is what the reference reads; a plain operation is read from its line. Plain laws. The walks of layer 19's laws: what they call, by contract. -/
import Derived.Test.YtodiohoiekkodaaDoorMa13
import Derived.Test.YtodiohoiekkodaaDoorMa8
import Derived.Test.YtodiohoiekkodaaDoorMa9
import Derived.Test.YtodiohoiekkodaaDoorMa14
section
set_option linter.unusedVariables false
namespace Go.Proofs.YtodiohoiekkodaaDoor.Op
open Go.RowKit Go.Proofs.YtodiohoiekkodaaDoor.Bd Go.Proofs.YtodiohoiekkodaaDoor.Sp

theorem ba_inj {a b : Bs} (h : ba a = ba b) : a = b := by
  have := congrArg (fun x : ByteArray => x.data.toList) h; exact this
theorem ext_data {a b : ByteArray} (h : a.data.toList = b.data.toList) : a = b := by rw [← ba_data a, ← ba_data b, h]
theorem join_words (s : ByteArray) : ba (Lib.join ((words s).map (fun x => x.data.toList)) [32]) = s := by
  rw [words_data, join_spC]
theorem no_blank (c : UInt8) (h : 33 ≤ c.toNat ∧ c.toNat ≤ 126) : c ≠ 32 := by rintro rfl; exact absurd h.1 (by decide)
theorem unwO_some {w : ByteArray} (h : unwO w = true) : wordB (unwT w) = w := by
  unfold unwO at h
  obtain ⟨t, ht⟩ := Option.isSome_iff_exists.1 h
  have e : unwT w = ba t := by unfold unwT; rw [ht]
  rw [e]
  unfold wordB
  rw [data_ba, (unwordL_iff _ _).1 ht]
theorem unwO_word (t : ByteArray) : unwO (wordB t) = true := by unfold unwO wordB; rw [data_ba, unwordL_wordL]; rfl
theorem unwT_word (t : ByteArray) : unwT (wordB t) = t := by unfold unwT wordB; rw [data_ba, unwordL_wordL]

theorem kind_name {x : ByteArray} (hk : kindOK x = true) : nameOf (kindK x) (kindKeep x) = x ∧ (kindK x ≠ 3 → kindKeep x = false) := by
  have h0 : kindK x ≠ 0 := of_decide_eq_true hk
  by_cases h1 : x = kSub
  · subst h1; exact ⟨by decide, fun _ => by decide⟩
  by_cases h2 : x = kUnsub
  · subst h2; exact ⟨by decide, fun _ => by decide⟩
  by_cases h3 : x = kPub
  · subst h3; exact ⟨by decide, fun _ => by decide⟩
  by_cases h4 : x = kKeep
  · subst h4; exact ⟨by decide, fun h => absurd (by decide) h⟩
  by_cases h5 : x = kPoll
  · subst h5; exact ⟨by decide, fun _ => by decide⟩
  by_cases h6 : x = kDrops
  · subst h6; exact ⟨by decide, fun _ => by decide⟩
  exact absurd (by simp [kindK, h1, h2, h3, h4, h5, h6]) h0
theorem name_kind {k : Int} {keep : Bool} (h : nameOf k keep ≠ ⟨#[]⟩) : kindOK (nameOf k keep) = true ∧ kindK (nameOf k keep) = k ∧ kindKeep (nameOf k keep) = keep ∧ (k = 1 ∨ k = 2 ∨ k = 3 ∨ k = 4 ∨ k = 5) ∧ (k ≠ 3 → keep = false) := by
  unfold nameOf at h ⊢
  by_cases c1 : k = 1 ∧ keep = false
  · rw [if_pos c1]; obtain ⟨rfl, rfl⟩ := c1; decide
  rw [if_neg c1] at h ⊢
  by_cases c2 : k = 2 ∧ keep = false
  · rw [if_pos c2]; obtain ⟨rfl, rfl⟩ := c2; decide
  rw [if_neg c2] at h ⊢
  by_cases c3 : k = 3 ∧ keep = false
  · rw [if_pos c3]; obtain ⟨rfl, rfl⟩ := c3; decide
  rw [if_neg c3] at h ⊢
  by_cases c4 : k = 3 ∧ keep = true
  · rw [if_pos c4]; obtain ⟨rfl, rfl⟩ := c4; decide
  rw [if_neg c4] at h ⊢
  by_cases c5 : k = 4 ∧ keep = false
  · rw [if_pos c5]; obtain ⟨rfl, rfl⟩ := c5; decide
  rw [if_neg c5] at h ⊢
  by_cases c6 : k = 5 ∧ keep = false
  · rw [if_pos c6]; obtain ⟨rfl, rfl⟩ := c6; decide
  rw [if_neg c6] at h ⊢
  exact absurd rfl h
theorem plain_name {k sub : Int} {t p : ByteArray} {keep : Bool} (h : plainOK k sub t p keep = true) : nameOf k keep ≠ ⟨#[]⟩ := by
  intro e
  rw [plain_no e] at h
  cases h
theorem name_plain {k sub : Int} {t p : ByteArray} {keep : Bool} (hn : nameOf k keep ≠ ⟨#[]⟩) (hs : toldS k sub = sub) (ht : toldT k t = t) (hp : toldP k p = p) (h0 : 0 ≤ sub) (h1 : sub ≤ 9999) : plainOK k sub t p keep = true :=
  plain_prop.2 ⟨fun e => hn (ext_data e), hs, by rw [ht], by rw [hp], h0, h1⟩
theorem plain_told {k sub : Int} {t p : ByteArray} {keep : Bool} (h : plainOK k sub t p keep = true) : toldS k sub = sub ∧ toldT k t = t ∧ toldP k p = p ∧ 0 ≤ sub ∧ sub ≤ 9999 := by
  obtain ⟨_, a, b, c, d, e⟩ := plain_prop.1 h
  exact ⟨a, ext_data b, ext_data c, d, e⟩

theorem name_no (k : Int) (keep : Bool) : ∀ c ∈ (nameOf k keep).data.toList, c ≠ 32 := by
  unfold nameOf
  intro c hc
  repeat' split at hc
  all_goals (revert c; decide)
theorem itoa_no (v : Int) (h0 : 0 ≤ v) : ∀ c ∈ Lib.itoa v, c ≠ 32 := by
  obtain ⟨n, rfl⟩ := Int.eq_ofNat_of_zero_le h0
  rw [itoa_nat]
  intro c hc
  have := dd_digits n c hc
  exact no_blank c (by omega)
theorem word_no (t : ByteArray) : ∀ c ∈ (wordB t).data.toList, c ≠ 32 := fun c hc => no_blank c (wordL_no _ c hc)

/-- The words of a line are those that it was made of. -/
theorem words_line (k sub : Int) (t p : ByteArray) (keep : Bool) (h0 : 0 ≤ sub) : words (lineB k sub t p keep) = lineWords k sub t p keep := by
  have hn := name_no k keep
  have hi : ∀ c ∈ (ba (Lib.itoa sub)).data.toList, c ≠ 32 := itoa_no sub h0
  have ht := word_no t
  have hp := word_no p
  rw [words_eq]
  unfold lineB
  rw [data_ba]
  have main : ∀ (a : ByteArray) (r : List ByteArray), (∀ x ∈ a.data.toList, x ≠ 32) → (∀ w ∈ r, ∀ x ∈ w.data.toList, x ≠ 32) →
      (spC 32 (Lib.join ((a :: r).map (fun x => x.data.toList)) [32])).map ba = a :: r := by
    intro a r ha hr
    rw [List.map_cons, spC_join 32 _ _ ha (by
      intro w hw
      obtain ⟨x, hx, rfl⟩ := List.mem_map.1 hw
      exact hr x hx)]
    rw [List.map_cons, ba_data, List.map_map]
    congr 1
    conv => rhs; rw [← List.map_id r]
    exact List.map_congr_left fun x _ => ba_data x
  unfold lineWords
  split
  · exact main _ _ hn (by intro w hw; simp only [List.mem_cons, List.not_mem_nil, or_false] at hw; rcases hw with rfl | rfl <;> assumption)
  split
  · exact main _ _ hn (by intro w hw; simp only [List.mem_cons, List.not_mem_nil, or_false] at hw; rcases hw with rfl | rfl <;> assumption)
  · exact main _ _ hn (by intro w hw; simp only [List.mem_cons, List.not_mem_nil, or_false] at hw; subst hw; assumption)

theorem line_of_words {s : ByteArray} {k sub : Int} {t p : ByteArray} {keep : Bool} (h : words s = lineWords k sub t p keep) : lineB k sub t p keep = s := by
  unfold lineB
  rw [← h]; exact join_words s

/-- A plain operation is read from its line again. -/
theorem parse_line {k sub : Int} {t p : ByteArray} {keep : Bool} (h : plainOK k sub t p keep = true) : parseV (lineB k sub t p keep) = .tuple #[opV k sub t p keep, .int .i64 0] := by
  have hn := plain_name h
  obtain ⟨a1, a2, a3, a4, a5⟩ := name_kind hn
  obtain ⟨b1, b2, b3, b4, b5⟩ := plain_told h
  have hw := words_line k sub t p keep b4
  have ai := atoi_itoa sub (by omega) (by omega)
  unfold parseV
  rw [hw]
  have e : lineWords k sub t p keep = nameOf k keep :: (if k = 3 then [wordB t, wordB p] else if k = 1 ∨ k = 2 then [ba (Lib.itoa sub), wordB t] else [ba (Lib.itoa sub)]) := by
    unfold lineWords
    split
    · rfl
    split <;> rfl
  rw [e]
  have hf : fillR k (if k = 3 then [wordB t, wordB p] else if k = 1 ∨ k = 2 then [ba (Lib.itoa sub), wordB t] else [ba (Lib.itoa sub)]) = some (sub, t, p) := by
    rcases a4 with rfl | rfl | rfl | rfl | rfl
    · obtain rfl : ⟨#[]⟩ = p := b3
      simp [fillR, ai, unwO_word, unwT_word]
    · obtain rfl : ⟨#[]⟩ = p := b3
      simp [fillR, ai, unwO_word, unwT_word]
    · obtain rfl : 0 = sub := b1
      simp [fillR, unwO_word, unwT_word]
    · obtain rfl : ⟨#[]⟩ = p := b3
      obtain rfl : ⟨#[]⟩ = t := b2
      simp [fillR, ai]
    · obtain rfl : ⟨#[]⟩ = p := b3
      obtain rfl : ⟨#[]⟩ = t := b2
      simp [fillR, ai]
  simp only [a1, a2, a3, hf, h, true_and, if_true]
  rfl

theorem some3 {a b : Int} {t p t' p' : ByteArray} (h : some (a, t, p) = some (b, t', p')) : a = b ∧ t = t' ∧ p = p' := by
  have := Option.some.inj h
  simp only [Prod.mk.injEq] at this
  exact this

/-- Both sides read the same from any line. -/
theorem parse_agree (s : ByteArray) : parseV s = refParseV s := by
  unfold parseV refParseV
  cases hw : words s with
  | nil => rfl
  | cons x r =>
    by_cases hk : kindOK x = false
    · simp only [hk, if_true]
    have hk' : kindOK x = true := by cases h : kindOK x <;> simp_all
    obtain ⟨hnm, hkeep⟩ := kind_name hk'
    have hkk := kind_cases hk'
    have hne : x ≠ ⟨#[]⟩ := by rintro rfl; revert hk'; decide
    simp only [hk', Bool.true_eq_false, if_false]
    generalize kindK x = k at *
    generalize kindKeep x = keep at *
    have key : ∀ r' : Option (Int × ByteArray × ByteArray), (∀ sub t p, r' = some (sub, t, p) → plainOK k sub t p keep = true ∧ lineWords k sub t p keep = x :: r) →
        (match r' with
          | none => Value.tuple #[opZ, .int .i64 10]
          | some (sub, t, p) => if plainOK k sub t p keep = true ∧ lineB k sub t p keep = s then .tuple #[.agg #[.int .i64 k, .int .i64 sub, .string t, .string p, .bool keep], .int .i64 0] else .tuple #[opZ, .int .i64 10]) =
        (match r' with
          | none => Value.tuple #[opZ, .int .i64 10]
          | some (sub, t, p) => .tuple #[.agg #[.int .i64 k, .int .i64 sub, .string t, .string p, .bool keep], .int .i64 0]) := by
      intro r' h
      match r', h with
      | none, _ => rfl
      | some (sub, t, p), h =>
        obtain ⟨h1, h2⟩ := h sub t p rfl
        exact if_pos ⟨h1, line_of_words (hw.trans h2.symm)⟩
    have hnone : ∀ r1 : Option (Int × ByteArray × ByteArray), (∀ sub t p, r1 = some (sub, t, p) → ¬ (plainOK k sub t p keep = true ∧ lineB k sub t p keep = s)) →
        (match r1 with
          | none => Value.tuple #[opZ, .int .i64 10]
          | some (sub, t, p) => if plainOK k sub t p keep = true ∧ lineB k sub t p keep = s then .tuple #[.agg #[.int .i64 k, .int .i64 sub, .string t, .string p, .bool keep], .int .i64 0] else .tuple #[opZ, .int .i64 10]) =
        .tuple #[opZ, .int .i64 10] := by
      intro r1 h
      match r1, h with
      | none, _ => rfl
      | some (sub, t, p), h => exact if_neg (h sub t p rfl)
    have hnn : nameOf k keep ≠ ⟨#[]⟩ := by rw [hnm]; exact hne
    by_cases h3 : k = 3
    · subst h3
      have e : fillR 3 r = refR 3 r := by unfold fillR refR; rfl
      rw [e]
      refine key _ fun sub t p h => ?_
      unfold refR at h
      rw [if_pos rfl] at h
      split at h
      · rename_i a b
        split at h
        · rename_i hab
          obtain ⟨rfl, rfl, rfl⟩ := some3 h
          refine ⟨name_plain hnn rfl rfl rfl (by omega) (by omega), ?_⟩
          unfold lineWords
          rw [if_pos rfl, hnm, unwO_some hab.1, unwO_some hab.2]
        · cases h
      · cases h
    have hkp := hkeep h3
    subst hkp
    -- the number's word
    have num : ∀ (n : ByteArray), 0 ≤ numS n.data.toList → Lib.atoiAll n.data.toList = .ok (numS n.data.toList) ∧ ba (Lib.itoa (numS n.data.toList)) = n ∧ numS n.data.toList ≤ 9999 := by
      intro n hn
      obtain ⟨h1, h2⟩ := num_ok _ hn
      have h3 := atoi_itoa (numS n.data.toList) (by omega) (by omega)
      rw [h1] at h3
      exact ⟨h3, by rw [h1], h2⟩
    have bad : ∀ (n : ByteArray) (v : Int), ¬ 0 ≤ numS n.data.toList → 0 ≤ v → v ≤ 9999 → ba (Lib.itoa v) ≠ n := by
      rintro n v hn h0 h1 rfl
      rw [data_ba, num_itoa v h0 h1] at hn
      exact hn h0
    by_cases h45 : k = 4 ∨ k = 5
    · have k3 : ¬ k < 3 := by omega
      have k12 : ¬ (k = 1 ∨ k = 2) := by omega
      match r, hw with
      | [], hw => simp [fillR, refR, h3, k3]
      | n :: a :: r, hw =>
        have e1 : fillR k (n :: a :: r) = none := by unfold fillR; rw [if_neg h3]; simp only []; split <;> simp [h45]
        have e2 : refR k (n :: a :: r) = none := by unfold refR; rw [if_neg h3, if_neg k3]
        rw [e1, e2]
      | [n], hw =>
        by_cases hn : 0 ≤ numS n.data.toList
        · obtain ⟨n1, n2, n3⟩ := num n hn
          have e1 : fillR k [n] = some (numS n.data.toList, ⟨#[]⟩, ⟨#[]⟩) := by unfold fillR; rw [if_neg h3]; simp only [n1, if_pos h45, if_true]
          have e2 : refR k [n] = some (numS n.data.toList, ⟨#[]⟩, ⟨#[]⟩) := by unfold refR; rw [if_neg h3, if_neg k3]; simp only [if_pos hn]
          rw [e1, e2]
          refine key (some (numS n.data.toList, ⟨#[]⟩, ⟨#[]⟩)) fun sub t p h => ?_
          obtain ⟨rfl, rfl, rfl⟩ := some3 h
          refine ⟨name_plain hnn (by unfold toldS; rw [if_pos (by omega)]) (by unfold toldT; rw [if_neg (by omega)]) (by unfold toldP; rw [if_neg h3]) hn n3, ?_⟩
          unfold lineWords
          rw [if_neg h3, if_neg k12, hnm, n2]
        · have e2 : refR k [n] = none := by unfold refR; rw [if_neg h3, if_neg k3]; simp only [if_neg hn]
          rw [e2]
          refine hnone _ fun sub t p h hc => ?_
          obtain ⟨_, _, _, c1, c2⟩ := plain_told hc.1
          have h6 := words_line k sub t p false c1
          rw [hc.2, hw] at h6
          unfold lineWords at h6
          rw [if_neg h3, if_neg k12] at h6
          simp only [List.cons.injEq, and_true] at h6
          exact bad n sub hn c1 c2 h6.2.symm
    · have k3 : k < 3 := by omega
      have k12 : k = 1 ∨ k = 2 := by omega
      match r, hw with
      | [], hw => simp [fillR, refR, h3, k3]
      | [n], hw =>
        have e1 : fillR k [n] = none := by unfold fillR; rw [if_neg h3]; simp only []; split <;> simp [h45]
        have e2 : refR k [n] = none := by unfold refR; rw [if_neg h3, if_pos k3]
        rw [e1, e2]
      | n :: a :: b :: r, hw =>
        have e1 : fillR k (n :: a :: b :: r) = none := by unfold fillR; rw [if_neg h3]; simp only []; split <;> simp [h45]
        have e2 : refR k (n :: a :: b :: r) = none := by unfold refR; rw [if_neg h3, if_pos k3]
        rw [e1, e2]
      | [n, a], hw =>
        by_cases ha : unwO a = true
        · by_cases hn : 0 ≤ numS n.data.toList
          · obtain ⟨n1, n2, n3⟩ := num n hn
            have e1 : fillR k [n, a] = some (numS n.data.toList, unwT a, ⟨#[]⟩) := by unfold fillR; rw [if_neg h3]; simp only [n1, if_neg h45, ha, if_true]
            have e2 : refR k [n, a] = some (numS n.data.toList, unwT a, ⟨#[]⟩) := by unfold refR; rw [if_neg h3, if_pos k3]; simp only [if_pos (And.intro ha hn)]
            rw [e1, e2]
            refine key (some (numS n.data.toList, unwT a, ⟨#[]⟩)) fun sub t p h => ?_
            obtain ⟨rfl, rfl, rfl⟩ := some3 h
            refine ⟨name_plain hnn (by unfold toldS; rw [if_pos (by omega)]) (by unfold toldT; rw [if_pos (by omega)]) (by unfold toldP; rw [if_neg h3]) hn n3, ?_⟩
            unfold lineWords
            rw [if_neg h3, if_pos k12, hnm, n2, unwO_some ha]
          · have e2 : refR k [n, a] = none := by unfold refR; rw [if_neg h3, if_pos k3]; simp only [if_neg (fun h : unwO a = true ∧ 0 ≤ numS n.data.toList => hn h.2)]
            rw [e2]
            refine hnone _ fun sub t p h hc => ?_
            obtain ⟨_, _, _, c1, c2⟩ := plain_told hc.1
            have h6 := words_line k sub t p false c1
            rw [hc.2, hw] at h6
            unfold lineWords at h6
            rw [if_neg h3, if_pos k12] at h6
            simp only [List.cons.injEq, and_true] at h6
            exact bad n sub hn c1 c2 h6.2.1.symm
        · have e1 : fillR k [n, a] = none := by unfold fillR; rw [if_neg h3]; simp only []; split <;> simp [h45, ha]
          have e2 : refR k [n, a] = none := by unfold refR; rw [if_neg h3, if_pos k3]; simp only [if_neg (fun h : unwO a = true ∧ 0 ≤ numS n.data.toList => ha h.1)]
          rw [e1, e2]
end Go.Proofs.YtodiohoiekkodaaDoor.Op
end

section
-- PRINTED by print.py (a twelfth state) out of the translation. Not trusted: Lean checks it.
namespace Go.Proofs.YtodiohoiekkodaaDoor.Rf
open Go.RowKit Go.Proofs.YtodiohoiekkodaaDoorW.PrintWords Go.Proofs.YtodiohoiekkodaaDoorW.PrintLast Go.Proofs.YtodiohoiekkodaaDoorW.PrintMore
attribute [local go_sem] max2_int min2_int max_two min_two max_three min_three max_four min_four   -- for this text's walks alone
set_option linter.unusedVariables false
set_option linter.unusedSimpArgs false

/-! ### bellmanref01_Long: function 9 -/
def bellmanref01_Long.f (a0 : ByteArray) : Option (Bool) := some (decide ((a0.size : Int) > 300))
set_option maxHeartbeats 8000000 in
set_option maxRecDepth 100000 in
theorem bellmanref01_Long.calls (a0 : ByteArray) (r : Bool) (w : World) (h : bellmanref01_Long.f a0 = some r) :
    Calls Tryd.prog 9 #[.string a0] w fun e w' => e = .returned (.bool r) ∧ Drawn0 w w' := by
  have H : (some (decide ((a0.size : Int) > 300))) = some r := h
  clear h
  obtain rfl := Option.some.inj H
  go_enter Tryd.func9, Tryd.ntmps9
  go_wp2
  go_ret
  exact ⟨by first | rfl | (simp; done) | (simp [*]; done), by repeat (first | exact Drawn0.refl _ | apply Drawn0.step)⟩

/-- THE ONE PURE STATEMENT of bellmanref01_Long: yours. -/
def bellmanref01_Long.Pure : Prop := ∀ (a0 : ByteArray), a0.size ≤ 140737488351232 → bellmanref01_Long.f a0 = some true
theorem bellmanref01_Long.walk (P : bellmanref01_Long.Pure) (a0 : ByteArray) (w : World) (w0 : a0.size ≤ 140737488351232) :
    Calls Tryd.prog 9 #[.string a0] w fun e w' => e = .returned (.bool true) ∧ Below w.heap.size w w' := by
  have h := P a0 w0
  refine (bellmanref01_Long.calls a0 true w h).mono ?_
  rintro e w' ⟨rfl, hd⟩
  exact ⟨rfl, hd.below⟩

end Go.Proofs.YtodiohoiekkodaaDoor.Rf
end

section
set_option linter.unusedVariables false
attribute [local go_sem high] Go.Proofs.YtodiohoiekkodaaDoor.eqOp
namespace Go.Proofs.YtodiohoiekkodaaDoor.Op
open Go.RowKit Go.Proofs.YtodiohoiekkodaaDoor.Bd Go.Proofs.YtodiohoiekkodaaDoor.Sp Go.Proofs.YtodiohoiekkodaaDoor.Rf Go.Proofs.YtodiohoiekkodaaDoorW.PrintWords

theorem rline_any (k sub : Int) (t p : ByteArray) (keep : Bool) (w : World) (ht : t.size ≤ 1000) (hp : p.size ≤ 1000) :
    Calls Tryd.prog 11 #[opV k sub t p keep] w fun e w' => e = .returned (lineV k sub t p keep) ∧ Below w.heap.size w w' := by
  unfold lineV
  split
  · rename_i h
    exact bellmanref19_Line.calls 1001 k sub t p keep _ _ w (rline_ok k sub t p keep 1001 h ht hp (Nat.le_refl _))
  · rename_i h
    exact bellmanref19_Line.calls 1001 k sub t p keep _ _ w (rline_no k sub t p keep 1001 (by simpa using h))
theorem rplain_any (k sub : Int) (t p : ByteArray) (keep : Bool) (w : World) :
    Calls Tryd.prog 13 #[opV k sub t p keep] w fun e w' => e = .returned (.bool (plainOK k sub t p keep)) ∧ Below w.heap.size w w' :=
  bellmanref19_Plain.calls k sub t p keep _ w (rplain k sub t p keep)

/- The document's examples. -/
def ex1 : ByteArray := ⟨#[97, 47, 43]⟩
def ex2 : ByteArray := ⟨#[97, 32, 98]⟩
def ex3 : ByteArray := ⟨#[120]⟩
theorem itoa1 : Lib.itoa 1 = [49] := by
  have h := itoa_nat 1
  rw [dd_small (by decide)] at h
  exact h
theorem line_ex1 : lineB 1 1 ex1 ⟨#[]⟩ false = ⟨#[115, 117, 98, 32, 49, 32, 97, 47, 43]⟩ := by
  have e : lineWords 1 1 ex1 ⟨#[]⟩ false = [kSub, ba [49], wordB ex1] := by
    unfold lineWords
    rw [if_neg (by decide), if_pos (by decide), itoa1]; rfl
  unfold lineB
  rw [e]
  decide +kernel
theorem line_ex2 : lineB 3 0 ex2 ex3 true = ⟨#[107, 101, 101, 112, 32, 97, 37, 50, 48, 98, 32, 120]⟩ := by
  have e : lineWords 3 0 ex2 ex3 true = [kKeep, wordB ex2, wordB ex3] := by
    unfold lineWords
    rw [if_pos rfl]; rfl
  unfold lineB
  rw [e]
  decide +kernel
theorem parse_ex1 : parseV ⟨#[115, 117, 98, 32, 49, 32, 97, 47, 43]⟩ = .tuple #[opV 1 1 ⟨#[97, 47, 43]⟩ ⟨#[]⟩ false, .int .i64 0] := by
  rw [← line_ex1, parse_line (by decide +kernel)]; rfl
theorem parse_ex2 : parseV ⟨#[107, 101, 101, 112, 32, 97, 37, 50, 48, 98, 32, 120]⟩ = .tuple #[opV 3 0 ⟨#[97, 32, 98]⟩ ⟨#[120]⟩ true, .int .i64 0] := by
  rw [← line_ex2, parse_line (by decide +kernel)]; rfl

set_option maxHeartbeats 1000000 in
set_option maxRecDepth 100000 in
theorem awake19 (w : World) (hG : Glob w) : Calls Tryd.prog 8 #[] w fun e w' => e = .returned (.bool true) ∧ Below w.heap.size w w' := by
  have P1 := Lib.hid parse_ex1
  have P2 := Lib.hid parse_ex2
  go_enter Tryd.func8, Tryd.ntmps8
  go_wp2_with fail
  refine (parse_any _ w hG (by decide)).mono ?_
  rintro e w1 ⟨rfl, hb1⟩
  rw [P1.out]
  have hG2 : Glob (w1.alloc (.cells #[.int .i64 1, .int .i64 1, .string ⟨#[97, 47, 43]⟩, .string ⟨#[]⟩, .bool false] 23)) := (hG.below hb1).alloc _
  have hb2 : Below w.heap.size w (w1.alloc (.cells #[.int .i64 1, .int .i64 1, .string ⟨#[97, 47, 43]⟩, .string ⟨#[]⟩, .bool false] 23)) := hb1.alloc hb1.size _
  have q1 : XAt w1.heap.size 1 1 ⟨#[97, 47, 43]⟩ ⟨#[]⟩ false (w1.alloc (.cells #[.int .i64 1, .int .i64 1, .string ⟨#[97, 47, 43]⟩, .string ⟨#[]⟩, .bool false] 23)) := heap_alloc_new _ _
  have HB := Lib.hid hb2
  have Q1 := Lib.hid q1
  clear hb1 hb2 q1
  go_wp2_with fail
  refine (parse_any _ _ hG2 (by decide)).mono ?_
  rintro e w2 ⟨rfl, hb2⟩
  rw [P2.out]
  have hb3 : Below w.heap.size w (w2.alloc (.cells #[.int .i64 3, .int .i64 0, .string ⟨#[97, 32, 98]⟩, .string ⟨#[120]⟩, .bool true] 23)) := (HB.out.trans (hb2.mono HB.out.size)).alloc (Nat.le_trans HB.out.size hb2.size) _
  have q2 : XAt w1.heap.size 1 1 ⟨#[97, 47, 43]⟩ ⟨#[]⟩ false (w2.alloc (.cells #[.int .i64 3, .int .i64 0, .string ⟨#[97, 32, 98]⟩, .string ⟨#[120]⟩, .bool true] 23)) := keepX ((Below.refl _ _).alloc (Nat.le_refl _) _) (keepX hb2 Q1.out)
  have y0 := opc0 q2
  have y1 := opc1 q2
  have y2 := opc2 q2
  have y3 := opc3 q2
  have y4 := opc4 q2
  have HB3 := Lib.hid hb3
  clear hb2 hb3 q2
  go_wp2
  go_ret
  exact ⟨rfl, HB3.out⟩

theorem long_any (s : ByteArray) (w : World) : Calls Tryd.prog 9 #[.string s] w fun e w' => e = .returned (.bool (decide ((s.size : Int) > 300))) ∧ Drawn0 w w' :=
  bellmanref01_Long.calls s _ w rfl

set_option maxHeartbeats 1000000 in
set_option maxRecDepth 100000 in
theorem parses_long (s : ByteArray) (w : World) (hG : Glob w) (hl : decide ((s.size : Int) > 300) = true) : Calls Tryd.prog 4 #[.string s] w fun e w' => e = .returned (.bool true) ∧ Below w.heap.size w w' := by
  have HL := Lib.hid hl
  clear hl
  go_enter Tryd.func4, Tryd.ntmps4
  go_wp2_with fail
  refine (awake19 w hG).mono ?_
  rintro e w1 ⟨rfl, hb1⟩
  have HB := Lib.hid hb1
  clear hb1
  go_wp2_with fail
  refine (long_any s w1).mono ?_
  rintro e w2 ⟨rfl, ⟨n, rfl⟩⟩
  rw [HL.out]
  go_wp2_with fail
  go_ret
  exact ⟨rfl, pw_below_drewN HB.out _⟩
end Go.Proofs.YtodiohoiekkodaaDoor.Op
end
