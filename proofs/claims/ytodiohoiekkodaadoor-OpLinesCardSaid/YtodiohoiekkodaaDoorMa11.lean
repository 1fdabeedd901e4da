/- What the reference's functions of layer 19 compute: plain laws. -/
import Derived.Test.YtodiohoiekkodaaDoorMa8
import Derived.Test.YtodiohoiekkodaaDoorMa9
import Derived.Test.YtodiohoiekkodaaDoorMa10
section
set_option linter.unusedVariables false
namespace Go.Proofs.YtodiohoiekkodaaDoor.Op
open Go.RowKit Go.Proofs.YtodiohoiekkodaaDoor.Bd Go.Proofs.YtodiohoiekkodaaDoor.Sp Go.Proofs.YtodiohoiekkodaaDoor.Rf Go.Proofs.YtodiohoiekkodaaDoorW.PrintWords

theorem w64 {a : Int} (h0 : -9223372036854775808 ≤ a) (h1 : a ≤ 9223372036854775807) : wrap64 a = a := IntWalk.wrap64_in a ⟨h0, h1⟩

theorem nameOf_keep {k : Int} (h1 : k ≠ 3) : nameOf k true = ⟨#[]⟩ := by
  unfold nameOf
  simp [h1]
theorem nameOf_other {k : Int} (h : k < 1 ∨ 5 < k) (keep : Bool) : nameOf k keep = ⟨#[]⟩ := by
  unfold nameOf
  have a1 : k ≠ 1 := by omega
  have a2 : k ≠ 2 := by omega
  have a3 : k ≠ 3 := by omega
  have a4 : k ≠ 4 := by omega
  have a5 : k ≠ 5 := by omega
  simp [a1, a2, a3, a4, a5]
theorem plain_no {k : Int} {keep : Bool} (h : nameOf k keep = ⟨#[]⟩) (sub : Int) (t p : ByteArray) : plainOK k sub t p keep = false := by
  unfold plainOK
  rw [h]
  simp [bytes_toList]

theorem plain_prop {k sub : Int} {t p : ByteArray} {keep : Bool} : plainOK k sub t p keep = true ↔ (nameOf k keep).data.toList ≠ [] ∧ toldS k sub = sub ∧ (toldT k t).data.toList = t.data.toList ∧ (toldP k p).data.toList = p.data.toList ∧ 0 ≤ sub ∧ sub ≤ 9999 := by
  unfold plainOK
  simp only [Bool.and_eq_true, Bool.not_eq_true', List.isEmpty_eq_false_iff, bytes_toList, beq_iff_eq, decide_eq_true_eq, and_assoc]

theorem rplain (k sub : Int) (t p : ByteArray) (keep : Bool) : bellmanref19_Plain.f k sub t p keep = some (plainOK k sub t p keep) := by
  unfold bellmanref19_Plain.f
  by_cases h3 : k = 3
  · subst h3
    rw [if_pos rfl]
    congr 1
    rw [Bool.eq_iff_iff, plain_prop]
    have hn : (nameOf 3 keep).data.toList ≠ [] := by cases keep <;> simp [nameOf, kPub, kKeep]
    simp only [toldS, toldT, toldP, beq_iff_eq]
    simp [hn]
    omega
  rw [if_neg h3]
  by_cases h1 : k < 1
  · rw [if_pos h1, plain_no (nameOf_other (.inl h1) keep)]
  rw [if_neg h1]
  by_cases h5 : k > 5
  · rw [if_pos h5, plain_no (nameOf_other (.inr h5) keep)]
  rw [if_neg h5]
  by_cases h6 : sub < 0
  · rw [if_pos h6]; congr 1; symm; rw [Bool.eq_false_iff]; intro h; have := (plain_prop.1 h).2.2.2.2.1; omega
  rw [if_neg h6]
  by_cases h7 : sub > 9999
  · rw [if_pos h7]; congr 1; symm; rw [Bool.eq_false_iff]; intro h; have := (plain_prop.1 h).2.2.2.2.2; omega
  rw [if_neg h7]
  by_cases h8 : p.toList = []
  · rw [if_pos h8]
    rw [bytes_toList] at h8
    by_cases h9 : keep = true
    · subst h9
      rw [if_pos rfl, plain_no (nameOf_keep h3)]
    · rw [if_neg h9]
      obtain rfl : keep = false := by simpa using h9
      have hk : k = 1 ∨ k = 2 ∨ k = 4 ∨ k = 5 := by omega
      by_cases h10 : k < 3
      · rw [if_pos h10]
        congr 1; symm
        rw [plain_prop]
        rcases hk with rfl | rfl | rfl | rfl
        · simp [nameOf, kSub, toldS, toldT, toldP, h8]; omega
        · simp [nameOf, kUnsub, toldS, toldT, toldP, h8]; omega
        · omega
        · omega
      · rw [if_neg h10]
        congr 1
        rw [Bool.eq_iff_iff, plain_prop]
        rcases hk with rfl | rfl | rfl | rfl
        · omega
        · omega
        · simp [nameOf, kPoll, toldS, toldT, toldP, h8, bytes_toList]
          exact fun _ => ⟨by omega, by omega⟩
        · simp [nameOf, kDrops, toldS, toldT, toldP, h8, bytes_toList]
          exact fun _ => ⟨by omega, by omega⟩
  · rw [if_neg h8]
    congr 1; symm
    rw [Bool.eq_false_iff]
    intro h
    rw [bytes_toList] at h8
    have h9 := (plain_prop.1 h).2.2.2.1
    unfold toldP at h9
    rw [if_neg h3] at h9
    exact h8 h9.symm

theorem rhex : ∀ c : Fin 256, bellmanref19_hex.f (c.val : Int) = some (ba [hexd (c.val / 16), hexd (c.val % 16)]) := by decide +kernel

theorem bt_nat (s : ByteArray) (i : Nat) (h : i < s.size) : bt s (i : Int) = ((s.data.toList[i]'(by simpa using h)).toNat : Int) := by
  have := bt_at s (i : Int) (by simpa using h)
  rw [← this]
  simp
  rfl
theorem ba_size (l : Bs) : (ba l).size = l.length := rfl
theorem ba_append (a b : Bs) : ba a ++ ba b = ba (a ++ b) := by
  apply ByteArray.ext
  simp [ba]
theorem extract_one (s : ByteArray) (i : Nat) (h : i < s.size) : s.extract i (i + 1) = ba [s.data.toList[i]'(by simpa using h)] := by
  apply ByteArray.ext
  apply Array.ext
  · simp [ByteArray.data_extract]; have : s.size = s.data.size := rfl; omega
  · intro j h1 h2
    simp at h2
    subst h2
    simp [ByteArray.data_extract]

theorem rword_l0 (s : ByteArray) (hs : s.size ≤ 1000000) : ∀ (n i k : Nat), s.size - i = n → i ≤ s.size → n + 1 ≤ k →
    bellmanref19_Word.l0 k s (ba ((s.data.toList.take i).flatMap encB)) (i : Int) = some (ba (s.data.toList.flatMap encB)) := by
  intro n
  induction n with
  | zero =>
    intro i k hn hi hk
    obtain ⟨k, rfl⟩ : ∃ k', k = k' + 1 := ⟨k - 1, by omega⟩
    unfold bellmanref19_Word.l0
    obtain rfl : i = s.size := by omega
    rw [if_neg (by omega), List.take_of_length_le (by simp)]
  | succ n ih =>
    intro i k hn hi hk
    obtain ⟨k, rfl⟩ : ∃ k', k = k' + 1 := ⟨k - 1, by omega⟩
    have hlt : i < s.size := by omega
    have hlt' : i < s.data.toList.length := by simpa using hlt
    have hsucc := encs_succ s.data.toList i hlt'
    have hlen := encs_le s.data.toList i
    unfold bellmanref19_Word.l0
    have hb := bt_nat s i hlt
    have hw : wrap64 ((i : Int) + 1) = ((i + 1 : Nat) : Int) := by rw [w64 (by omega) (by omega)]; omega
    have hex := rhex ⟨(s.data.toList[i]'hlt').toNat, (s.data.toList[i]'hlt').toNat_lt⟩
    simp only at hex
    rw [if_pos (by omega), if_pos (by omega), hb, hw]
    have hx := extract_one s i hlt
    have ih := ih (i + 1) k (by omega) (by omega) (by omega)
    rw [hsucc] at ih
    generalize s.data.toList[i]'hlt' = c at *
    have hlt2 := c.toNat_lt
    by_cases hp : plainB c = true
    · have he : encB c = [c] := by simp [encB, hp]
      have hpp : 33 ≤ c.toNat ∧ c.toNat ≤ 126 ∧ c.toNat ≠ 37 := by simpa [plainB, and_assoc] using hp
      rw [if_pos (by omega), if_pos (by omega), if_neg (by omega), if_pos (by omega), if_pos (by omega)]
      have e1 : ((i : Int)).toNat = i := by omega
      have e2 : (((i + 1 : Nat) : Int)).toNat = i + 1 := by omega
      rw [e1, e2, hx, if_pos (by rw [ba_size, ba_size]; simp only [List.length_singleton]; omega), ba_append]
      rw [he] at ih
      exact ih
    · have he : encB c = [37, hexd (c.toNat / 16), hexd (c.toNat % 16)] := by simp [encB, hp]
      rw [he] at ih
      have hgo : (if (ba ((s.data.toList.take i).flatMap encB)).size + 1 ≤ 9223372036854775807 then ((bellmanref19_hex.f (c.toNat : Int)).bind fun t => (if (ba ((s.data.toList.take i).flatMap encB) ++ (⟨#[37]⟩ : ByteArray)).size + t.size ≤ 9223372036854775807 then (bellmanref19_Word.l0 k s ((ba ((s.data.toList.take i).flatMap encB) ++ (⟨#[37]⟩ : ByteArray)) ++ t) ((i + 1 : Nat) : Int)) else none)) else none) = some (ba (s.data.toList.flatMap encB)) := by
        rw [if_pos (by rw [ba_size]; omega), hex]
        have e3 : (⟨#[37]⟩ : ByteArray) = ba [37] := rfl
        simp only [Option.bind_some]
        rw [e3, ba_append, if_pos (by rw [ba_size, ba_size]; simp only [List.length_append, List.length_cons, List.length_nil]; omega), ba_append, List.append_assoc]
        exact ih
      by_cases h1 : (c.toNat : Int) ≥ 33
      · rw [if_pos h1]
        by_cases h2 : (c.toNat : Int) ≤ 126
        · rw [if_pos h2]
          have h3 : c.toNat = 37 := by simp [plainB] at hp; omega
          rw [if_pos (by omega)]
          exact hgo
        · rw [if_neg h2]; exact hgo
      · rw [if_neg h1]; exact hgo

theorem rword (s : ByteArray) (k : Nat) (hs : s.size ≤ 1000000) (hk : s.size + 1 ≤ k) : bellmanref19_Word.f k s = some (wordB s) := by
  unfold bellmanref19_Word.f wordB wordL
  rw [bytes_toList]
  split
  · rfl
  · have := rword_l0 s hs s.size 0 k (by omega) (by omega) hk
    simpa using this

theorem dig10 : ∀ d : Fin 10, bellmanref19_Text.f 1 (d.val : Int) = some (ba [UInt8.ofNat (48 + d.val)]) := by decide +kernel
theorem text_mono (a : Int) (k d : Nat) (r : ByteArray) (h : bellmanref19_Text.f k a = some r) : bellmanref19_Text.f (k + d) a = some r := by
  induction d with
  | zero => exact h
  | succ d ih => exact bellmanref19_Text.mono _ _ _ ih
theorem rtext_dd : ∀ (k n : Nat), n < 10 ^ (k + 1) → n < 1000000000000000000 → k < 20 → bellmanref19_Text.f (k + 1) (n : Int) = some (ba (Lib.decDigits n)) := by
  intro k
  induction k with
  | zero =>
    intro n hn _ _
    have := dig10 ⟨n, by omega⟩
    rw [dd_small (by omega)]
    exact this
  | succ k ih =>
    intro n hn h18 hk
    by_cases h10 : n < 10
    · have := dig10 ⟨n, by omega⟩
      rw [dd_small (by omega)]
      have h2 := text_mono _ 1 (k + 1) _ this
      rw [show k + 1 + 1 = 1 + (k + 1) by omega]
      exact h2
    · unfold bellmanref19_Text.f
      rw [if_pos (by omega)]
      have e1 : Int.tdiv (n : Int) 10 = ((n / 10 : Nat) : Int) := by rw [Int.tdiv_eq_ediv_of_nonneg (by omega)]; rfl
      have e2 : Int.tmod (n : Int) 10 = ((n % 10 : Nat) : Int) := by rw [Int.tmod_eq_emod_of_nonneg (by omega)]; rfl
      rw [e1, e2, w64 (by omega) (by omega), ih (n / 10) (by rw [Nat.div_lt_iff_lt_mul (by omega)]; rw [Nat.pow_succ] at hn; exact hn) (by omega) (by omega)]
      have hk1 : 10 ≤ 10 ^ (k + 1) := by rw [Nat.pow_succ]; have := Nat.one_le_two_pow (n := k); have : 1 ≤ 10 ^ k := Nat.one_le_pow _ _ (by omega); omega
      rw [ih (n % 10) (by omega) (by omega) (by omega)]
      simp only [Option.bind_some]
      have l1 := dd_length4 (n / 10) 20 (Nat.lt_of_lt_of_le (show n / 10 < 1000000000000000000000 by omega) (by decide))
      have l2 := dd_length4 (n % 10) 0 (by omega)
      rw [if_pos (by rw [ba_size, ba_size]; omega), ba_append, dd_small (u := n % 10) (by omega), ← dd_big h10]
theorem rtext (n : Int) (h0 : 0 ≤ n) (h1 : n ≤ 9999) (k : Nat) (hk : 5 ≤ k) : bellmanref19_Text.f k n = some (ba (Lib.itoa n)) := by
  obtain ⟨u, rfl⟩ : ∃ u : Nat, n = u := ⟨n.toNat, by omega⟩
  have h5 := rtext_dd 3 u (by omega) (by omega) (by omega)
  rw [itoa_nat]
  obtain ⟨d, rfl⟩ : ∃ d, k = 4 + d := ⟨k - 4, by omega⟩
  exact text_mono _ _ _ _ h5

theorem rline_no (k sub : Int) (t p : ByteArray) (keep : Bool) (K : Nat) (h : plainOK k sub t p keep = false) : bellmanref19_Line.f K k sub t p keep = some (⟨#[]⟩, 10) := by
  unfold bellmanref19_Line.f
  rw [rplain, h]
  rfl
theorem wordB_le (t : ByteArray) : (wordB t).size ≤ 3 * t.size + 1 := by
  have := wordL_length t.data.toList
  have e : t.data.toList.length = t.size := Array.length_toList
  show (wordL t.data.toList).toArray.size ≤ _
  rw [List.size_toArray]
  omega
theorem line_ba (l : List ByteArray) (xs : List Bs) (h : l.map (fun x => x.data.toList) = xs) : ba (Lib.join (l.map (fun x => x.data.toList)) [32]) = ba (Lib.join xs [32]) := by rw [h]
theorem rline_ok (k sub : Int) (t p : ByteArray) (keep : Bool) (K : Nat) (h : plainOK k sub t p keep = true) (ht : t.size ≤ 1000) (hp : p.size ≤ 1000) (hK : 1001 ≤ K) : bellmanref19_Line.f K k sub t p keep = some (lineB k sub t p keep, 0) := by
  unfold bellmanref19_Line.f
  rw [rplain, h]
  obtain ⟨hk, h0, h1⟩ := plain_kind h
  have ht2 := rtext sub h0 h1 K (by omega)
  have hw1 := rword t K (by omega) (by omega)
  have hw2 := rword p K (by omega) (by omega)
  have z1 := wordB_le t
  have z2 := wordB_le p
  have z3 := itoa_len sub h0 h1
  have z3' : (ba (Lib.itoa sub)).size ≤ 25 := by rw [ba_size]; exact Nat.le_trans z3 (by omega)
  have hn : keep = false ∨ k = 3 := by
    by_cases h3 : k = 3
    · exact .inr h3
    · cases keep with
      | false => exact .inl rfl
      | true => rw [plain_no (nameOf_keep h3)] at h; cases h
  simp only [Option.bind_some, if_true]
  rw [ht2, hw1, hw2]
  simp only [Option.bind_some]
  have fin : ∀ (a : ByteArray) (l : Bs), a.data.toList = l → a = ba l := by
    rintro ⟨⟨a⟩⟩ l rfl; rfl
  rcases hk with rfl | rfl | rfl | rfl | rfl
  · obtain rfl : keep = false := by simpa using hn
    rw [if_pos rfl, if_pos (by omega), if_pos (by simp only [ByteArray.size_append]; have c1 : (⟨#[115, 117, 98, 32]⟩ : ByteArray).size = 4 := rfl; omega), if_pos (by simp only [ByteArray.size_append]; have c1 : (⟨#[115, 117, 98, 32]⟩ : ByteArray).size = 4 := rfl; have c2 : (⟨#[32]⟩ : ByteArray).size = 1 := rfl; omega)]
    congr 2
    apply fin
    simp [lineWords, nameOf, kSub, wordB, Lib.join, List.intercalate]
  · obtain rfl : keep = false := by simpa using hn
    rw [if_neg (by omega), if_pos rfl, if_pos (by omega), if_pos (by simp only [ByteArray.size_append]; have c1 : (⟨#[117, 110, 115, 117, 98, 32]⟩ : ByteArray).size = 6 := rfl; omega), if_pos (by simp only [ByteArray.size_append]; have c1 : (⟨#[117, 110, 115, 117, 98, 32]⟩ : ByteArray).size = 6 := rfl; have c2 : (⟨#[32]⟩ : ByteArray).size = 1 := rfl; omega)]
    congr 2
    apply fin
    simp [lineWords, nameOf, kUnsub, wordB, Lib.join, List.intercalate]
  · rw [if_neg (by omega), if_neg (by omega), if_neg (by omega), if_neg (by omega)]
    cases keep with
    | true =>
      rw [if_pos rfl, if_pos (by omega), if_pos (by simp only [ByteArray.size_append]; have c1 : (⟨#[107, 101, 101, 112, 32]⟩ : ByteArray).size = 5 := rfl; omega), if_pos (by simp only [ByteArray.size_append]; have c1 : (⟨#[107, 101, 101, 112, 32]⟩ : ByteArray).size = 5 := rfl; have c2 : (⟨#[32]⟩ : ByteArray).size = 1 := rfl; omega)]
      congr 2
      apply fin
      simp [lineWords, nameOf, kKeep, wordB, Lib.join, List.intercalate]
    | false =>
      rw [if_neg (by simp), if_pos (by omega), if_pos (by simp only [ByteArray.size_append]; have c1 : (⟨#[112, 117, 98, 32]⟩ : ByteArray).size = 4 := rfl; omega), if_pos (by simp only [ByteArray.size_append]; have c1 : (⟨#[112, 117, 98, 32]⟩ : ByteArray).size = 4 := rfl; have c2 : (⟨#[32]⟩ : ByteArray).size = 1 := rfl; omega)]
      congr 2
      apply fin
      simp [lineWords, nameOf, kPub, wordB, Lib.join, List.intercalate]
  · obtain rfl : keep = false := by simpa using hn
    rw [if_neg (by omega), if_neg (by omega), if_pos rfl, if_pos (by omega)]
    congr 2
    apply fin
    simp [lineWords, nameOf, kPoll, Lib.join, List.intercalate]
  · obtain rfl : keep = false := by simpa using hn
    rw [if_neg (by omega), if_neg (by omega), if_neg (by omega), if_pos rfl, if_pos (by omega)]
    congr 2
    apply fin
    simp [lineWords, nameOf, kDrops, Lib.join, List.intercalate]
end Go.Proofs.YtodiohoiekkodaaDoor.Op
end

section
-- PRINTED by print.py (a twelfth state) out of the translation. Not trusted: Lean checks it.
namespace Go.Proofs.YtodiohoiekkodaaDoor.Rf
open Go.RowKit Go.Proofs.YtodiohoiekkodaaDoorW.PrintWords Go.Proofs.YtodiohoiekkodaaDoorW.PrintLast Go.Proofs.YtodiohoiekkodaaDoorW.PrintMore
attribute [local go_sem] max2_int min2_int max_two min_two max_three min_three max_four min_four   -- for this text's walks alone
set_option linter.unusedVariables false
set_option linter.unusedSimpArgs false

/-! ### bellmanref19_Split: function 40 -/
def bellmanref19_Split.l0 : Nat → ByteArray → List ByteArray → Int → Int → Option (List ByteArray)
  | 0, _, _, _, _ => none
  | k + 1, x0, x3, x4, x5 => if x5 < (x0.size : Int) then (if 0 ≤ x5 then (if (bt x0 x5) = 32 then (if 0 ≤ x4 then (if x4 ≤ x5 then (if x5 ≤ (x0.size : Int) then (if x3.length < 8796093022208 then (bellmanref19_Split.l0 k x0 (x3 ++ [x0.extract (x4 : Int).toNat (x5 : Int).toNat]) (wrap64 (x5 + 1)) (wrap64 (x5 + 1))) else (none)) else (none)) else (none)) else (none)) else (bellmanref19_Split.l0 k x0 x3 x4 (wrap64 (x5 + 1)))) else (none)) else (if 0 ≤ x4 then (if x4 ≤ (x0.size : Int) then (if x3.length < 8796093022208 then (some (x3 ++ [x0.extract (x4 : Int).toNat x0.size])) else (none)) else (none)) else (none))
def bellmanref19_Split.f (k : Nat) (a0 : ByteArray) : Option (List ByteArray) := bellmanref19_Split.l0 k a0 ([] : List ByteArray) 0 0
theorem bellmanref19_Split.mono_l : ∀ k, (∀ y0 y1 y2 y3, LeO (bellmanref19_Split.l0 k y0 y1 y2 y3) (bellmanref19_Split.l0 (k + 1) y0 y1 y2 y3))
  | 0 => fun _ _ _ _ r h => by simp [bellmanref19_Split.l0] at h
  | k + 1 => by
    have ih0 := bellmanref19_Split.mono_l k
    · intro y0 y1 y2 y3
      unfold bellmanref19_Split.l0
      repeat' first
      | (with_reducible exact ih0 _ _ _ _)
      | (with_reducible exact LeO.refl _)
      | (with_reducible exact LeO.none _)
      | (with_reducible refine LeO.ite ?_ ?_)
      | (with_reducible refine LeO.bind ?_ (fun _ => ?_))
      | exact ih0 _ _ _ _
      | exact LeO.none _
      | refine LeO.ite ?_ ?_
      | refine LeO.bind ?_ (fun _ => ?_)
theorem bellmanref19_Split.mono : ∀ a0 k, LeO (bellmanref19_Split.f k a0) (bellmanref19_Split.f (k + 1) a0) := by
  intro a0 k
  have ih0 := bellmanref19_Split.mono_l k
  unfold bellmanref19_Split.f
  repeat' first
      | (with_reducible exact ih0 _ _ _ _)
      | (with_reducible exact LeO.refl _)
      | (with_reducible exact LeO.none _)
      | (with_reducible refine LeO.ite ?_ ?_)
      | (with_reducible refine LeO.bind ?_ (fun _ => ?_))
      | exact ih0 _ _ _ _
      | exact LeO.none _
      | refine LeO.ite ?_ ?_
      | refine LeO.bind ?_ (fun _ => ?_)
set_option maxHeartbeats 8000000 in
set_option maxRecDepth 100000 in
theorem bellmanref19_Split.calls (k : Nat) (a0 : ByteArray) (r : List ByteArray) (w : World) (h : bellmanref19_Split.f k a0 = some r) :
    Calls Tryd.prog 40 #[.string a0] w fun e w' => ∃ v0_ : Value, e = .returned (v0_) ∧ Kd.R Kd.string 9 w' w.heap.size (fun _ => True) v0_ r ∧ Below w.heap.size w w' := by
  have HB := Aside0.mk (Below.refl w.heap.size w)
  have H : (bellmanref19_Split.l0 k a0 ([] : List ByteArray) 0 0) = some r := h
  clear h
  have H' := Aside0.mk H
  clear H
  go_enter Tryd.func40, Tryd.ntmps40
  go_wp2
  go_loopg [3, 4, 5] k (fun kq v3 v4 v5 w' => ∃ (x3_1 : List ByteArray) (x4_1 : Int) (x5_1 : Int), v4 = .int .i64 x4_1 ∧ v5 = .int .i64 x5_1 ∧ Aside0 (bellmanref19_Split.l0 kq a0 x3_1 x4_1 x5_1 = some r) ∧ Aside0 (kq ≤ k) ∧ Aside0 (Kd.R Kd.string 9 w' w.heap.size (fun _ => True) v3 x3_1) ∧ Aside0 (Below w.heap.size w w'))
  case atStart => exact ⟨(([] : List ByteArray)), (0), (0), (by first | rfl | (simp; done) | (simp [*]; done)), (by first | rfl | (simp; done) | (simp [*]; done)), H', ⟨Nat.le_refl _⟩, ⟨by first | exact Kd.R_nil _ _ _ _ _ | exact Kd.N_nil _ _ _ _ _ | exact Kd.V_nil _ _ _ _ _ | exact Kd.Q_nil _ _ _ _ _ | exact Kd.S_nil _ _ _ _ _⟩, ⟨by repeat (first | (with_reducible first | exact HB.out | apply below_alloc | apply pw_below_drewN | apply below_drew1) | exact HB.out)⟩⟩
  case round =>
    clear H'
    obtain ⟨x3_1, x4_1, x5_1, rfl, rfl, HA, HK1, HO_3, HB⟩ := hrel
    cases gk with
    | zero => exact absurd HA.out (by simp [bellmanref19_Split.l0])
    | succ k1 =>
      have H := HA.out
      clear HA
      simp only [bellmanref19_Split.l0] at H
      by_cases c2 : x5_1 < (a0.size : Int)
      · rw [if_pos c2] at H
        have c2b0 : decide (x5_1 < (a0.size : Int)) = true := decide_eq_true c2
        clear c2
        by_cases c3 : 0 ≤ x5_1
        · rw [if_pos c3] at H
          have c3b0 : decide (0 ≤ x5_1) = true := decide_eq_true c3
          clear c3
          by_cases c5 : (bt a0 x5_1) = 32
          · rw [if_pos c5] at H
            have c5b0 : ((bt a0 x5_1) == 32) = true := beq_iff_eq.mpr c5
            have c5b1 : ((bt a0 x5_1) != 32) = false := bne_eq_false_iff_eq.mpr c5
            clear c5
            by_cases c6 : 0 ≤ x4_1
            · rw [if_pos c6] at H
              have c6b0 := eq_true c6
              have c6b1 : decide (0 ≤ x4_1) = true := decide_eq_true c6
              clear c6
              by_cases c7 : x4_1 ≤ x5_1
              · rw [if_pos c7] at H
                have c7b0 := eq_true c7
                have c7b1 : decide (x4_1 ≤ x5_1) = true := decide_eq_true c7
                clear c7
                by_cases c8 : x5_1 ≤ (a0.size : Int)
                · rw [if_pos c8] at H
                  have c8b0 := eq_true c8
                  have c8b1 : decide (x5_1 ≤ (a0.size : Int)) = true := decide_eq_true c8
                  clear c8
                  by_cases c9 : x3_1.length < 8796093022208
                  · rw [if_pos c9] at H
                    have LMc9 := Aside0.mk c9
                    clear c9
                    obtain ⟨y119, hy119⟩ : ∃ y_ : List ByteArray, y_ = (x3_1 ++ [a0.extract (x4_1 : Int).toNat (x5_1 : Int).toNat]) := ⟨_, rfl⟩
                    replace H : (bellmanref19_Split.l0 k1 a0 y119 (wrap64 (x5_1 + 1)) (wrap64 (x5_1 + 1))) = some r := by first | (rw [hy119]; with_reducible exact H) | (have H2_ := (Option.bind_some _ _).symm.trans H; rw [hy119]; with_reducible exact H2_) | (have H2_ := (Option.bind_some _ _).symm.trans H; with_reducible exact H2_) | with_reducible exact H | (rw [hy119]; exact H) | exact H
                    have Ny119 := Aside0.mk hy119
                    clear hy119
                    have H' := Aside0.mk H
                    clear H
                    have p4 : 0 ≤ (x5_1 : Int) := of_decide_eq_true (by first | (with_reducible assumption) | assumption)
                    have q4 : x5_1 < (a0.size : Int) := of_decide_eq_true (by first | (with_reducible assumption) | assumption)
                    have hx4 := bt_at a0 x5_1
                    replace p4 := eq_true p4
                    replace q4 := eq_true q4
                    go_wp2_with (first | ((with_reducible refine gate_builtin (b := .append) (xs := #[.tmp 16, .tmp 21]) rfl ?_); at_builtin; refine Kd.R_append Kd.string (w0 := w) w.heap.size rfl (.tmp 16) (.tmp 21) 58 9 (.string ⟨#[]⟩) 16 rfl Tryd.underlying58 info9 rfl (by decide) (by omega) u3 x3_1 (a0.extract (x4_1 : Int).toNat (x5_1 : Int).toNat) [.string (a0.extract (x4_1 : Int).toNat (x5_1 : Int).toNat)] (fun _ => True) (fun _ => False) rfl rfl ?aP (fun _ hk => hk.elim) ?aF ?aO ?aB ?aS ?aL ?_; (case aP => exact rfl); (case aB => exact (by repeat (first | (with_reducible first | exact HB.out | apply below_alloc | apply pw_below_drewN | apply below_drew1) | exact HB.out))); (case aF => exact (fun _ _ => trivial)); (case aO => exact (by (with_reducible repeat (first | apply Kd.R_alloc | apply Kd.R_drewN | apply Kd.R_drew)); exact HO_3.out)); (case aS => exact (below_size (by repeat (first | (with_reducible first | exact HB.out | apply below_alloc | apply pw_below_drewN | apply below_drew1) | exact HB.out)))); (case aL => have := LMc9.out; omega); intro v120 w10 ho hb hg hat; rw [← Ny119.out] at ho; have n0_ := Aside0.mk (hb); have n1_ := Aside0.mk (ho); clear HB; clear HO_3; have HB := n0_; have HO121 := n1_; clear n0_ n1_; clear ho hb hg hat))
                    go_roundg k1
                    case measure => have := HK1.out; omega
                    case rel => exact ⟨(y119), (wrap64 (x5_1 + 1)), (wrap64 (x5_1 + 1)), (by first | rfl | (simp; done) | (simp [*]; done)), (by first | rfl | (simp; done) | (simp [*]; done)), H', ⟨by have := HK1.out; omega⟩, ⟨by (with_reducible repeat (first | apply Kd.R_alloc | apply Kd.R_drewN | apply Kd.R_drew)); exact HO121.out⟩, ⟨by repeat (first | (with_reducible first | exact HB.out | apply below_alloc | apply pw_below_drewN | apply below_drew1) | exact HB.out)⟩⟩
                  · rw [if_neg c9] at H
                    exact absurd H (by simp)
                · rw [if_neg c8] at H
                  exact absurd H (by simp)
              · rw [if_neg c7] at H
                exact absurd H (by simp)
            · rw [if_neg c6] at H
              exact absurd H (by simp)
          · rw [if_neg c5] at H
            have c5b0 : ((bt a0 x5_1) == 32) = false := beq_eq_false_iff_ne.mpr c5
            have c5b1 : ((bt a0 x5_1) != 32) = true := bne_iff_ne.mpr c5
            have H' := Aside0.mk H
            clear H
            have p4 : 0 ≤ (x5_1 : Int) := of_decide_eq_true (by first | (with_reducible assumption) | assumption)
            have q4 : x5_1 < (a0.size : Int) := of_decide_eq_true (by first | (with_reducible assumption) | assumption)
            have hx4 := bt_at a0 x5_1
            replace p4 := eq_true p4
            replace q4 := eq_true q4
            go_wp2
            go_roundg k1
            case measure => have := HK1.out; omega
            case rel => exact ⟨(x3_1), (x4_1), (wrap64 (x5_1 + 1)), (by first | rfl | (simp; done) | (simp [*]; done)), (by first | rfl | (simp; done) | (simp [*]; done)), H', ⟨by have := HK1.out; omega⟩, ⟨by (with_reducible repeat (first | apply Kd.R_alloc | apply Kd.R_drewN | apply Kd.R_drew)); exact HO_3.out⟩, ⟨by repeat (first | (with_reducible first | exact HB.out | apply below_alloc | apply pw_below_drewN | apply below_drew1) | exact HB.out)⟩⟩
        · rw [if_neg c3] at H
          exact absurd H (by simp)
      · rw [if_neg c2] at H
        have c2b0 : decide (x5_1 < (a0.size : Int)) = false := decide_eq_false c2
        clear c2
        by_cases c11 : 0 ≤ x4_1
        · rw [if_pos c11] at H
          have c11b0 := eq_true c11
          have c11b1 : decide (0 ≤ x4_1) = true := decide_eq_true c11
          clear c11
          by_cases c12 : x4_1 ≤ (a0.size : Int)
          · rw [if_pos c12] at H
            have c12b0 := eq_true c12
            have c12b1 : decide (x4_1 ≤ (a0.size : Int)) = true := decide_eq_true c12
            clear c12
            by_cases c13 : x3_1.length < 8796093022208
            · rw [if_pos c13] at H
              have LMc13 := Aside0.mk c13
              clear c13
              obtain ⟨y122, hy122⟩ : ∃ y_ : List ByteArray, y_ = (x3_1 ++ [a0.extract (x4_1 : Int).toNat a0.size]) := ⟨_, rfl⟩
              replace H : (some y122) = some r := by first | (rw [hy122]; with_reducible exact H) | (have H2_ := (Option.bind_some _ _).symm.trans H; rw [hy122]; with_reducible exact H2_) | (have H2_ := (Option.bind_some _ _).symm.trans H; with_reducible exact H2_) | with_reducible exact H | (rw [hy122]; exact H) | exact H
              have Ny122 := Aside0.mk hy122
              clear hy122
              obtain rfl := Option.some.inj H
              go_wp2_with (first | ((with_reducible refine gate_builtin (b := .append) (xs := #[.tmp 25, .tmp 29]) rfl ?_); at_builtin; refine Kd.R_append Kd.string (w0 := w) w.heap.size rfl (.tmp 25) (.tmp 29) 58 9 (.string ⟨#[]⟩) 16 rfl Tryd.underlying58 info9 rfl (by decide) (by omega) u3 x3_1 (a0.extract (x4_1 : Int).toNat a0.size) [.string (a0.extract (x4_1 : Int).toNat a0.size)] (fun _ => True) (fun _ => False) rfl rfl ?aP (fun _ hk => hk.elim) ?aF ?aO ?aB ?aS ?aL ?_; (case aP => exact rfl); (case aB => exact (by repeat (first | (with_reducible first | exact HB.out | apply below_alloc | apply pw_below_drewN | apply below_drew1) | exact HB.out))); (case aF => exact (fun _ _ => trivial)); (case aO => exact (by (with_reducible repeat (first | apply Kd.R_alloc | apply Kd.R_drewN | apply Kd.R_drew)); exact HO_3.out)); (case aS => exact (below_size (by repeat (first | (with_reducible first | exact HB.out | apply below_alloc | apply pw_below_drewN | apply below_drew1) | exact HB.out)))); (case aL => have := LMc13.out; omega); intro v123 w14 ho hb hg hat; rw [← Ny122.out] at ho; have n0_ := Aside0.mk (hb); have n1_ := Aside0.mk (ho); clear HB; clear HO_3; have HB := n0_; have HO124 := n1_; clear n0_ n1_; clear ho hb hg hat))
              go_ret
              exact ⟨_, by first | rfl | (simp [errW_none, errW_some] <;> rfl) | (simp [*, errW_none, errW_some] <;> rfl), by (with_reducible repeat (first | apply Kd.R_alloc | apply Kd.R_drewN | apply Kd.R_drew)); exact HO124.out, by repeat (first | (with_reducible first | exact HB.out | apply below_alloc | apply pw_below_drewN | apply below_drew1) | exact HB.out)⟩
            · rw [if_neg c13] at H
              exact absurd H (by simp)
          · rw [if_neg c12] at H
            exact absurd H (by simp)
        · rw [if_neg c11] at H
          exact absurd H (by simp)

end Go.Proofs.YtodiohoiekkodaaDoor.Rf
end

section
-- PRINTED by print.py (a twelfth state) out of the translation. Not trusted: Lean checks it.
namespace Go.Proofs.YtodiohoiekkodaaDoor.Rf
open Go.RowKit Go.Proofs.YtodiohoiekkodaaDoorW.PrintWords Go.Proofs.YtodiohoiekkodaaDoorW.PrintLast Go.Proofs.YtodiohoiekkodaaDoorW.PrintMore
attribute [local go_sem] max2_int min2_int max_two min_two max_three min_three max_four min_four   -- for this text's walks alone
set_option linter.unusedVariables false
set_option linter.unusedSimpArgs false

/-! ### bellmanref19_digit: function 65 -/
def bellmanref19_digit.j0 : Nat → Int → Bool → Option (Int)
  | 0, _, _ => none
  | k + 1, x0, x8 => if x8 = true then (some (wrap64 ((wrap64 (x0)) - 48))) else (if x0 ≥ 97 then (if x0 ≤ 102 then (some (wrap64 ((wrap64 (x0)) - 87))) else (some 16)) else (some 16))
def bellmanref19_digit.f (k : Nat) (a0 : Int) : Option (Int) := if a0 ≥ 48 then (bellmanref19_digit.j0 k a0 (decide (a0 ≤ 57))) else (bellmanref19_digit.j0 k a0 false)
theorem bellmanref19_digit.mono_l : ∀ k, (∀ y0 y1, LeO (bellmanref19_digit.j0 k y0 y1) (bellmanref19_digit.j0 (k + 1) y0 y1))
  | 0 => fun _ _ r h => by simp [bellmanref19_digit.j0] at h
  | k + 1 => by
    have ih0 := bellmanref19_digit.mono_l k
    · intro y0 y1
      unfold bellmanref19_digit.j0
      repeat' first
      | (with_reducible exact ih0 _ _)
      | (with_reducible exact LeO.refl _)
      | (with_reducible exact LeO.none _)
      | (with_reducible refine LeO.ite ?_ ?_)
      | (with_reducible refine LeO.bind ?_ (fun _ => ?_))
      | exact ih0 _ _
      | exact LeO.none _
      | refine LeO.ite ?_ ?_
      | refine LeO.bind ?_ (fun _ => ?_)
theorem bellmanref19_digit.mono : ∀ a0 k, LeO (bellmanref19_digit.f k a0) (bellmanref19_digit.f (k + 1) a0) := by
  intro a0 k
  have ih0 := bellmanref19_digit.mono_l k
  unfold bellmanref19_digit.f
  repeat' first
      | (with_reducible exact ih0 _ _)
      | (with_reducible exact LeO.refl _)
      | (with_reducible exact LeO.none _)
      | (with_reducible refine LeO.ite ?_ ?_)
      | (with_reducible refine LeO.bind ?_ (fun _ => ?_))
      | exact ih0 _ _
      | exact LeO.none _
      | refine LeO.ite ?_ ?_
      | refine LeO.bind ?_ (fun _ => ?_)
set_option maxHeartbeats 8000000 in
set_option maxRecDepth 100000 in
theorem bellmanref19_digit.calls (k : Nat) (a0 : Int) (r : Int) (w : World) (h : bellmanref19_digit.f k a0 = some r) :
    Calls Tryd.prog 65 #[.int .u8 a0] w fun e w' => e = .returned (.int .i64 r) ∧ Drawn0 w w' := by
  have H : (if a0 ≥ 48 then (bellmanref19_digit.j0 k a0 (decide (a0 ≤ 57))) else (bellmanref19_digit.j0 k a0 false)) = some r := h
  clear h
  have HC2 := Aside0.mk H
  clear H
  go_enter Tryd.func65, Tryd.ntmps65
  go_upto_region 1 with (fail)
  go_cut [8] (fun v8 wc => ∃ (kq : Nat) (x8_1 : Bool), v8 = .bool x8_1 ∧ Aside0 (bellmanref19_digit.j0 kq a0 x8_1 = some r) ∧ Aside0 (kq ≤ k) ∧ Drawn0 w wc)
  case first =>
    have H := HC2.out
    clear HC2
    by_cases c3 : a0 ≥ 48
    · rw [if_pos c3] at H
      have c3b0 : decide (48 ≤ a0) = true := decide_eq_true c3
      clear c3
      (first | rw [c3b0] | (simp only [i64_w, i32_w]; rw [c3b0]) | skip)
      have H' := Aside0.mk H
      clear H
      go_wp2
      go_meet
      case rel => exact ⟨_, (decide (a0 ≤ 57)), (by first | rfl | (simp; done) | (simp [*]; done)), H', ⟨by first | omega | exact Nat.le_refl _⟩, by repeat (first | exact Drawn0.refl _ | apply Drawn0.step)⟩
    · rw [if_neg c3] at H
      have c3b0 : decide (48 ≤ a0) = false := decide_eq_false c3
      clear c3
      (first | rw [c3b0] | (simp only [i64_w, i32_w]; rw [c3b0]) | skip)
      have H' := Aside0.mk H
      clear H
      go_wp2
      go_meet
      case rel => exact ⟨_, (false), (by first | rfl | (simp; done) | (simp [*]; done)), H', ⟨by first | omega | exact Nat.le_refl _⟩, by repeat (first | exact Drawn0.refl _ | apply Drawn0.step)⟩
  case rest =>
    clear HC2
    try clear p2
    try clear c3
    try clear c3b0
    obtain ⟨kq, x8_1, rfl, HA, HJ1, ⟨mc1, rfl⟩⟩ := hcut
    cases kq with
    | zero => exact absurd HA.out (by simp [bellmanref19_digit.j0])
    | succ kj1 =>
      have H := HA.out
      clear HA
      simp only [bellmanref19_digit.j0] at H
      by_cases c4 : x8_1 = true
      · subst c4
        have H1 : (some (wrap64 ((wrap64 (a0)) - 48))) = some r := by rw [if_pos rfl] at H; exact H
        clear H
        have H := H1
        clear H1
        obtain rfl := Option.some.inj H
        go_wp2
        go_ret
        exact ⟨by first | rfl | (simp; done) | (simp [*]; done), by repeat (first | exact Drawn0.refl _ | apply Drawn0.step)⟩
      · replace c4 := Bool.eq_false_iff.mpr c4
        subst c4
        have H1 : (if a0 ≥ 97 then (if a0 ≤ 102 then (some (wrap64 ((wrap64 (a0)) - 87))) else (some 16)) else (some 16)) = some r := by rw [if_neg (show ¬ (false = true) by decide)] at H; exact H
        clear H
        have H := H1
        clear H1
        by_cases c5 : a0 ≥ 97
        · rw [if_pos c5] at H
          have c5b0 : decide (97 ≤ a0) = true := decide_eq_true c5
          clear c5
          by_cases c6 : a0 ≤ 102
          · rw [if_pos c6] at H
            have c6b0 : decide (a0 ≤ 102) = true := decide_eq_true c6
            clear c6
            obtain rfl := Option.some.inj H
            go_wp2
            go_ret
            exact ⟨by first | rfl | (simp; done) | (simp [*]; done), by repeat (first | exact Drawn0.refl _ | apply Drawn0.step)⟩
          · rw [if_neg c6] at H
            have c6b0 : decide (a0 ≤ 102) = false := decide_eq_false c6
            clear c6
            obtain rfl := Option.some.inj H
            go_wp2
            go_ret
            exact ⟨by first | rfl | (simp; done) | (simp [*]; done), by repeat (first | exact Drawn0.refl _ | apply Drawn0.step)⟩
        · rw [if_neg c5] at H
          have c5b0 : decide (97 ≤ a0) = false := decide_eq_false c5
          clear c5
          obtain rfl := Option.some.inj H
          go_wp2
          go_ret
          exact ⟨by first | rfl | (simp; done) | (simp [*]; done), by repeat (first | exact Drawn0.refl _ | apply Drawn0.step)⟩

end Go.Proofs.YtodiohoiekkodaaDoor.Rf
end
