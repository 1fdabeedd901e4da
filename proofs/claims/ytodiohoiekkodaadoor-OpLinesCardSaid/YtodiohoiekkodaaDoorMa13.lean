/- What the reference's Unword computes: a plain law. What the reference reads from a line: definitions, and contracts of what its Parse calls. The walk of the reference's Parse, way by way (printed by prgen.py). -/
import Derived.Test.YtodiohoiekkodaaDoorMa12
section
set_option linter.unusedVariables false
namespace Go.Proofs.YtodiohoiekkodaaDoor.Op
open Go.RowKit Go.Proofs.YtodiohoiekkodaaDoor.Bd Go.Proofs.YtodiohoiekkodaaDoor.Sp Go.Proofs.YtodiohoiekkodaaDoor.Rf Go.Proofs.YtodiohoiekkodaaDoorW.PrintWords

def digL (c : UInt8) : Option Nat := if 48 ≤ c.toNat ∧ c.toNat ≤ 57 then some (c.toNat - 48) else if 97 ≤ c.toNat ∧ c.toNat ≤ 102 then some (c.toNat - 87) else none
def dgv (c : UInt8) : Int := match digL c with
  | some x => x
  | none => 16
theorem digL_lt {c : UInt8} {x : Nat} (h : digL c = some x) : x < 16 ∧ hexd x = c := by
  have hh : ∀ p : Fin 256, ∀ x, digL (UInt8.ofNat p.val) = some x → x < 16 ∧ hexd x = UInt8.ofNat p.val := by
    intro p x hx
    have : ∀ p : Fin 256, (match digL (UInt8.ofNat p.val) with | some x => decide (x < 16 ∧ hexd x = UInt8.ofNat p.val) | none => true) = true := by decide +kernel
    have h2 := this p
    rw [hx] at h2
    simpa using h2
  have := hh ⟨c.toNat, c.toNat_lt⟩ x (by simpa using h)
  simpa using this
theorem digL_hexd (n : Nat) (h : n < 16) : digL (hexd n) = some n := by
  have : ∀ p : Fin 16, digL (hexd p.val) = some p.val := by decide
  exact this ⟨n, h⟩
theorem rdigit1 : ∀ c : Fin 256, bellmanref19_digit.f 1 (c.val : Int) = some (dgv (UInt8.ofNat c.val)) := by decide +kernel
theorem rdigit (c : UInt8) (k : Nat) (hk : 1 ≤ k) : bellmanref19_digit.f k (c.toNat : Int) = some (dgv c) := by
  have h := rdigit1 ⟨c.toNat, c.toNat_lt⟩
  simp only [UInt8.ofNat_toNat] at h
  obtain ⟨d, rfl⟩ : ∃ d, k = 1 + d := ⟨k - 1, by omega⟩
  clear hk
  induction d with
  | zero => exact h
  | succ d ih => exact bellmanref19_digit.mono _ _ _ ih

/-- The bytes that a word tells, as the document says. -/
def run : Bs → Option Bs
  | [] => some []
  | c :: r => if c.toNat < 33 ∨ 126 < c.toNat then none else if c.toNat = 37 then
      match r with
      | a :: b :: t => match digL a, digL b with
        | some x, some y => if plainB (UInt8.ofNat (16 * x + y)) = true then none else (run t).map (UInt8.ofNat (16 * x + y) :: ·)
        | _, _ => none
      | _ => none
    else (run r).map (c :: ·)

theorem run_plain (c : UInt8) (t : Bs) (h : plainB c = true) : run (c :: t) = (run t).map (c :: ·) := by
  have hp : 33 ≤ c.toNat ∧ c.toNat ≤ 126 ∧ c.toNat ≠ 37 := by simpa [plainB, and_assoc] using h
  have h1 : ¬ (c.toNat < 33 ∨ 126 < c.toNat) := by omega
  rcases t with _ | ⟨a, _ | ⟨b, t⟩⟩ <;> simp only [run, if_neg h1, if_neg hp.2.2]
theorem run_out (c : UInt8) (t : Bs) (h : c.toNat < 33 ∨ 126 < c.toNat) : run (c :: t) = none := by
  rcases t with _ | ⟨a, _ | ⟨b, t⟩⟩ <;> simp only [run, if_pos h]
theorem run_mark (a b : UInt8) (t : Bs) (x y : Nat) (hx : digL a = some x) (hy : digL b = some y) : run (37 :: a :: b :: t) = if plainB (UInt8.ofNat (16 * x + y)) = true then none else (run t).map (UInt8.ofNat (16 * x + y) :: ·) := by
  simp [run, hx, hy]
theorem run_mark_bad (a b : UInt8) (t : Bs) (h : digL a = none ∨ digL b = none) : run (37 :: a :: b :: t) = none := by
  rcases h with h | h
  · simp [run, h]
  · cases hx : digL a <;> simp [run, h, hx]
theorem run_mark_short (t : Bs) (h : t.length < 2) : run (37 :: t) = none := by
  rcases t with _ | ⟨a, _ | ⟨b, t⟩⟩
  · simp [run]
  · simp [run]
  · simp at h; omega

theorem run_encB (c : UInt8) (t : Bs) : run (encB c ++ t) = (run t).map (c :: ·) := by
  unfold encB
  split
  · rename_i h; exact run_plain c t h
  · rename_i hp
    have hc := c.toNat_lt
    have h1 := digL_hexd (c.toNat / 16) (by omega)
    have h2 := digL_hexd (c.toNat % 16) (by omega)
    have e : 16 * (c.toNat / 16) + c.toNat % 16 = c.toNat := by omega
    show run (37 :: hexd (c.toNat / 16) :: hexd (c.toNat % 16) :: t) = _
    rw [run_mark _ _ _ _ _ h1 h2, e, UInt8.ofNat_toNat, if_neg hp]
theorem run_flatMap (l : Bs) : run (l.flatMap encB) = some l := by
  induction l with
  | nil => rfl
  | cons c r ih => rw [List.flatMap_cons, run_encB, ih]; rfl

theorem run_some : ∀ (n : Nat) (l t : Bs), l.length ≤ n → run l = some t → t.flatMap encB = l := by
  intro n
  induction n with
  | zero =>
    intro l t hl h
    obtain rfl : l = [] := List.eq_nil_of_length_eq_zero (by omega)
    simp only [run, Option.some.injEq] at h
    subst h; rfl
  | succ n ih =>
    intro l t hl h
    match l with
    | [] =>
      simp only [run, Option.some.injEq] at h
      subst h; rfl
    | c :: r =>
      by_cases ho : c.toNat < 33 ∨ 126 < c.toNat
      · rw [run_out c r ho] at h; cases h
      by_cases h37 : c.toNat = 37
      · obtain rfl : c = 37 := UInt8.toNat_inj.1 (by simpa using h37)
        match r, hl, h with
        | [], hl, h => rw [run_mark_short _ (by simp)] at h; cases h
        | [a], hl, h => rw [run_mark_short _ (by simp)] at h; cases h
        | a :: b :: r, hl, h =>
          cases hx : digL a with
          | none => rw [run_mark_bad a b r (.inl hx)] at h; cases h
          | some x =>
            cases hy : digL b with
            | none => rw [run_mark_bad a b r (.inr hy)] at h; cases h
            | some y =>
              rw [run_mark a b r x y hx hy] at h
              split at h
              · cases h
              · rename_i hp
                obtain ⟨u, hu, rfl⟩ := Option.map_eq_some_iff.1 h
                have h1 := digL_lt hx
                have h2 := digL_lt hy
                rw [List.flatMap_cons, ih r u (by simp at hl; omega) hu]
                have e : (UInt8.ofNat (16 * x + y)).toNat = 16 * x + y := by simp; omega
                simp only [encB, hp, e]
                rw [show (16 * x + y) / 16 = x by omega, show (16 * x + y) % 16 = y by omega, h1.2, h2.2]
                rfl
      · have hp : plainB c = true := by simp [plainB]; omega
        rw [run_plain c r hp] at h
        obtain ⟨u, hu, rfl⟩ := Option.map_eq_some_iff.1 h
        rw [List.flatMap_cons, ih r u (by simp at hl; omega) hu]
        simp [encB, hp]

/-- The document's answer is the program's. -/
theorem run_iff (w : Bs) (h1 : w ≠ [37]) (h0 : w ≠ []) : run w = unwordL w := by
  cases hu : unwordL w with
  | some s =>
    have h := (unwordL_iff w s).1 hu
    by_cases hs : s = []
    · subst hs; exact absurd h.symm h1
    · rw [← h]; simp only [wordL, hs, if_false]; exact run_flatMap s
  | none =>
    cases hr : run w with
    | none => rfl
    | some t =>
      have h := run_some w.length w t (Nat.le_refl _) hr
      have hs : t ≠ [] := by rintro rfl; exact h0 h.symm
      have : unwordL w = some t := (unwordL_iff w t).2 (by simp only [wordL, hs, if_false]; exact h)
      rw [hu] at this; cases this

def unwR (x : List Int) : Option Bs → ByteArray × Bool
  | some t => (strOfNums (x ++ t.map fun c => (c.toNat : Int)), true)
  | none => (⟨#[]⟩, false)
theorem unwR_cons (x : List Int) (c : UInt8) (r : Option Bs) : unwR x (r.map (c :: ·)) = unwR (x ++ [(c.toNat : Int)]) r := by
  cases r with
  | none => rfl
  | some t => simp [unwR]

theorem j2_true (k : Nat) (s : ByteArray) (x : List Int) (i : Int) (hk : 1 ≤ k) : bellmanref19_Unword.j2 k s x i true = some (⟨#[]⟩, false) := by
  obtain ⟨k, rfl⟩ : ∃ k', k = k' + 1 := ⟨k - 1, by omega⟩
  rw [bellmanref19_Unword.j2, if_pos rfl]
theorem j1_true (k : Nat) (s : ByteArray) (x : List Int) (i : Int) (hk : 1 ≤ k) : bellmanref19_Unword.j1 k s x i true = some (⟨#[]⟩, false) := by
  obtain ⟨k, rfl⟩ : ∃ k', k = k' + 1 := ⟨k - 1, by omega⟩
  rw [bellmanref19_Unword.j1, if_pos rfl]

theorem wr (i j : Nat) (c : Int) (h : (i : Int) + c = (j : Int)) (hj : j < 1000000000000) : wrap64 ((i : Int) + c) = (j : Int) := by rw [h]; exact w64 (by omega) (by omega)
theorem lt16 {u : Nat} (h : u < 16) : ¬ ((u : Int) = 16) := by omega
theorem byte_of {u v : Nat} (hu : u < 16) (hv : v < 16) : (wrap64 ((wrap64 ((u : Int) * 16)) + (v : Int))) % 256 = ((UInt8.ofNat (16 * u + v)).toNat : Int) := by
  have e5 : (UInt8.ofNat (16 * u + v)).toNat = 16 * u + v := by simp; omega
  rw [e5, w64 (a := (u : Int) * 16) (by omega) (by omega), w64 (by omega) (by omega)]
  omega
theorem byte_cases (c : UInt8) : ((c.toNat : Int) < 33 ∧ (c.toNat < 33 ∨ 126 < c.toNat)) ∨ (¬ (c.toNat : Int) < 33 ∧ (c.toNat : Int) > 126 ∧ (c.toNat < 33 ∨ 126 < c.toNat)) ∨ (¬ (c.toNat : Int) < 33 ∧ ¬ (c.toNat : Int) > 126 ∧ c = 37) ∨ (¬ (c.toNat : Int) < 33 ∧ ¬ (c.toNat : Int) > 126 ∧ ¬ (c.toNat : Int) = 37 ∧ plainB c = true) := by
  by_cases h1 : (c.toNat : Int) < 33
  · exact .inl ⟨h1, by omega⟩
  by_cases h2 : (c.toNat : Int) > 126
  · exact .inr (.inl ⟨h1, h2, by omega⟩)
  by_cases h3 : (c.toNat : Int) = 37
  · exact .inr (.inr (.inl ⟨h1, h2, UInt8.toNat_inj.1 (Int.ofNat.inj h3)⟩))
  · exact .inr (.inr (.inr ⟨h1, h2, h3, by simp [plainB]; omega⟩))
theorem wj2 (s : ByteArray) (hs : s.size ≤ 100000) (k i : Nat) (x : List Int) (a b : UInt8) (u v : Nat) (l2 : i + 2 < s.size) (hk : 1 ≤ k) (xl : x.length < 140737488355328)
    (hx : digL a = some u) (hy : digL b = some v) : bt s ((i + 1 : Nat) : Int) = (a.toNat : Int) → bt s ((i + 2 : Nat) : Int) = (b.toNat : Int) →
    bellmanref19_Unword.j2 (k + 1) s x (i : Int) false = if plainB (UInt8.ofNat (16 * u + v)) = true then some (⟨#[]⟩, false) else bellmanref19_Unword.l0 k s (x ++ [((UInt8.ofNat (16 * u + v)).toNat : Int)]) ((i + 3 : Nat) : Int) := by
  have d1 : (0 : Int) ≤ ((i + 1 : Nat) : Int) := by omega
  have d2 : ((i + 1 : Nat) : Int) < (s.size : Int) := by omega
  have d3 : (0 : Int) ≤ ((i + 2 : Nat) : Int) := by omega
  have d4 : ((i + 2 : Nat) : Int) < (s.size : Int) := by omega
  have hw1 := wr i (i + 1) 1 (by omega) (by omega)
  have hw2 := wr i (i + 2) 2 (by omega) (by omega)
  have hw3 := wr (i + 2) (i + 3) 1 (by omega) (by omega)
  have ev := byte_of (digL_lt hx).1 (digL_lt hy).1
  intro hb1 hb2
  have e : dgv a = (u : Int) := by simp only [dgv, hx]
  have e2 : dgv b = (v : Int) := by simp only [dgv, hy]
  rw [bellmanref19_Unword.j2, if_neg (by simp), hw1, if_pos d1, if_pos d2, hb1, rdigit a _ hk]
  rw [Option.bind_some]
  rw [hw2, if_pos d3, if_pos d4, hb2, rdigit b _ hk]
  rw [Option.bind_some]
  rw [e, e2, ev, hw3]
  clear ev hb1 hb2 hw1 hw2 hw3 e e2 hx hy d1 d2 d3 d4 hs l2
  generalize UInt8.ofNat (16 * u + v) = d
  by_cases hp : plainB d = true
  · have hpp : 33 ≤ d.toNat ∧ d.toNat ≤ 126 ∧ d.toNat ≠ 37 := by simpa [plainB, and_assoc] using hp
    have g1 : (d.toNat : Int) ≥ 33 := by omega
    have g2 : (d.toNat : Int) ≤ 126 := by omega
    have g3 : ¬ ((d.toNat : Int) = 37) := by omega
    rw [if_pos hp, if_pos g1, if_pos g2, if_neg g3]
  · have hpp : d.toNat < 33 ∨ 126 < d.toNat ∨ d.toNat = 37 := by simp [plainB] at hp; omega
    rw [if_neg hp, if_pos xl]
    by_cases g1 : (d.toNat : Int) ≥ 33
    · rw [if_pos g1]
      by_cases g2 : (d.toNat : Int) ≤ 126
      · have g3 : (d.toNat : Int) = 37 := by omega
        rw [if_pos g2, if_pos g3]
      · rw [if_neg g2]
    · rw [if_neg g1]

theorem wj1 (s : ByteArray) (hs : s.size ≤ 100000) (k i : Nat) (x : List Int) (r : Bs) (hlt : i < s.size) (hk : 1 ≤ k) (xl : x.length < 140737488355328)
    (hd : s.data.toList.drop (i + 1) = r) : bt s (i : Int) = ((37 : UInt8).toNat : Int) →
    (i + 3 ≤ s.size → ∀ y, bellmanref19_Unword.l0 k s (x ++ [y]) ((i + 3 : Nat) : Int) = some (unwR (x ++ [y]) (run (s.data.toList.drop (i + 3))))) →
    bellmanref19_Unword.j1 (k + 2) s x (i : Int) false = some (unwR x (run (37 :: r))) := by
  have c1 : (i : Int) < (s.size : Int) := by omega
  have c2 : (0 : Int) ≤ (i : Int) := by omega
  have k2 : 1 ≤ k + 1 := by omega
  have hcase : (((i + 2 : Nat) : Int) ≥ (s.size : Int) ∧ s.size - (i + 1) < 2) ∨ (¬ (((i + 2 : Nat) : Int) ≥ (s.size : Int)) ∧ i + 1 < s.size ∧ i + 2 < s.size ∧ i + 3 ≤ s.size ∧ (0 : Int) ≤ ((i + 1 : Nat) : Int) ∧ ((i + 1 : Nat) : Int) < (s.size : Int) ∧ (0 : Int) ≤ ((i + 2 : Nat) : Int) ∧ ((i + 2 : Nat) : Int) < (s.size : Int)) := by omega
  have hw1 := wr i (i + 1) 1 (by omega) (by omega)
  have hw2 := wr i (i + 2) 2 (by omega) (by omega)
  intro hb ih
  have h37 : ((37 : UInt8).toNat : Int) = 37 := rfl
  have el : s.data.toList.length = s.size := Array.length_toList
  rw [bellmanref19_Unword.j1, if_neg (by simp), if_pos c2, if_pos c1, hb, if_pos h37, hw2]
  rcases hcase with ⟨he, hl⟩ | ⟨he, l1, l2, l3, d1, d2, d3, d4⟩
  · have hl2 : r.length < 2 := by rw [← hd, List.length_drop, el]; exact hl
    rw [if_pos he, j2_true _ _ _ _ k2, run_mark_short _ hl2]; rfl
  have ih := ih l3
  have l1' : i + 1 < s.data.toList.length := el ▸ l1
  have l2' : i + 2 < s.data.toList.length := el ▸ l2
  have hb1 := bt_nat s (i + 1) l1
  have hb2 := bt_nat s (i + 2) l2
  have hd2 : r = s.data.toList[i + 1]'l1' :: s.data.toList[i + 2]'l2' :: s.data.toList.drop (i + 3) := by
    rw [← hd, List.drop_eq_getElem_cons l1', List.drop_eq_getElem_cons l2']
  clear hd hb
  rw [if_neg he, hw1, if_pos d1, if_pos d2, hb1, hd2, rdigit _ _ k2]
  clear hd2
  generalize s.data.toList[i + 1]'l1' = a at *
  generalize s.data.toList[i + 2]'l2' = b at *
  rw [Option.bind_some]
  cases hx : digL a with
  | none =>
    have e : dgv a = 16 := by simp only [dgv, hx]
    rw [e, if_pos rfl, j2_true _ _ _ _ k2, run_mark_bad _ _ _ (.inl hx)]; rfl
  | some u =>
    have hu := (digL_lt hx).1
    have e : dgv a = (u : Int) := by simp only [dgv, hx]
    have e' : ¬ ((u : Int) = 16) := lt16 hu
    rw [e, if_neg e', if_pos d3, if_pos d4, hb2, rdigit b _ k2]
    rw [Option.bind_some]
    cases hy : digL b with
    | none =>
      have e2 : dgv b = 16 := by simp only [dgv, hy]
      have e3 : (dgv b == 16) = true := by rw [e2]; rfl
      rw [e3, j2_true _ _ _ _ k2, run_mark_bad _ _ _ (.inr hy)]; rfl
    | some v =>
      have hv := (digL_lt hy).1
      have e2 : dgv b = (v : Int) := by simp only [dgv, hy]
      have e3 : (dgv b == 16) = false := by rw [e2]; exact beq_eq_false_iff_ne.2 (lt16 hv)
      rw [e3, wj2 s hs k i x a b u v l2 hk xl hx hy hb1 hb2, run_mark _ _ _ _ _ hx hy]
      by_cases hp : plainB (UInt8.ofNat (16 * u + v)) = true
      · rw [if_pos hp, if_pos hp]; rfl
      · rw [if_neg hp, if_neg hp, ih, unwR_cons]

theorem runw_l0 (s : ByteArray) (hs : s.size ≤ 100000) : ∀ (n i k : Nat) (x : List Int), s.size - i ≤ n → i ≤ s.size → 3 * n + 1 ≤ k → x.length ≤ i →
    bellmanref19_Unword.l0 k s x (i : Int) = some (unwR x (run (s.data.toList.drop i))) := by
  intro n
  induction n with
  | zero =>
    intro i k x hn hi hk hx
    obtain ⟨k, rfl⟩ : ∃ k', k = k' + 1 := ⟨k - 1, by omega⟩
    have c1 : ¬ ((i : Int) < (s.size : Int)) := by omega
    have el : s.data.toList.length = s.size := Array.length_toList
    have hl : s.data.toList.length ≤ i := by rw [el]; omega
    rw [bellmanref19_Unword.l0, if_neg c1, List.drop_of_length_le hl]
    simp [run, unwR]
  | succ n ih =>
    intro i k x hn hi hk hx
    by_cases hlt : i < s.size
    case neg =>
      obtain ⟨k, rfl⟩ : ∃ k', k = k' + 1 := ⟨k - 1, by omega⟩
      have c1 : ¬ ((i : Int) < (s.size : Int)) := by omega
      have el : s.data.toList.length = s.size := Array.length_toList
      have hl : s.data.toList.length ≤ i := by rw [el]; omega
      rw [bellmanref19_Unword.l0, if_neg c1, List.drop_of_length_le hl]
      simp [run, unwR]
    obtain ⟨k, rfl⟩ : ∃ k', k = k' + 3 := ⟨k - 3, by omega⟩
    have c1 : (i : Int) < (s.size : Int) := by omega
    have c2 : (0 : Int) ≤ (i : Int) := by omega
    have xl : x.length < 140737488355328 := by omega
    have xl1 : ∀ y, (x ++ [y]).length ≤ i + 1 := fun y => by rw [List.length_append, List.length_singleton]; omega
    have xl3 : ∀ y, (x ++ [y]).length ≤ i + 3 := fun y => by rw [List.length_append, List.length_singleton]; omega
    have ih1 := fun y => ih (i + 1) (k + 1) (x ++ [y]) (by omega) hlt (by omega) (xl1 y)
    have ih3 := fun (h3 : i + 3 ≤ s.size) y => ih (i + 3) k (x ++ [y]) (by omega) h3 (by omega) (xl3 y)
    have k1 : 1 ≤ k := by omega
    have k3 : 1 ≤ k + 2 := by omega
    have hw1 := wr i (i + 1) 1 (by omega) (by omega)
    have el : s.data.toList.length = s.size := Array.length_toList
    have hlt' : i < s.data.toList.length := el ▸ hlt
    have hb := bt_nat s i hlt
    have hd : s.data.toList.drop i = s.data.toList[i]'hlt' :: s.data.toList.drop (i + 1) := List.drop_eq_getElem_cons hlt'
    rw [bellmanref19_Unword.l0, if_pos c1, if_pos c2, hb, hd]
    clear hd hn hi hk hx ih
    generalize s.data.toList[i]'hlt' = c at *
    rcases byte_cases c with ⟨hlo, ho⟩ | ⟨hlo, hhi, ho⟩ | ⟨hlo, hhi, hc⟩ | ⟨hlo, hhi, h37, hp⟩
    · rw [if_pos hlo, j1_true _ _ _ _ k3, run_out c _ ho]; rfl
    · rw [if_neg hlo, decide_eq_true hhi, j1_true _ _ _ _ k3, run_out c _ ho]; rfl
    · subst hc
      rw [if_neg hlo, decide_eq_false hhi]
      exact wj1 s hs k i x _ hlt k1 xl rfl hb ih3
    · rw [if_neg hlo, decide_eq_false hhi, bellmanref19_Unword.j1, if_neg (by simp), if_pos c2, if_pos c1, hb, if_neg h37, if_pos xl, hw1, ih1, run_plain c _ hp, unwR_cons]

theorem strOfNums_ba (t : Bs) : strOfNums (t.map fun c => (c.toNat : Int)) = ba t := by
  unfold strOfNums
  apply ByteArray.ext
  simp [Function.comp_def]
theorem runw (s : ByteArray) (k : Nat) (hs : s.size ≤ 100000) (hk : 3 * s.size + 1 ≤ k) : bellmanref19_Unword.f k s = some (unwT s, unwO s) := by
  unfold bellmanref19_Unword.f unwT unwO
  rw [bytes_toList]
  by_cases h37 : s.data.toList = [37]
  · rw [if_pos h37, h37]; rfl
  rw [if_neg h37]
  by_cases h0 : s.data.toList = []
  · rw [if_pos h0, h0]; rfl
  rw [if_neg h0]
  have h := runw_l0 s hs s.size 0 k [] (by omega) (by omega) (by omega) (by simp)
  rw [List.drop_zero, run_iff _ h37 h0] at h
  refine Eq.trans h ?_
  cases unwordL s.data.toList with
  | none => rfl
  | some t => simp only [unwR, List.nil_append]; rw [strOfNums_ba]; rfl
end Go.Proofs.YtodiohoiekkodaaDoor.Op
end

section
set_option linter.unusedVariables false
namespace Go.Proofs.YtodiohoiekkodaaDoor.Op
open Go.RowKit Go.Proofs.YtodiohoiekkodaaDoor.Bd Go.Proofs.YtodiohoiekkodaaDoor.Sp Go.Proofs.YtodiohoiekkodaaDoor.Rf Go.Proofs.YtodiohoiekkodaaDoorW.PrintWords

theorem rsplit_any (s : ByteArray) (w : World) (hs : s.size ≤ 1000000) :
    Calls Tryd.prog 40 #[.string s] w fun e w' => ∃ g c, e = .returned (.slice (some ⟨g, 0, none⟩) (words s).length c) ∧ w.heap.size ≤ g ∧ g < w'.heap.size ∧ (∀ j x, (words s)[j]? = some x → w'.cell? ⟨g, j, none⟩ = some (.string x)) ∧ Below w.heap.size w w' := by
  refine (bellmanref19_Split.calls (s.size + 1) s (words s) w (rsplit s _ hs (Nat.le_refl _))).mono ?_
  rintro e w' ⟨v, rfl, hR, hb⟩
  have hl : 0 < (words s).length := by rw [words_length]; omega
  have hR' := hR
  obtain ⟨h0, inner, hown, hr⟩ := hR'
  obtain ⟨g, c, rfl, hg1, hg2, hg3⟩ := ownsRow_ptr hown hl
  refine ⟨g, c, rfl, hg1, hg3, ?_, hb⟩
  intro j x hx
  obtain ⟨_, _, h3⟩ := Kd.reads_of_C (enc := Value.string) (d := ByteArray.empty) (h1 := fun _ => rfl) (Kd.R_reads' hR).2.2
  obtain ⟨ad, he, hc⟩ := h3 hl
  obtain rfl := (Option.some.inj he).symm
  have hj : j < (words s).length := (List.getElem?_eq_some_iff.1 hx).1
  have h4 := hc j hj
  have e : (words s).getD j ByteArray.empty = x := by rw [List.getD_eq_getElem?_getD, hx]; rfl
  rw [e] at h4
  by_cases hj0 : j = 0
  · subst hj0; simpa [Addr.add] using h4
  · simpa [Addr.add, hj0] using h4

theorem tl_eq (x : ByteArray) (l : Bs) : (x.toList == l) = decide (x = ba l) := by
  by_cases h : x = ba l
  · subst h; simp [bytes_toList]
  · rw [decide_eq_false h, bytes_toList]; exact beq_eq_false_iff_ne.2 (fun e => h (by rw [← e, ba_data]))

/-- What the cut holds: the operation of the word's kind. -/
def RMade (n b g : Nat) (ws : List ByteArray) (x : ByteArray) (w wx : World) : Prop :=
  XAt b (kindK x) 0 ⟨#[]⟩ ⟨#[]⟩ (kindKeep x) wx ∧ XAt n 0 0 ⟨#[]⟩ ⟨#[]⟩ false wx ∧ (∀ j y, ws[j]? = some y → wx.cell? ⟨g, j, none⟩ = some (.string y)) ∧ Below n w wx ∧ kindOK x = true

/-- What the reference reads from the words behind the first. -/
def refR (k : Int) (ws : List ByteArray) : Option (Int × ByteArray × ByteArray) :=
  if k = 3 then
    match ws with
    | [a, b] => if unwO a = true ∧ unwO b = true then some (0, unwT a, unwT b) else none
    | _ => none
  else if k < 3 then
    match ws with
    | [a, b] => if unwO b = true ∧ 0 ≤ numS a.data.toList then some (numS a.data.toList, unwT b, ⟨#[]⟩) else none
    | _ => none
  else
    match ws with
    | [a] => if 0 ≤ numS a.data.toList then some (numS a.data.toList, ⟨#[]⟩, ⟨#[]⟩) else none
    | _ => none
def refParseV (s : ByteArray) : Value := match words s with
  | [] => .tuple #[opZ, .int .i64 11]
  | x :: r => if kindOK x = false then .tuple #[opZ, .int .i64 11] else match refR (kindK x) r with
    | none => .tuple #[opZ, .int .i64 10]
    | some (sub, t, p) => .tuple #[.agg #[.int .i64 (kindK x), .int .i64 sub, .string t, .string p, .bool (kindKeep x)], .int .i64 0]

theorem runw_any (s : ByteArray) (w : World) (hs : s.size ≤ 100000) : Calls Tryd.prog 41 #[.string s] w fun e w' => e = .returned (.tuple #[.string (unwT s), .bool (unwO s)]) ∧ Below w.heap.size w w' :=
  bellmanref19_Unword.calls (3 * s.size + 1) s _ _ w (runw s _ hs (Nat.le_refl _))
theorem rnum_any (s : ByteArray) (w : World) : Calls Tryd.prog 42 #[.string s] w fun e w' => e = .returned (.int .i64 (numS s.data.toList)) ∧ Below w.heap.size w w' := by
  refine (bellmanref19_Num.calls 10 s _ w (rnum s 10 (by omega))).mono ?_
  rintro e w' ⟨rfl, ⟨n, rfl⟩⟩
  exact ⟨rfl, pw_below_drewN (Below.refl _ _) _⟩
theorem xset1 {b : Nat} {k sub : Int} {t p : ByteArray} {keep : Bool} {w : World} (h : XAt b k sub t p keep w) (v : Int) : XAt b k v t p keep (w.setCell ⟨b, 1, none⟩ (.int .i64 v)) := by
  simp only [XAt, World.setCell, Array.getElem?_modify, if_true, h]; rfl
theorem xset2 {b : Nat} {k sub : Int} {t p : ByteArray} {keep : Bool} {w : World} (h : XAt b k sub t p keep w) (v : ByteArray) : XAt b k sub v p keep (w.setCell ⟨b, 2, none⟩ (.string v)) := by
  simp only [XAt, World.setCell, Array.getElem?_modify, if_true, h]; rfl
theorem xset3 {b : Nat} {k sub : Int} {t p : ByteArray} {keep : Bool} {w : World} (h : XAt b k sub t p keep w) (v : ByteArray) : XAt b k sub t v keep (w.setCell ⟨b, 3, none⟩ (.string v)) := by
  simp only [XAt, World.setCell, Array.getElem?_modify, if_true, h]; rfl
theorem xoth {b n : Nat} (hne : n ≠ b) {k sub : Int} {t p : ByteArray} {keep : Bool} {w : World} (h : XAt n k sub t p keep w) (i : Nat) (v : Value) : XAt n k sub t p keep (w.setCell ⟨b, i, none⟩ v) :=
  (Below.heap_setCell _ _ _ _ hne).trans h

theorem rmade_mk {n g : Nat} {ws : List ByteArray} {x y : ByteArray} {k : Int} {keep : Bool} {w w1 : World} (hx : x = y) (hk : kindK y = k ∧ kindKeep y = keep) (hok : kindOK y = true)
    (h0 : XAt n 0 0 ⟨#[]⟩ ⟨#[]⟩ false (w.alloc (.cells #[.int .i64 0, .int .i64 0, .string ⟨#[]⟩, .string ⟨#[]⟩, .bool false] 23))) (hb : Below (w.alloc (.cells #[.int .i64 0, .int .i64 0, .string ⟨#[]⟩, .string ⟨#[]⟩, .bool false] 23)).heap.size (w.alloc (.cells #[.int .i64 0, .int .i64 0, .string ⟨#[]⟩, .string ⟨#[]⟩, .bool false] 23)) w1)
    (hg : g < w1.heap.size) (hc : ∀ j y, ws[j]? = some y → w1.cell? ⟨g, j, none⟩ = some (.string y)) (hn : n + 1 ≤ w1.heap.size) (hnw : n = w.heap.size) :
    RMade n w1.heap.size g ws x w (w1.alloc (.cells #[.int .i64 k, .int .i64 0, .string ⟨#[]⟩, .string ⟨#[]⟩, .bool keep] 23)) := by
  subst hx
  obtain ⟨rfl, rfl⟩ := hk
  subst hnw
  refine ⟨heap_alloc_new _ _, (Below.heap_alloc _ _ _ (by omega)).trans ((hb.block _ (by simp)).trans h0), fun j y hy => keep_cell ((Below.refl _ _).alloc (Nat.le_refl _) _) (hc j y hy), ?_, hok⟩
  exact (((Below.refl _ w).alloc (Nat.le_refl _) _).trans (hb.mono (by simp))).alloc (by omega) _

theorem keepX {W w' : World} {b : Nat} {o : Obj} (hb : Below W.heap.size W w') (h : W.heap[b]? = some o) : w'.heap[b]? = some o := (hb.block b (Array.getElem?_eq_some_iff.1 h).1).trans h
theorem sets_cell {W : World} {g j : Nat} {v : Value} (b i : Nat) (u : Value) (hne : g ≠ b) (h : W.cell? ⟨g, j, none⟩ = some v) : (W.setCell ⟨b, i, none⟩ u).cell? ⟨g, j, none⟩ = some v :=
  (World.cell?_of_block (Below.heap_setCell W ⟨b, i, none⟩ u g hne)).trans h
theorem kind_cases {x : ByteArray} (hk : kindOK x = true) : kindK x = 1 ∨ kindK x = 2 ∨ kindK x = 3 ∨ kindK x = 4 ∨ kindK x = 5 := by
  have h0 : kindK x ≠ 0 := of_decide_eq_true hk
  unfold kindK at h0 ⊢
  split
  · simp
  split
  · simp
  split
  · simp
  split
  · simp
  split
  · simp
  · rename_i a b c d e; simp [a, b, c, d, e] at h0
end Go.Proofs.YtodiohoiekkodaaDoor.Op
end

section
set_option linter.unusedVariables false
namespace Go.Proofs.YtodiohoiekkodaaDoor.Op
open Go.RowKit Go.Proofs.YtodiohoiekkodaaDoor.Bd Go.Proofs.YtodiohoiekkodaaDoor.Sp Go.Proofs.YtodiohoiekkodaaDoor.Rf Go.Proofs.YtodiohoiekkodaaDoorW.PrintWords
set_option maxHeartbeats 600000 in
set_option maxRecDepth 100000 in
theorem rp_len_kSub (s x : ByteArray) (r : List ByteArray) (w : World) (hs : s.size ≤ 1000) (hxr : words s = x :: r) (hx : x = kSub) (L : Nat) (hL : r.length + 1 = L) (hne : ((L : Int) == 3) = false) :
    Calls Tryd.prog 15 #[.string s] w fun e w' => e = .returned (refParseV s) ∧ Below w.heap.size w w' := by
  have hv : refParseV s = .tuple #[opZ, .int .i64 10] := by
    unfold refParseV; rw [hxr, hx]
    have e1 : kindOK kSub = true := by decide
    have e2 : kindK kSub = 1 := by decide
    have e3 : kindKeep kSub = false := by decide
    have e4 : refR 1 r = none := by
      have h3 : ∀ a b, r ≠ [a, b] := by
        rintro a b rfl; simp at hL; subst hL; exact absurd hne (by decide)
      unfold refR; rw [if_neg (by decide), if_pos (by decide)]
      split <;> first | rfl | (rename_i a b; exact absurd rfl (h3 a b))
    simp only [e1, e2, e4, Bool.true_eq_false, if_false]
  have q0 : (x.toList == ([115, 117, 98] : Bs)) = true := by rw [tl_eq]; exact decide_eq_true hx
  have HV := Lib.hid hv
  have hsp : ∀ w, Calls Tryd.prog 40 #[.string s] w fun e w' => ∃ g c, e = .returned (.slice (some ⟨g, 0, none⟩) L c) ∧ w.heap.size ≤ g ∧ g < w'.heap.size ∧ (∀ j x, (words s)[j]? = some x → w'.cell? ⟨g, j, none⟩ = some (.string x)) ∧ Below w.heap.size w w' := by
    intro w; have h := rsplit_any s w (by omega); have e : (words s).length = L := by rw [hxr]; simpa using hL
    rw [e] at h; exact h
  have HSP := Lib.hid hsp
  have HXR := Lib.hid hxr
  have rs0 : XAt w.heap.size 0 0 ⟨#[]⟩ ⟨#[]⟩ false (w.alloc (.cells #[.int .i64 0, .int .i64 0, .string ⟨#[]⟩, .string ⟨#[]⟩, .bool false] 23)) := heap_alloc_new _ _
  have HR0 := Lib.hid rs0
  clear hv hsp rs0 hxr hx
  go_enter Tryd.func15, Tryd.ntmps15
  go_wp2_with fail
  refine (HSP.out _).mono ?_
  rintro e w1 ⟨g, c, rfl, hg1, hg2, hcl, hb1⟩
  have d0 : ∀ o, (w1.alloc o).cell? ⟨g, 0, none⟩ = some (.string x) := (fun o => keep_cell ((Below.refl _ _).alloc (Nat.le_refl _) o) (hcl 0 x (by rw [HXR.out]; rfl)))
  have w1b : w.heap.size + 1 ≤ w1.heap.size := by have := hb1.size; simp at this; omega
  have hn : XAt w.heap.size 0 0 ⟨#[]⟩ ⟨#[]⟩ false (w1.alloc (.cells #[.int .i64 1, .int .i64 0, .string ⟨#[]⟩, .string ⟨#[]⟩, .bool false] 23)) := (Below.heap_alloc _ _ _ (by omega)).trans ((hb1.block _ (by simp)).trans HR0.out)
  have hx : XAt w1.heap.size 1 0 ⟨#[]⟩ ⟨#[]⟩ false (w1.alloc (.cells #[.int .i64 1, .int .i64 0, .string ⟨#[]⟩, .string ⟨#[]⟩, .bool false] 23)) := heap_alloc_new _ _
  have hb : Below w.heap.size w (w1.alloc (.cells #[.int .i64 1, .int .i64 0, .string ⟨#[]⟩, .string ⟨#[]⟩, .bool false] 23)) := (((Below.refl _ w).alloc (Nat.le_refl _) _).trans (hb1.mono (by simp))).alloc (by omega) _
  have HNE : Hid (w.heap.size ≠ w1.heap.size) := Lib.hid (by omega)
  have HG : Hid (g ≠ w1.heap.size) := Lib.hid (by omega)
  have HLE : Hid (w.heap.size ≤ w1.heap.size) := Lib.hid (by omega)
  have HN := Lib.hid hn; have HX := Lib.hid hx; have HB := Lib.hid hb
  have c0 := opc0 hn; have c1 := opc1 hn; have c2 := opc2 hn; have c3 := opc3 hn; have c4 := opc4 hn; have cf := opf hn
  clear hn hx hb hg1 hg2 hcl hb1 HR0 w1b
  have hn2 : ((L : Int) != 3) = true := by rw [bne, hne]; rfl
  go_wp2_with fail
  refine bodyPost_ret (v := refParseV s) ?_ rfl ⟨rfl, ?_⟩
  · rw [HV.out]
    simp [results, Tryd.results15, go_sem, c0, c1, c2, c3, c4, opZ]
  · exact (((((HB.out).setCell (Nat.le_refl _) _).setCell (Nat.le_refl _) _).setCell (Nat.le_refl _) _).setCell (Nat.le_refl _) _).setCell (Nat.le_refl _) _
set_option maxHeartbeats 600000 in
set_option maxRecDepth 100000 in
theorem rp_len_kUnsub (s x : ByteArray) (r : List ByteArray) (w : World) (hs : s.size ≤ 1000) (hxr : words s = x :: r) (hx : x = kUnsub) (L : Nat) (hL : r.length + 1 = L) (hne : ((L : Int) == 3) = false) :
    Calls Tryd.prog 15 #[.string s] w fun e w' => e = .returned (refParseV s) ∧ Below w.heap.size w w' := by
  have hv : refParseV s = .tuple #[opZ, .int .i64 10] := by
    unfold refParseV; rw [hxr, hx]
    have e1 : kindOK kUnsub = true := by decide
    have e2 : kindK kUnsub = 2 := by decide
    have e3 : kindKeep kUnsub = false := by decide
    have e4 : refR 2 r = none := by
      have h3 : ∀ a b, r ≠ [a, b] := by
        rintro a b rfl; simp at hL; subst hL; exact absurd hne (by decide)
      unfold refR; rw [if_neg (by decide), if_pos (by decide)]
      split <;> first | rfl | (rename_i a b; exact absurd rfl (h3 a b))
    simp only [e1, e2, e4, Bool.true_eq_false, if_false]
  have q0 : (x.toList == ([115, 117, 98] : Bs)) = false := by rw [tl_eq]; exact decide_eq_false (by rw [hx]; decide)
  have q1 : (x.toList == ([117, 110, 115, 117, 98] : Bs)) = true := by rw [tl_eq]; exact decide_eq_true hx
  have HV := Lib.hid hv
  have hsp : ∀ w, Calls Tryd.prog 40 #[.string s] w fun e w' => ∃ g c, e = .returned (.slice (some ⟨g, 0, none⟩) L c) ∧ w.heap.size ≤ g ∧ g < w'.heap.size ∧ (∀ j x, (words s)[j]? = some x → w'.cell? ⟨g, j, none⟩ = some (.string x)) ∧ Below w.heap.size w w' := by
    intro w; have h := rsplit_any s w (by omega); have e : (words s).length = L := by rw [hxr]; simpa using hL
    rw [e] at h; exact h
  have HSP := Lib.hid hsp
  have HXR := Lib.hid hxr
  have rs0 : XAt w.heap.size 0 0 ⟨#[]⟩ ⟨#[]⟩ false (w.alloc (.cells #[.int .i64 0, .int .i64 0, .string ⟨#[]⟩, .string ⟨#[]⟩, .bool false] 23)) := heap_alloc_new _ _
  have HR0 := Lib.hid rs0
  clear hv hsp rs0 hxr hx
  go_enter Tryd.func15, Tryd.ntmps15
  go_wp2_with fail
  refine (HSP.out _).mono ?_
  rintro e w1 ⟨g, c, rfl, hg1, hg2, hcl, hb1⟩
  have d0 : ∀ o, (w1.alloc o).cell? ⟨g, 0, none⟩ = some (.string x) := (fun o => keep_cell ((Below.refl _ _).alloc (Nat.le_refl _) o) (hcl 0 x (by rw [HXR.out]; rfl)))
  have w1b : w.heap.size + 1 ≤ w1.heap.size := by have := hb1.size; simp at this; omega
  have hn : XAt w.heap.size 0 0 ⟨#[]⟩ ⟨#[]⟩ false (w1.alloc (.cells #[.int .i64 2, .int .i64 0, .string ⟨#[]⟩, .string ⟨#[]⟩, .bool false] 23)) := (Below.heap_alloc _ _ _ (by omega)).trans ((hb1.block _ (by simp)).trans HR0.out)
  have hx : XAt w1.heap.size 2 0 ⟨#[]⟩ ⟨#[]⟩ false (w1.alloc (.cells #[.int .i64 2, .int .i64 0, .string ⟨#[]⟩, .string ⟨#[]⟩, .bool false] 23)) := heap_alloc_new _ _
  have hb : Below w.heap.size w (w1.alloc (.cells #[.int .i64 2, .int .i64 0, .string ⟨#[]⟩, .string ⟨#[]⟩, .bool false] 23)) := (((Below.refl _ w).alloc (Nat.le_refl _) _).trans (hb1.mono (by simp))).alloc (by omega) _
  have HNE : Hid (w.heap.size ≠ w1.heap.size) := Lib.hid (by omega)
  have HG : Hid (g ≠ w1.heap.size) := Lib.hid (by omega)
  have HLE : Hid (w.heap.size ≤ w1.heap.size) := Lib.hid (by omega)
  have HN := Lib.hid hn; have HX := Lib.hid hx; have HB := Lib.hid hb
  have c0 := opc0 hn; have c1 := opc1 hn; have c2 := opc2 hn; have c3 := opc3 hn; have c4 := opc4 hn; have cf := opf hn
  clear hn hx hb hg1 hg2 hcl hb1 HR0 w1b
  have hn2 : ((L : Int) != 3) = true := by rw [bne, hne]; rfl
  go_wp2_with fail
  refine bodyPost_ret (v := refParseV s) ?_ rfl ⟨rfl, ?_⟩
  · rw [HV.out]
    simp [results, Tryd.results15, go_sem, c0, c1, c2, c3, c4, opZ]
  · exact (((((HB.out).setCell (Nat.le_refl _) _).setCell (Nat.le_refl _) _).setCell (Nat.le_refl _) _).setCell (Nat.le_refl _) _).setCell (Nat.le_refl _) _
set_option maxHeartbeats 600000 in
set_option maxRecDepth 100000 in
theorem rp_len_kPub (s x : ByteArray) (r : List ByteArray) (w : World) (hs : s.size ≤ 1000) (hxr : words s = x :: r) (hx : x = kPub) (L : Nat) (hL : r.length + 1 = L) (hne : ((L : Int) == 3) = false) :
    Calls Tryd.prog 15 #[.string s] w fun e w' => e = .returned (refParseV s) ∧ Below w.heap.size w w' := by
  have hv : refParseV s = .tuple #[opZ, .int .i64 10] := by
    unfold refParseV; rw [hxr, hx]
    have e1 : kindOK kPub = true := by decide
    have e2 : kindK kPub = 3 := by decide
    have e3 : kindKeep kPub = false := by decide
    have e4 : refR 3 r = none := by
      have h3 : ∀ a b, r ≠ [a, b] := by
        rintro a b rfl; simp at hL; subst hL; exact absurd hne (by decide)
      unfold refR; rw [if_pos rfl]
      split <;> first | rfl | (rename_i a b; exact absurd rfl (h3 a b))
    simp only [e1, e2, e4, Bool.true_eq_false, if_false]
  have q0 : (x.toList == ([115, 117, 98] : Bs)) = false := by rw [tl_eq]; exact decide_eq_false (by rw [hx]; decide)
  have q1 : (x.toList == ([117, 110, 115, 117, 98] : Bs)) = false := by rw [tl_eq]; exact decide_eq_false (by rw [hx]; decide)
  have q2 : (x.toList == ([112, 117, 98] : Bs)) = true := by rw [tl_eq]; exact decide_eq_true hx
  have HV := Lib.hid hv
  have hsp : ∀ w, Calls Tryd.prog 40 #[.string s] w fun e w' => ∃ g c, e = .returned (.slice (some ⟨g, 0, none⟩) L c) ∧ w.heap.size ≤ g ∧ g < w'.heap.size ∧ (∀ j x, (words s)[j]? = some x → w'.cell? ⟨g, j, none⟩ = some (.string x)) ∧ Below w.heap.size w w' := by
    intro w; have h := rsplit_any s w (by omega); have e : (words s).length = L := by rw [hxr]; simpa using hL
    rw [e] at h; exact h
  have HSP := Lib.hid hsp
  have HXR := Lib.hid hxr
  have rs0 : XAt w.heap.size 0 0 ⟨#[]⟩ ⟨#[]⟩ false (w.alloc (.cells #[.int .i64 0, .int .i64 0, .string ⟨#[]⟩, .string ⟨#[]⟩, .bool false] 23)) := heap_alloc_new _ _
  have HR0 := Lib.hid rs0
  clear hv hsp rs0 hxr hx
  go_enter Tryd.func15, Tryd.ntmps15
  go_wp2_with fail
  refine (HSP.out _).mono ?_
  rintro e w1 ⟨g, c, rfl, hg1, hg2, hcl, hb1⟩
  have d0 : ∀ o, (w1.alloc o).cell? ⟨g, 0, none⟩ = some (.string x) := (fun o => keep_cell ((Below.refl _ _).alloc (Nat.le_refl _) o) (hcl 0 x (by rw [HXR.out]; rfl)))
  have w1b : w.heap.size + 1 ≤ w1.heap.size := by have := hb1.size; simp at this; omega
  have hn : XAt w.heap.size 0 0 ⟨#[]⟩ ⟨#[]⟩ false (w1.alloc (.cells #[.int .i64 3, .int .i64 0, .string ⟨#[]⟩, .string ⟨#[]⟩, .bool false] 23)) := (Below.heap_alloc _ _ _ (by omega)).trans ((hb1.block _ (by simp)).trans HR0.out)
  have hx : XAt w1.heap.size 3 0 ⟨#[]⟩ ⟨#[]⟩ false (w1.alloc (.cells #[.int .i64 3, .int .i64 0, .string ⟨#[]⟩, .string ⟨#[]⟩, .bool false] 23)) := heap_alloc_new _ _
  have hb : Below w.heap.size w (w1.alloc (.cells #[.int .i64 3, .int .i64 0, .string ⟨#[]⟩, .string ⟨#[]⟩, .bool false] 23)) := (((Below.refl _ w).alloc (Nat.le_refl _) _).trans (hb1.mono (by simp))).alloc (by omega) _
  have HNE : Hid (w.heap.size ≠ w1.heap.size) := Lib.hid (by omega)
  have HG : Hid (g ≠ w1.heap.size) := Lib.hid (by omega)
  have HLE : Hid (w.heap.size ≤ w1.heap.size) := Lib.hid (by omega)
  have HN := Lib.hid hn; have HX := Lib.hid hx; have HB := Lib.hid hb
  have c0 := opc0 hn; have c1 := opc1 hn; have c2 := opc2 hn; have c3 := opc3 hn; have c4 := opc4 hn; have cf := opf hn
  clear hn hx hb hg1 hg2 hcl hb1 HR0 w1b
  have hn2 : ((L : Int) != 3) = true := by rw [bne, hne]; rfl
  go_wp2_with fail
  refine bodyPost_ret (v := refParseV s) ?_ rfl ⟨rfl, ?_⟩
  · rw [HV.out]
    simp [results, Tryd.results15, go_sem, c0, c1, c2, c3, c4, opZ]
  · exact (((((HB.out).setCell (Nat.le_refl _) _).setCell (Nat.le_refl _) _).setCell (Nat.le_refl _) _).setCell (Nat.le_refl _) _).setCell (Nat.le_refl _) _
set_option maxHeartbeats 600000 in
set_option maxRecDepth 100000 in
theorem rp_len_kKeep (s x : ByteArray) (r : List ByteArray) (w : World) (hs : s.size ≤ 1000) (hxr : words s = x :: r) (hx : x = kKeep) (L : Nat) (hL : r.length + 1 = L) (hne : ((L : Int) == 3) = false) :
    Calls Tryd.prog 15 #[.string s] w fun e w' => e = .returned (refParseV s) ∧ Below w.heap.size w w' := by
  have hv : refParseV s = .tuple #[opZ, .int .i64 10] := by
    unfold refParseV; rw [hxr, hx]
    have e1 : kindOK kKeep = true := by decide
    have e2 : kindK kKeep = 3 := by decide
    have e3 : kindKeep kKeep = true := by decide
    have e4 : refR 3 r = none := by
      have h3 : ∀ a b, r ≠ [a, b] := by
        rintro a b rfl; simp at hL; subst hL; exact absurd hne (by decide)
      unfold refR; rw [if_pos rfl]
      split <;> first | rfl | (rename_i a b; exact absurd rfl (h3 a b))
    simp only [e1, e2, e4, Bool.true_eq_false, if_false]
  have q0 : (x.toList == ([115, 117, 98] : Bs)) = false := by rw [tl_eq]; exact decide_eq_false (by rw [hx]; decide)
  have q1 : (x.toList == ([117, 110, 115, 117, 98] : Bs)) = false := by rw [tl_eq]; exact decide_eq_false (by rw [hx]; decide)
  have q2 : (x.toList == ([112, 117, 98] : Bs)) = false := by rw [tl_eq]; exact decide_eq_false (by rw [hx]; decide)
  have q3 : (x.toList == ([107, 101, 101, 112] : Bs)) = true := by rw [tl_eq]; exact decide_eq_true hx
  have HV := Lib.hid hv
  have hsp : ∀ w, Calls Tryd.prog 40 #[.string s] w fun e w' => ∃ g c, e = .returned (.slice (some ⟨g, 0, none⟩) L c) ∧ w.heap.size ≤ g ∧ g < w'.heap.size ∧ (∀ j x, (words s)[j]? = some x → w'.cell? ⟨g, j, none⟩ = some (.string x)) ∧ Below w.heap.size w w' := by
    intro w; have h := rsplit_any s w (by omega); have e : (words s).length = L := by rw [hxr]; simpa using hL
    rw [e] at h; exact h
  have HSP := Lib.hid hsp
  have HXR := Lib.hid hxr
  have rs0 : XAt w.heap.size 0 0 ⟨#[]⟩ ⟨#[]⟩ false (w.alloc (.cells #[.int .i64 0, .int .i64 0, .string ⟨#[]⟩, .string ⟨#[]⟩, .bool false] 23)) := heap_alloc_new _ _
  have HR0 := Lib.hid rs0
  clear hv hsp rs0 hxr hx
  go_enter Tryd.func15, Tryd.ntmps15
  go_wp2_with fail
  refine (HSP.out _).mono ?_
  rintro e w1 ⟨g, c, rfl, hg1, hg2, hcl, hb1⟩
  have d0 : ∀ o, (w1.alloc o).cell? ⟨g, 0, none⟩ = some (.string x) := (fun o => keep_cell ((Below.refl _ _).alloc (Nat.le_refl _) o) (hcl 0 x (by rw [HXR.out]; rfl)))
  have w1b : w.heap.size + 1 ≤ w1.heap.size := by have := hb1.size; simp at this; omega
  have hn : XAt w.heap.size 0 0 ⟨#[]⟩ ⟨#[]⟩ false (w1.alloc (.cells #[.int .i64 3, .int .i64 0, .string ⟨#[]⟩, .string ⟨#[]⟩, .bool true] 23)) := (Below.heap_alloc _ _ _ (by omega)).trans ((hb1.block _ (by simp)).trans HR0.out)
  have hx : XAt w1.heap.size 3 0 ⟨#[]⟩ ⟨#[]⟩ true (w1.alloc (.cells #[.int .i64 3, .int .i64 0, .string ⟨#[]⟩, .string ⟨#[]⟩, .bool true] 23)) := heap_alloc_new _ _
  have hb : Below w.heap.size w (w1.alloc (.cells #[.int .i64 3, .int .i64 0, .string ⟨#[]⟩, .string ⟨#[]⟩, .bool true] 23)) := (((Below.refl _ w).alloc (Nat.le_refl _) _).trans (hb1.mono (by simp))).alloc (by omega) _
  have HNE : Hid (w.heap.size ≠ w1.heap.size) := Lib.hid (by omega)
  have HG : Hid (g ≠ w1.heap.size) := Lib.hid (by omega)
  have HLE : Hid (w.heap.size ≤ w1.heap.size) := Lib.hid (by omega)
  have HN := Lib.hid hn; have HX := Lib.hid hx; have HB := Lib.hid hb
  have c0 := opc0 hn; have c1 := opc1 hn; have c2 := opc2 hn; have c3 := opc3 hn; have c4 := opc4 hn; have cf := opf hn
  clear hn hx hb hg1 hg2 hcl hb1 HR0 w1b
  have hn2 : ((L : Int) != 3) = true := by rw [bne, hne]; rfl
  go_wp2_with fail
  refine bodyPost_ret (v := refParseV s) ?_ rfl ⟨rfl, ?_⟩
  · rw [HV.out]
    simp [results, Tryd.results15, go_sem, c0, c1, c2, c3, c4, opZ]
  · exact (((((HB.out).setCell (Nat.le_refl _) _).setCell (Nat.le_refl _) _).setCell (Nat.le_refl _) _).setCell (Nat.le_refl _) _).setCell (Nat.le_refl _) _
set_option maxHeartbeats 600000 in
set_option maxRecDepth 100000 in
theorem rp_len_kPoll (s x : ByteArray) (r : List ByteArray) (w : World) (hs : s.size ≤ 1000) (hxr : words s = x :: r) (hx : x = kPoll) (L : Nat) (hL : r.length + 1 = L) (hne : ((L : Int) == 2) = false) :
    Calls Tryd.prog 15 #[.string s] w fun e w' => e = .returned (refParseV s) ∧ Below w.heap.size w w' := by
  have hv : refParseV s = .tuple #[opZ, .int .i64 10] := by
    unfold refParseV; rw [hxr, hx]
    have e1 : kindOK kPoll = true := by decide
    have e2 : kindK kPoll = 4 := by decide
    have e3 : kindKeep kPoll = false := by decide
    have e4 : refR 4 r = none := by
      have h3 : ∀ a, r ≠ [a] := by
        rintro a rfl; simp at hL; subst hL; exact absurd hne (by decide)
      unfold refR; rw [if_neg (by decide), if_neg (by decide)]
      split <;> first | rfl | (rename_i a; exact absurd rfl (h3 a))
    simp only [e1, e2, e4, Bool.true_eq_false, if_false]
  have q0 : (x.toList == ([115, 117, 98] : Bs)) = false := by rw [tl_eq]; exact decide_eq_false (by rw [hx]; decide)
  have q1 : (x.toList == ([117, 110, 115, 117, 98] : Bs)) = false := by rw [tl_eq]; exact decide_eq_false (by rw [hx]; decide)
  have q2 : (x.toList == ([112, 117, 98] : Bs)) = false := by rw [tl_eq]; exact decide_eq_false (by rw [hx]; decide)
  have q3 : (x.toList == ([107, 101, 101, 112] : Bs)) = false := by rw [tl_eq]; exact decide_eq_false (by rw [hx]; decide)
  have q4 : (x.toList == ([112, 111, 108, 108] : Bs)) = true := by rw [tl_eq]; exact decide_eq_true hx
  have HV := Lib.hid hv
  have hsp : ∀ w, Calls Tryd.prog 40 #[.string s] w fun e w' => ∃ g c, e = .returned (.slice (some ⟨g, 0, none⟩) L c) ∧ w.heap.size ≤ g ∧ g < w'.heap.size ∧ (∀ j x, (words s)[j]? = some x → w'.cell? ⟨g, j, none⟩ = some (.string x)) ∧ Below w.heap.size w w' := by
    intro w; have h := rsplit_any s w (by omega); have e : (words s).length = L := by rw [hxr]; simpa using hL
    rw [e] at h; exact h
  have HSP := Lib.hid hsp
  have HXR := Lib.hid hxr
  have rs0 : XAt w.heap.size 0 0 ⟨#[]⟩ ⟨#[]⟩ false (w.alloc (.cells #[.int .i64 0, .int .i64 0, .string ⟨#[]⟩, .string ⟨#[]⟩, .bool false] 23)) := heap_alloc_new _ _
  have HR0 := Lib.hid rs0
  clear hv hsp rs0 hxr hx
  go_enter Tryd.func15, Tryd.ntmps15
  go_wp2_with fail
  refine (HSP.out _).mono ?_
  rintro e w1 ⟨g, c, rfl, hg1, hg2, hcl, hb1⟩
  have d0 : ∀ o, (w1.alloc o).cell? ⟨g, 0, none⟩ = some (.string x) := (fun o => keep_cell ((Below.refl _ _).alloc (Nat.le_refl _) o) (hcl 0 x (by rw [HXR.out]; rfl)))
  have w1b : w.heap.size + 1 ≤ w1.heap.size := by have := hb1.size; simp at this; omega
  have hn : XAt w.heap.size 0 0 ⟨#[]⟩ ⟨#[]⟩ false (w1.alloc (.cells #[.int .i64 4, .int .i64 0, .string ⟨#[]⟩, .string ⟨#[]⟩, .bool false] 23)) := (Below.heap_alloc _ _ _ (by omega)).trans ((hb1.block _ (by simp)).trans HR0.out)
  have hx : XAt w1.heap.size 4 0 ⟨#[]⟩ ⟨#[]⟩ false (w1.alloc (.cells #[.int .i64 4, .int .i64 0, .string ⟨#[]⟩, .string ⟨#[]⟩, .bool false] 23)) := heap_alloc_new _ _
  have hb : Below w.heap.size w (w1.alloc (.cells #[.int .i64 4, .int .i64 0, .string ⟨#[]⟩, .string ⟨#[]⟩, .bool false] 23)) := (((Below.refl _ w).alloc (Nat.le_refl _) _).trans (hb1.mono (by simp))).alloc (by omega) _
  have HNE : Hid (w.heap.size ≠ w1.heap.size) := Lib.hid (by omega)
  have HG : Hid (g ≠ w1.heap.size) := Lib.hid (by omega)
  have HLE : Hid (w.heap.size ≤ w1.heap.size) := Lib.hid (by omega)
  have HN := Lib.hid hn; have HX := Lib.hid hx; have HB := Lib.hid hb
  have c0 := opc0 hn; have c1 := opc1 hn; have c2 := opc2 hn; have c3 := opc3 hn; have c4 := opc4 hn; have cf := opf hn
  clear hn hx hb hg1 hg2 hcl hb1 HR0 w1b
  have hn2 : ((L : Int) != 2) = true := by rw [bne, hne]; rfl
  go_wp2_with fail
  refine bodyPost_ret (v := refParseV s) ?_ rfl ⟨rfl, ?_⟩
  · rw [HV.out]
    simp [results, Tryd.results15, go_sem, c0, c1, c2, c3, c4, opZ]
  · exact (((((HB.out).setCell (Nat.le_refl _) _).setCell (Nat.le_refl _) _).setCell (Nat.le_refl _) _).setCell (Nat.le_refl _) _).setCell (Nat.le_refl _) _
set_option maxHeartbeats 600000 in
set_option maxRecDepth 100000 in
theorem rp_len_kDrops (s x : ByteArray) (r : List ByteArray) (w : World) (hs : s.size ≤ 1000) (hxr : words s = x :: r) (hx : x = kDrops) (L : Nat) (hL : r.length + 1 = L) (hne : ((L : Int) == 2) = false) :
    Calls Tryd.prog 15 #[.string s] w fun e w' => e = .returned (refParseV s) ∧ Below w.heap.size w w' := by
  have hv : refParseV s = .tuple #[opZ, .int .i64 10] := by
    unfold refParseV; rw [hxr, hx]
    have e1 : kindOK kDrops = true := by decide
    have e2 : kindK kDrops = 5 := by decide
    have e3 : kindKeep kDrops = false := by decide
    have e4 : refR 5 r = none := by
      have h3 : ∀ a, r ≠ [a] := by
        rintro a rfl; simp at hL; subst hL; exact absurd hne (by decide)
      unfold refR; rw [if_neg (by decide), if_neg (by decide)]
      split <;> first | rfl | (rename_i a; exact absurd rfl (h3 a))
    simp only [e1, e2, e4, Bool.true_eq_false, if_false]
  have q0 : (x.toList == ([115, 117, 98] : Bs)) = false := by rw [tl_eq]; exact decide_eq_false (by rw [hx]; decide)
  have q1 : (x.toList == ([117, 110, 115, 117, 98] : Bs)) = false := by rw [tl_eq]; exact decide_eq_false (by rw [hx]; decide)
  have q2 : (x.toList == ([112, 117, 98] : Bs)) = false := by rw [tl_eq]; exact decide_eq_false (by rw [hx]; decide)
  have q3 : (x.toList == ([107, 101, 101, 112] : Bs)) = false := by rw [tl_eq]; exact decide_eq_false (by rw [hx]; decide)
  have q4 : (x.toList == ([112, 111, 108, 108] : Bs)) = false := by rw [tl_eq]; exact decide_eq_false (by rw [hx]; decide)
  have q5 : (x.toList == ([100, 114, 111, 112, 115] : Bs)) = true := by rw [tl_eq]; exact decide_eq_true hx
  have HV := Lib.hid hv
  have hsp : ∀ w, Calls Tryd.prog 40 #[.string s] w fun e w' => ∃ g c, e = .returned (.slice (some ⟨g, 0, none⟩) L c) ∧ w.heap.size ≤ g ∧ g < w'.heap.size ∧ (∀ j x, (words s)[j]? = some x → w'.cell? ⟨g, j, none⟩ = some (.string x)) ∧ Below w.heap.size w w' := by
    intro w; have h := rsplit_any s w (by omega); have e : (words s).length = L := by rw [hxr]; simpa using hL
    rw [e] at h; exact h
  have HSP := Lib.hid hsp
  have HXR := Lib.hid hxr
  have rs0 : XAt w.heap.size 0 0 ⟨#[]⟩ ⟨#[]⟩ false (w.alloc (.cells #[.int .i64 0, .int .i64 0, .string ⟨#[]⟩, .string ⟨#[]⟩, .bool false] 23)) := heap_alloc_new _ _
  have HR0 := Lib.hid rs0
  clear hv hsp rs0 hxr hx
  go_enter Tryd.func15, Tryd.ntmps15
  go_wp2_with fail
  refine (HSP.out _).mono ?_
  rintro e w1 ⟨g, c, rfl, hg1, hg2, hcl, hb1⟩
  have d0 : ∀ o, (w1.alloc o).cell? ⟨g, 0, none⟩ = some (.string x) := (fun o => keep_cell ((Below.refl _ _).alloc (Nat.le_refl _) o) (hcl 0 x (by rw [HXR.out]; rfl)))
  have w1b : w.heap.size + 1 ≤ w1.heap.size := by have := hb1.size; simp at this; omega
  have hn : XAt w.heap.size 0 0 ⟨#[]⟩ ⟨#[]⟩ false (w1.alloc (.cells #[.int .i64 5, .int .i64 0, .string ⟨#[]⟩, .string ⟨#[]⟩, .bool false] 23)) := (Below.heap_alloc _ _ _ (by omega)).trans ((hb1.block _ (by simp)).trans HR0.out)
  have hx : XAt w1.heap.size 5 0 ⟨#[]⟩ ⟨#[]⟩ false (w1.alloc (.cells #[.int .i64 5, .int .i64 0, .string ⟨#[]⟩, .string ⟨#[]⟩, .bool false] 23)) := heap_alloc_new _ _
  have hb : Below w.heap.size w (w1.alloc (.cells #[.int .i64 5, .int .i64 0, .string ⟨#[]⟩, .string ⟨#[]⟩, .bool false] 23)) := (((Below.refl _ w).alloc (Nat.le_refl _) _).trans (hb1.mono (by simp))).alloc (by omega) _
  have HNE : Hid (w.heap.size ≠ w1.heap.size) := Lib.hid (by omega)
  have HG : Hid (g ≠ w1.heap.size) := Lib.hid (by omega)
  have HLE : Hid (w.heap.size ≤ w1.heap.size) := Lib.hid (by omega)
  have HN := Lib.hid hn; have HX := Lib.hid hx; have HB := Lib.hid hb
  have c0 := opc0 hn; have c1 := opc1 hn; have c2 := opc2 hn; have c3 := opc3 hn; have c4 := opc4 hn; have cf := opf hn
  clear hn hx hb hg1 hg2 hcl hb1 HR0 w1b
  have hn2 : ((L : Int) != 2) = true := by rw [bne, hne]; rfl
  go_wp2_with fail
  refine bodyPost_ret (v := refParseV s) ?_ rfl ⟨rfl, ?_⟩
  · rw [HV.out]
    simp [results, Tryd.results15, go_sem, c0, c1, c2, c3, c4, opZ]
  · exact (((((HB.out).setCell (Nat.le_refl _) _).setCell (Nat.le_refl _) _).setCell (Nat.le_refl _) _).setCell (Nat.le_refl _) _).setCell (Nat.le_refl _) _
set_option maxHeartbeats 600000 in
set_option maxRecDepth 100000 in
theorem rp_none (s x : ByteArray) (r : List ByteArray) (w : World) (hs : s.size ≤ 1000) (hxr : words s = x :: r) (L : Nat) (hL : r.length + 1 = L) (hx0 : x ≠ kSub) (hx1 : x ≠ kUnsub) (hx2 : x ≠ kPub) (hx3 : x ≠ kKeep) (hx4 : x ≠ kPoll) (hx5 : x ≠ kDrops) (hL0 : (0 : Int) < (L : Int)) :
    Calls Tryd.prog 15 #[.string s] w fun e w' => e = .returned (refParseV s) ∧ Below w.heap.size w w' := by
  have hv : refParseV s = .tuple #[opZ, .int .i64 11] := by
    unfold refParseV; rw [hxr]
    have e1 : kindOK x = false := by simp [kindOK, kindK, hx0, hx1, hx2, hx3, hx4, hx5]
    simp only [e1, if_true]
  have q0 : (x.toList == ([115, 117, 98] : Bs)) = false := by rw [tl_eq]; exact decide_eq_false hx0
  have q1 : (x.toList == ([117, 110, 115, 117, 98] : Bs)) = false := by rw [tl_eq]; exact decide_eq_false hx1
  have q2 : (x.toList == ([112, 117, 98] : Bs)) = false := by rw [tl_eq]; exact decide_eq_false hx2
  have q3 : (x.toList == ([107, 101, 101, 112] : Bs)) = false := by rw [tl_eq]; exact decide_eq_false hx3
  have q4 : (x.toList == ([112, 111, 108, 108] : Bs)) = false := by rw [tl_eq]; exact decide_eq_false hx4
  have q5 : (x.toList == ([100, 114, 111, 112, 115] : Bs)) = false := by rw [tl_eq]; exact decide_eq_false hx5
  have HV := Lib.hid hv
  have hsp : ∀ w, Calls Tryd.prog 40 #[.string s] w fun e w' => ∃ g c, e = .returned (.slice (some ⟨g, 0, none⟩) L c) ∧ w.heap.size ≤ g ∧ g < w'.heap.size ∧ (∀ j x, (words s)[j]? = some x → w'.cell? ⟨g, j, none⟩ = some (.string x)) ∧ Below w.heap.size w w' := by
    intro w; have h := rsplit_any s w (by omega); have e : (words s).length = L := by rw [hxr]; simpa using hL
    rw [e] at h; exact h
  have HSP := Lib.hid hsp
  have HXR := Lib.hid hxr
  have rs0 : XAt w.heap.size 0 0 ⟨#[]⟩ ⟨#[]⟩ false (w.alloc (.cells #[.int .i64 0, .int .i64 0, .string ⟨#[]⟩, .string ⟨#[]⟩, .bool false] 23)) := heap_alloc_new _ _
  have HR0 := Lib.hid rs0
  clear hv hsp rs0 hxr hx0 hx1 hx2 hx3 hx4 hx5
  go_enter Tryd.func15, Tryd.ntmps15
  go_wp2_with fail
  refine (HSP.out _).mono ?_
  rintro e w1 ⟨g, c, rfl, hg1, hg2, hcl, hb1⟩
  have d0 : ∀ o, (w1.alloc o).cell? ⟨g, 0, none⟩ = some (.string x) := (fun o => keep_cell ((Below.refl _ _).alloc (Nat.le_refl _) o) (hcl 0 x (by rw [HXR.out]; rfl)))
  have w1b : w.heap.size + 1 ≤ w1.heap.size := by have := hb1.size; simp at this; omega
  have hn : XAt w.heap.size 0 0 ⟨#[]⟩ ⟨#[]⟩ false (w1.alloc (.cells #[.int .i64 0, .int .i64 0, .string ⟨#[]⟩, .string ⟨#[]⟩, .bool false] 23)) := (Below.heap_alloc _ _ _ (by omega)).trans ((hb1.block _ (by simp)).trans HR0.out)
  have hx : XAt w1.heap.size 0 0 ⟨#[]⟩ ⟨#[]⟩ false (w1.alloc (.cells #[.int .i64 0, .int .i64 0, .string ⟨#[]⟩, .string ⟨#[]⟩, .bool false] 23)) := heap_alloc_new _ _
  have hb : Below w.heap.size w (w1.alloc (.cells #[.int .i64 0, .int .i64 0, .string ⟨#[]⟩, .string ⟨#[]⟩, .bool false] 23)) := (((Below.refl _ w).alloc (Nat.le_refl _) _).trans (hb1.mono (by simp))).alloc (by omega) _
  have HNE : Hid (w.heap.size ≠ w1.heap.size) := Lib.hid (by omega)
  have HG : Hid (g ≠ w1.heap.size) := Lib.hid (by omega)
  have HLE : Hid (w.heap.size ≤ w1.heap.size) := Lib.hid (by omega)
  have HN := Lib.hid hn; have HX := Lib.hid hx; have HB := Lib.hid hb
  have c0 := opc0 hn; have c1 := opc1 hn; have c2 := opc2 hn; have c3 := opc3 hn; have c4 := opc4 hn; have cf := opf hn
  clear hn hx hb hg1 hg2 hcl hb1 HR0 w1b
  go_wp2_with fail
  refine bodyPost_ret (v := refParseV s) ?_ rfl ⟨rfl, ?_⟩
  · rw [HV.out]
    simp [results, Tryd.results15, go_sem, c0, c1, c2, c3, c4, opZ]
  · exact (((((HB.out).setCell (Nat.le_refl _) _).setCell (Nat.le_refl _) _).setCell (Nat.le_refl _) _).setCell (Nat.le_refl _) _).setCell (Nat.le_refl _) _
end Go.Proofs.YtodiohoiekkodaaDoor.Op
end
