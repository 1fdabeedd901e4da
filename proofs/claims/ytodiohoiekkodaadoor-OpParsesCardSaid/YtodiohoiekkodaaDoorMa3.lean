/- strconv.ParseUint at base 16 and 8 bits, of a text of two bytes: what it comes to. The walk of op.Unword: whatever the word, its text, if it is one. The walks of op.names and op.name: the words of kinds. -/
import Derived.Test.YtodiohoiekkodaaDoorMa1
import Derived.Test.YtodiohoiekkodaaDoorMa2
import Derived.WalkKit
import Derived.Laws.IdiomStrings
import Derived.Lib.Hide
import Derived.Lib.Builder
import Derived.WalkSpells
import Derived.WideMake
import Derived.Maps.RangeRun
import Derived.Carry
section
set_option linter.unusedVariables false
namespace Go.Proofs.YtodiohoiekkodaaDoor.Op
open Go.RowKit Go.Proofs.YtodiohoiekkodaaDoor.Sp

def lowN (c : UInt8) : Nat := c.toNat ||| 32
theorem or32 : ∀ c : Fin 256, Go.bits .or .u8 (c.val : Int) 32 = ((c.val ||| 32 : Nat) : Int) := by decide +kernel
theorem lower_any (c : UInt8) (w : World) : Calls Tryd.prog 116 #[.int .u8 c.toNat] w fun e w' => e = .returned (.int .u8 (lowN c : Nat)) ∧ w = w' := by
  have h := or32 ⟨c.toNat, c.toNat_lt⟩
  go_enter Tryd.func116, Tryd.ntmps116
  go_wp2
  go_ret
  exact ⟨rfl, rfl⟩

theorem unhex_low : ∀ c : Fin 256, unhex (UInt8.ofNat c.val) = if 48 ≤ c.val ∧ c.val ≤ 57 then some (c.val - 48) else if 97 ≤ (c.val ||| 32) ∧ (c.val ||| 32) ≤ 102 then some ((c.val ||| 32) - 87) else none := by decide +kernel
theorem unhex_lowN (c : UInt8) : unhex c = if 48 ≤ c.toNat ∧ c.toNat ≤ 57 then some (c.toNat - 48) else if 97 ≤ lowN c ∧ lowN c ≤ 102 then some (lowN c - 87) else none := by
  have h := unhex_low ⟨c.toNat, c.toNat_lt⟩
  simp only [UInt8.ofNat_toNat] at h
  exact h
theorem low95 (c : UInt8) (h : c.toNat = 95) : lowN c = 127 := by unfold lowN; rw [h]; rfl
theorem low_lt (c : UInt8) : lowN c < 256 := by
  have h : ∀ c : Fin 256, c.val ||| 32 < 256 := by decide +kernel
  exact h ⟨c.toNat, c.toNat_lt⟩

/-- The number of hexadecimal digits, if they are. -/
def hexv (n : Nat) : Bs → Option Nat
  | [] => some n
  | c :: r => match unhex c with
    | some d => hexv (16 * n + d) r
    | none => none
theorem hexv_append (n : Nat) (l : Bs) (c : UInt8) : hexv n (l ++ [c]) = (hexv n l).bind fun m => (unhex c).map fun d => 16 * m + d := by
  induction l generalizing n with
  | nil => simp only [List.nil_append, hexv]; cases unhex c <;> rfl
  | cons a r ih => simp only [List.cons_append, hexv]; cases unhex a with
    | none => rfl
    | some d => exact ih _

theorem hexv_more (l r : Bs) : ∀ n, hexv n (l ++ r) = (hexv n l).bind fun m => hexv m r := by
  induction l with
  | nil => intro n; rfl
  | cons a l ih => intro n; simp only [List.cons_append, hexv]; cases unhex a with
    | none => rfl
    | some d => exact ih _

/-- How it ends. -/
def pu16 (r : Option Nat) : Value := match r with
  | some n => .tuple #[.int .u64 n, .nilIface]
  | none => .tuple #[.int .u64 0, .iface 139 (.int .i64 2)]

set_option maxHeartbeats 4000000 in
set_option maxRecDepth 100000 in
theorem pu16_inner (s : ByteArray) (w : World) (hs : s.size = 2) :
    Calls Tryd.prog 99 #[.string s, .int .i64 16, .int .i64 8] w fun e w' => e = .returned (pu16 (hexv 0 s.data.toList)) ∧ Below w.heap.size w w' := by
  have hcv := fun w s => run_bytes_of_string (P := Tryd.prog) w 9 74 5 s Tryd.underlying9 Tryd.underlying74 Tryd.underlying5
  have hne : s.toList.isEmpty = false := by rw [ByteArray.toList_eq s]; cases h : s.data.toList with
    | nil => have : s.data.toList.length = s.size := rfl; rw [h] at this; simp at this; omega
    | cons _ _ => rfl
  have hs1 : s.size ≤ 2 := by omega
  have HS := Lib.hid hs
  clear hs
  go_enter Tryd.func99, Tryd.ntmps99
  go_wp2
  generalize grownCap w s.size 0 5 = cap
  generalize hq : (1152921504606846976 : Int) = q
  have hq2 : 1000 ≤ q := by omega
  clear hq
  go_loopw [12, 13, 101] (fun us nn i wr => ∃ k m : Nat, k ≤ s.size ∧ i = .int .i64 k ∧ us = .bool false ∧ nn = .int .u64 m ∧ hexv 0 (s.data.toList.take k) = some m ∧ m < 16 ^ k ∧ wr.heap[w.heap.size]? = some (.cells (bytesRow s cap) 5 ((bytesRow s cap).size, (bytesRow s cap).size + 1)) ∧ w.heap.size + 1 ≤ wr.heap.size ∧ Below w.heap.size w wr) (fun _ _ i _ => s.size - (intOf i).toNat)
  case atStart =>
    refine ⟨0, 0, Nat.zero_le _, rfl, rfl, rfl, rfl, by decide, ?_, by simp, ((Below.refl _ w).alloc (Nat.le_refl _) _).drew⟩
    exact heap_alloc_new _ _
  case round =>
    obtain ⟨k, m, hk, rfl, rfl, rfl, hm, hmk, hrow, hsz, hbel⟩ := hrel
    have HM := Lib.hid hm
    clear hm
    by_cases hlt : k < s.size
    · have hc : wr.cell? ⟨w.heap.size, k, none⟩ = some (.int .u8 (s.data[k]'hlt).toNat) := by
        rw [Lib.cell_of_heap hrow]; exact bytesRow_at s cap k hlt
      have hn : hexv 0 (s.data.toList.take (k + 1)) = (hexv 0 (s.data.toList.take k)).bind fun m => (unhex (s.data[k]'hlt)).map fun d => 16 * m + d := by
        rw [List.take_succ_eq_append_getElem (by simpa using hlt), hexv_append]; rfl
      have HN := Lib.hid hn
      clear hn
      generalize (s.data[k]'hlt) = c at *
      have hb := c.toNat_lt
      have hl := low_lt c
      have hm16 : m < 16 := by
        have h2 : k = 0 ∨ k = 1 := by omega
        rcases h2 with rfl | rfl
        · have : m < 1 := by simpa using hmk
          omega
        · simpa using hmk
      have hmk2 : m < 1 ∨ k = 1 := by
        have h2 : k = 0 ∨ k = 1 := by omega
        rcases h2 with rfl | rfl
        · exact .inl (by simpa using hmk)
        · exact .inr rfl
      by_cases hD : 48 ≤ c.toNat ∧ c.toNat ≤ 57
      · obtain ⟨d1, d2⟩ := hD
        have hu : unhex c = some (c.toNat - 48) := by rw [unhex_lowN, if_pos ⟨d1, d2⟩]
        have HU := Lib.hid hu
        clear hu
        have f0 : ((c.toNat : Int) == 95) = false := by simp; omega
        have f1 : decide ((48 : Int) ≤ (c.toNat : Int)) = true := decide_eq_true (by omega)
        have f2 : decide ((c.toNat : Int) ≤ 57) = true := decide_eq_true (by omega)
        go_wp2
        · refine ⟨⟨k + 1, 16 * m + (c.toNat - 48), by omega, by go_num, rfl, by congr 1; omega, by rw [HN.out, HM.out]; simp [HU.out], ?_, hrow, hsz, hbel⟩, by simp [intOf]; omega⟩
          rw [Nat.pow_succ]; omega
      · have hnd : c.toNat < 48 ∨ 57 < c.toNat := by omega
        by_cases hL : 97 ≤ lowN c ∧ lowN c ≤ 102
        · have hu : unhex c = some (lowN c - 87) := by rw [unhex_lowN, if_neg hD, if_pos hL]
          have HU := Lib.hid hu
          clear hu hD
          obtain ⟨l1, l2⟩ := hL
          have f0 : ((c.toNat : Int) == 95) = false := by
            have := low95 c
            simp; omega
          have f3 : decide ((97 : Int) ≤ (lowN c : Int)) = true := decide_eq_true (by omega)
          have f4 : decide ((lowN c : Int) ≤ 122) = true := decide_eq_true (by omega)
          rcases hnd with d1 | d1
          · have f1 : decide ((48 : Int) ≤ (c.toNat : Int)) = false := decide_eq_false (by omega)
            go_wp2_with (go_at_call 116; refine (lower_any c _).mono ?_; rintro e w' ⟨rfl, rfl⟩)
            refine ⟨⟨k + 1, 16 * m + (lowN c - 87), by omega, by go_num, rfl, by congr 1; omega, by rw [HN.out, HM.out]; simp [HU.out], ?_, hrow, hsz, hbel⟩, by simp [intOf]; omega⟩
            rw [Nat.pow_succ]; omega
          · have f1 : decide ((48 : Int) ≤ (c.toNat : Int)) = true := decide_eq_true (by omega)
            have f2 : decide ((c.toNat : Int) ≤ 57) = false := decide_eq_false (by omega)
            go_wp2_with (go_at_call 116; refine (lower_any c _).mono ?_; rintro e w' ⟨rfl, rfl⟩)
            refine ⟨⟨k + 1, 16 * m + (lowN c - 87), by omega, by go_num, rfl, by congr 1; omega, by rw [HN.out, HM.out]; simp [HU.out], ?_, hrow, hsz, hbel⟩, by simp [intOf]; omega⟩
            rw [Nat.pow_succ]; omega
        · have hu : unhex c = none := by rw [unhex_lowN, if_neg hD, if_neg hL]
          have hbad : hexv 0 s.data.toList = none := by
            have e : s.data.toList = s.data.toList.take (k + 1) ++ s.data.toList.drop (k + 1) := (List.take_append_drop _ _).symm
            rw [e, hexv_more, HN.out, HM.out]
            simp [hu]
          have HBAD := Lib.hid hbad
          clear hu hD hbad
          have hX : (lowN c < 97) ∨ (103 ≤ lowN c ∧ lowN c ≤ 122) ∨ 122 < lowN c := by omega
          clear hL
          have h95 := low95 c
          have f0 : ((c.toNat : Int) == 95) = true ∨ ((c.toNat : Int) == 95) = false := by cases ((c.toNat : Int) == 95) <;> simp
          clear h95
          rcases hX with x1 | ⟨x1, x2⟩ | x1
          · have f3 : decide ((97 : Int) ≤ (lowN c : Int)) = false := decide_eq_false (by omega)
            rcases hnd with d1 | d1
            · have f1 : decide ((48 : Int) ≤ (c.toNat : Int)) = false := decide_eq_false (by omega)
              rcases f0 with f0 | f0
              all_goals
                go_wp2_with (go_at_call 116; refine (lower_any c _).mono ?_; rintro e w' ⟨rfl, rfl⟩)
                go_ret2
                exact ⟨by rw [HBAD.out]; rfl, hbel⟩
            · have f1 : decide ((48 : Int) ≤ (c.toNat : Int)) = true := decide_eq_true (by omega)
              have f2 : decide ((c.toNat : Int) ≤ 57) = false := decide_eq_false (by omega)
              rcases f0 with f0 | f0
              all_goals
                go_wp2_with (go_at_call 116; refine (lower_any c _).mono ?_; rintro e w' ⟨rfl, rfl⟩)
                go_ret2
                exact ⟨by rw [HBAD.out]; rfl, hbel⟩
          · have f3 : decide ((97 : Int) ≤ (lowN c : Int)) = true := decide_eq_true (by omega)
            have f4 : decide ((lowN c : Int) ≤ 122) = true := decide_eq_true (by omega)
            rcases hnd with d1 | d1
            · have f1 : decide ((48 : Int) ≤ (c.toNat : Int)) = false := decide_eq_false (by omega)
              rcases f0 with f0 | f0
              all_goals
                go_wp2_with (go_at_call 116; refine (lower_any c _).mono ?_; rintro e w' ⟨rfl, rfl⟩)
                go_ret2
                exact ⟨by rw [HBAD.out]; rfl, hbel⟩
            · have f1 : decide ((48 : Int) ≤ (c.toNat : Int)) = true := decide_eq_true (by omega)
              have f2 : decide ((c.toNat : Int) ≤ 57) = false := decide_eq_false (by omega)
              rcases f0 with f0 | f0
              all_goals
                go_wp2_with (go_at_call 116; refine (lower_any c _).mono ?_; rintro e w' ⟨rfl, rfl⟩)
                go_ret2
                exact ⟨by rw [HBAD.out]; rfl, hbel⟩
          · have f3 : decide ((97 : Int) ≤ (lowN c : Int)) = true := decide_eq_true (by omega)
            have f4 : decide ((lowN c : Int) ≤ 122) = false := decide_eq_false (by omega)
            rcases hnd with d1 | d1
            · have f1 : decide ((48 : Int) ≤ (c.toNat : Int)) = false := decide_eq_false (by omega)
              rcases f0 with f0 | f0
              all_goals
                go_wp2_with (go_at_call 116; refine (lower_any c _).mono ?_; rintro e w' ⟨rfl, rfl⟩)
                go_ret2
                exact ⟨by rw [HBAD.out]; rfl, hbel⟩
            · have f1 : decide ((48 : Int) ≤ (c.toNat : Int)) = true := decide_eq_true (by omega)
              have f2 : decide ((c.toNat : Int) ≤ 57) = false := decide_eq_false (by omega)
              rcases f0 with f0 | f0
              all_goals
                go_wp2_with (go_at_call 116; refine (lower_any c _).mono ?_; rintro e w' ⟨rfl, rfl⟩)
                go_ret2
                exact ⟨by rw [HBAD.out]; rfl, hbel⟩
    · obtain rfl : k = s.size := by omega
      have e1 : s.data.toList.take s.size = s.data.toList := List.take_of_length_le (Nat.le_refl _)
      have hfin : hexv 0 s.data.toList = some m := by rw [← e1]; exact HM.out
      have HF := Lib.hid hfin
      clear hfin e1 HM hlt hk
      go_wp2
      go_ret2
      exact ⟨by rw [HF.out]; rfl, hbel⟩

set_option maxHeartbeats 2000000 in
set_option maxRecDepth 100000 in
theorem pu16_ok (s : ByteArray) (n : Nat) (w : World) (hs : s.size = 2) (hn : hexv 0 s.data.toList = some n) :
    Calls Tryd.prog 81 #[.string s, .int .i64 16, .int .i64 8] w fun e w' => e = .returned (.tuple #[.int .u64 n, .nilIface]) ∧ Below w.heap.size w w' := by
  have h := pu16_inner s w hs
  rw [hn] at h
  have H := Lib.hid h
  clear hs hn h
  go_enter Tryd.func81, Tryd.ntmps81
  go_wp2_with (go_at_call 99; refine H.out.mono ?_; rintro e w1 ⟨rfl, hb⟩; unfold pu16)
  go_ret2
  exact ⟨rfl, hb⟩

set_option maxHeartbeats 2000000 in
set_option maxRecDepth 100000 in
theorem pu16_err (s : ByteArray) (w : World) (hG : Glob w) (hs : s.size = 2) (hn : hexv 0 s.data.toList = none) :
    Calls Tryd.prog 81 #[.string s, .int .i64 16, .int .i64 8] w fun e w' => (∃ N, e = .returned (.tuple #[.int .u64 0, .iface 142 (.pointer (some ⟨N, 0, none⟩))])) ∧ Below w.heap.size w w' := by
  have h := pu16_inner s w hs
  rw [hn] at h
  have H := Lib.hid h
  have hs2 : s.size ≤ 281474976710656 := by omega
  clear hs hn h
  go_enter Tryd.func81, Tryd.ntmps81
  go_wp2_with (go_at_call 99; refine H.out.mono ?_; rintro e w1 ⟨rfl, hb⟩; unfold pu16)
  obtain ⟨tp, p, hcell⟩ := (hG.below hb).synCell
  refine (Tryd.strconv_toError_syntax _ s 16 8 (.iface tp p) _ hs2 hcell (.inr ⟨_, _, rfl⟩)).mono ?_
  rintro e w2 ⟨N, rfl, _, _, hb2⟩
  go_wp2
  go_ret2
  exact ⟨⟨N, rfl⟩, hb.trans (hb2.mono hb.size)⟩
end Go.Proofs.YtodiohoiekkodaaDoor.Op
end

section
set_option linter.unusedVariables false
namespace Go.Proofs.YtodiohoiekkodaaDoor.Op
open Go.RowKit Go.Proofs.YtodiohoiekkodaaDoor.Bd Go.Proofs.YtodiohoiekkodaaDoor.Sp

theorem take_drop_two {l : Bs} {k : Nat} (h : k + 2 < l.length) : (l.drop (k + 1)).take 2 = [l[k + 1], l[k + 2]] := by
  rw [List.drop_eq_getElem_cons (by omega), List.drop_eq_getElem_cons (by omega)]
  rfl

/-- What Unword answers. -/
def unwordV (w : ByteArray) : Value := match unwordL w.data.toList with
  | some t => .tuple #[.string (ba t), .bool true]
  | none => .tuple #[.string ⟨#[]⟩, .bool false]
theorem unwordV_some {w : ByteArray} {t : Bs} (h : unwordL w.data.toList = some t) : unwordV w = .tuple #[.string (ba t), .bool true] := by unfold unwordV; rw [h]
theorem unwordV_none {w : ByteArray} (h : unwordL w.data.toList = none) : unwordV w = .tuple #[.string ⟨#[]⟩, .bool false] := by unfold unwordV; rw [h]

theorem hexv2_some {a b : UInt8} {n : Nat} (h : hexv 0 [a, b] = some n) : ∃ x y, unhex a = some x ∧ unhex b = some y ∧ n = 16 * x + y ∧ n < 256 := by
  have hx : ∀ (c : UInt8) (x : Nat), unhex c = some x → x < 16 := by
    intro c x hc
    unfold unhex at hc
    split at hc
    · have := Option.some.inj hc; omega
    · split at hc
      · have := Option.some.inj hc; omega
      · split at hc
        · have := Option.some.inj hc; omega
        · cases hc
  cases ha : unhex a with
  | none => simp [hexv, ha] at h
  | some x =>
    cases hb : unhex b with
    | none => simp [hexv, ha, hb] at h
    | some y =>
      simp [hexv, ha, hb] at h
      have h1 := hx _ _ ha
      have h2 := hx _ _ hb
      exact ⟨x, y, rfl, rfl, h.symm, by omega⟩
theorem hexv2_none {a b : UInt8} (h : hexv 0 [a, b] = none) : unhex a = none ∨ unhex b = none := by
  cases ha : unhex a with
  | none => exact .inl rfl
  | some x =>
    cases hb : unhex b with
    | none => exact .inr rfl
    | some y => simp [hexv, ha, hb] at h

/-- What is told so far, with what is left, is the whole. -/
def Told (w : Bs) (k : Nat) (l : Bs) : Prop := unw w = (unw (w.drop k)).map (l ++ ·)
theorem Told.start (w : Bs) : Told w 0 [] := by unfold Told; simp
theorem Told.plain {w l : Bs} {k : Nat} (h : Told w k l) (hk : k < w.length) (h37 : w[k].toNat ≠ 37) : Told w (k + 1) (l ++ [w[k]]) := by
  unfold Told at *
  rw [h, List.drop_eq_getElem_cons hk, unw_plain _ _ h37, Option.map_map]
  congr 1
  funext x; simp
theorem drop3 {w : Bs} {k : Nat} (hk : k + 2 < w.length) : w.drop k = w[k] :: w[k + 1] :: w[k + 2] :: w.drop (k + 3) := by
  rw [List.drop_eq_getElem_cons (by omega), List.drop_eq_getElem_cons (by omega), List.drop_eq_getElem_cons (by omega)]
theorem Told.mark {w l : Bs} {k n : Nat} (h : Told w k l) (hk : k + 2 < w.length) (h37 : w[k].toNat = 37) (hn : hexv 0 [w[k + 1], w[k + 2]] = some n) : Told w (k + 3) (l ++ [UInt8.ofNat n]) := by
  obtain ⟨x, y, hx, hy, rfl, _⟩ := hexv2_some hn
  unfold Told at *
  have e : w[k] = 37 := by
    have := UInt8.ofNat_toNat (x := w[k]); rw [h37] at this; exact this.symm
  rw [h, drop3 hk, e, unw_mark _ _ _ _ _ hx hy, Option.map_map]
  congr 1
  funext z; simp
theorem Told.bad {w l : Bs} {k : Nat} (h : Told w k l) (hk : k + 2 < w.length) (h37 : w[k].toNat = 37) (hn : hexv 0 [w[k + 1], w[k + 2]] = none) : unw w = none := by
  unfold Told at h
  have e : w[k] = 37 := by
    have := UInt8.ofNat_toNat (x := w[k]); rw [h37] at this; exact this.symm
  rw [h, drop3 hk, e, unw_mark_bad _ _ _ (hexv2_none hn)]; rfl
theorem Told.short {w l : Bs} {k : Nat} (h : Told w k l) (hk : k < w.length) (h2 : w.length ≤ k + 2) (h37 : w[k].toNat = 37) : unw w = none := by
  unfold Told at h
  have e : w[k] = 37 := by
    have := UInt8.ofNat_toNat (x := w[k]); rw [h37] at this; exact this.symm
  rw [h, List.drop_eq_getElem_cons hk, e, unw_mark_short _ (by simp; omega)]; rfl
theorem Told.done {w l : Bs} (h : Told w w.length l) : unw w = some l := by
  unfold Told at h
  rw [h, List.drop_length]; simp [unw]

theorem unwordL_none {w : Bs} (hw : w ≠ [37]) (h : unw w = none) : unwordL w = none := by unfold unwordL; rw [if_neg hw, h]; rfl
theorem unwordL_ok {w l : Bs} (hw : w ≠ [37]) (h : unw w = some l) (he : wordL l = w) : unwordL w = some l := by unfold unwordL; rw [if_neg hw, h]; simp [he]
theorem unwordL_other {w l : Bs} (hw : w ≠ [37]) (h : unw w = some l) (he : wordL l ≠ w) : unwordL w = none := by unfold unwordL; rw [if_neg hw, h]; simp [he]

set_option maxHeartbeats 1000000 in
set_option maxRecDepth 100000 in
theorem unword_mark (w : World) :
    Calls Tryd.prog 63 #[.string ⟨#[37]⟩] w fun e w' => e = .returned (unwordV ⟨#[37]⟩) ∧ Below w.heap.size w w' := by
  go_enter Tryd.func63, Tryd.ntmps63
  go_wp2
  go_ret2
  exact ⟨rfl, Below.refl _ _⟩

set_option maxHeartbeats 8000000 in
set_option maxRecDepth 100000 in
theorem unword_other (s : ByteArray) (w : World) (hG : Glob w) (hs : s.size ≤ 100000) (h37 : s.data.toList ≠ [37]) :
    Calls Tryd.prog 63 #[.string s] w fun e w' => e = .returned (unwordV s) ∧ Below w.heap.size w w' := by
  have hne : (s.toList == [37]) = false := by rw [bytes_toList]; exact beq_eq_false_iff_ne.2 h37
  have hlen : s.data.toList.length = s.size := rfl
  have H37 := Lib.hid h37
  have HL := Lib.hid hlen
  clear h37 hlen
  go_enter Tryd.func63, Tryd.ntmps63
  go_wp2
  go_loopw [5] (fun i wr => ∃ (k : Nat) (l : Bs), k ≤ s.size ∧ i = .int .i64 k ∧ l.length ≤ k ∧ Told s.data.toList k l ∧ Bd (w.heap.size + 1) w.heap.size l wr ∧ w.heap.size + 1 ≤ wr.heap.size ∧ Below w.heap.size w wr) (fun i _ => s.size - (intOf i).toNat)
  case atStart =>
    exact ⟨0, [], Nat.zero_le _, rfl, Nat.le_refl _, Told.start _, Bd.new w _ (by omega), by simp, (Below.refl _ w).alloc (Nat.le_refl _) _⟩
  case round =>
    obtain ⟨k, l, hk, rfl, hlk, ht, hB, hsz, hbel⟩ := hrel
    have HT := Lib.hid ht
    clear ht
    by_cases hlt : k < s.size
    · have hkl : k < s.data.toList.length := by rw [HL.out]; exact hlt
      have hget : s.data.toList[k] = s[k]'hlt := rfl
      have HG := Lib.hid hget
      clear hget
      by_cases hc : (s[k]'hlt).toNat = 37
      · have hc2 : (((s[k]'hlt).toNat : Int) != 37) = false := by simp; omega
        have HC := Lib.hid hc
        clear hc
        by_cases h2 : k + 2 < s.size
        · have hkl2 : k + 2 < s.data.toList.length := by rw [HL.out]; exact h2
          have hpsz : (s.extract (k + 1) (k + 3)).size = 2 := by simp [ByteArray.size_extract]; omega
          have hpl : (s.extract (k + 1) (k + 3)).data.toList = [s.data.toList[k + 1], s.data.toList[k + 2]] := by
            rw [Lib.extract_data, show k + 3 - (k + 1) = 2 from by omega]
            exact take_drop_two hkl2
          have HPS := Lib.hid hpsz
          have HPL := Lib.hid hpl
          clear hpsz hpl
          have hsl : ∀ wx : World, (Instr.slice 9 (.string s) (some (.int .i64 ((k : Int) + 1))) (some (.int .i64 ((k : Int) + 3))) none).run Tryd.prog wx = .ok (.string (s.extract (k + 1) (k + 3))) wx := fun wx => by
            have h := run_slice_string (P := Tryd.prog) (w := wx) 9 s .i64 .i64 ((k : Int) + 1) ((k : Int) + 3) Tryd.underlying9 (by omega) (by omega) (by omega)
            rw [show ((k : Int) + 1).toNat = k + 1 from by omega, show ((k : Int) + 3).toNat = k + 3 from by omega] at h
            exact h
          cases hx : hexv 0 [s.data.toList[k + 1], s.data.toList[k + 2]] with
          | some n =>
            have hn256 : n < 256 := by obtain ⟨_, _, _, _, _, h⟩ := hexv2_some hx; exact h
            have HX := Lib.hid hx
            clear hx
            go_wp2_with (go_at_call 81; refine (pu16_ok _ n _ HPS.out (by rw [HPL.out]; exact HX.out)).mono ?_; rintro e w2 ⟨rfl, hb2⟩)
            refine (writeByte _ _ _ (UInt8.ofNat n) _ _ (by simp; omega) (hB.below (by omega) hb2) (by omega) (Nat.le_trans hsz hb2.size)).mono ?_
            rintro e w3 ⟨rfl, hB3, hK3⟩
            have hbel3 := (hbel.trans (hb2.mono (by omega))).trans (hK3.below (by omega))
            have hsz3 := Nat.le_trans (Nat.le_trans hsz hb2.size) hK3.size
            clear hB hbel hK3 hb2
            go_wp2
            go_roundw
            case rel => exact ⟨k + 3, l ++ [UInt8.ofNat n], by omega, by go_num, by simp; omega, HT.out.mark hkl2 (by rw [HG.out]; exact HC.out) HX.out, hB3, hsz3, hbel3⟩
            case measure => simp [intOf]; omega
          | none =>
            have HX := Lib.hid hx
            clear hx
            go_wp2_with (go_at_call 81; refine (pu16_err _ _ (hG.below hbel) HPS.out (by rw [HPL.out]; exact HX.out)).mono ?_; rintro e w2 ⟨⟨N, rfl⟩, hb2⟩)
            go_ret2
            exact ⟨by rw [unwordV_none (unwordL_none H37.out (HT.out.bad hkl2 (by rw [HG.out]; exact HC.out) HX.out))]; rfl, hbel.trans (hb2.mono (by omega))⟩
        · go_wp2
          go_ret2
          exact ⟨by rw [unwordV_none (unwordL_none H37.out (HT.out.short hkl (by rw [HL.out]; omega) (by rw [HG.out]; exact HC.out)))]; rfl, hbel⟩
      · have hc2 : (((s[k]'hlt).toNat : Int) != 37) = true := by simp; omega
        have HC := Lib.hid hc
        clear hc
        go_wp2_with fail
        refine (writeByte _ _ _ (s[k]'hlt) _ _ rfl hB (by omega) hsz).mono ?_
        rintro e w2 ⟨rfl, hB2, hK2⟩
        have hbel2 := hbel.trans (hK2.below (by omega))
        have hsz2 := Nat.le_trans hsz hK2.size
        clear hB hbel hK2
        go_wp2
        go_roundw
        case rel => exact ⟨k + 1, l ++ [s[k]'hlt], by omega, by go_num, by simp; omega, HT.out.plain hkl (by rw [HG.out]; exact HC.out), hB2, hsz2, hbel2⟩
        case measure => simp [intOf]; omega
    · obtain rfl : k = s.size := by omega
      have hu : unw s.data.toList = some l := (HT.out : Told s.data.toList s.data.toList.length l).done
      have HU := Lib.hid hu
      clear hu HT hlt hk
      go_wp2_with (go_at_call 44; refine (Tryd.Builder_String_any _ _ _ _ hB.isBuilder (by omega)).mono ?_; rintro e w2 ⟨rfl, hb2⟩)
      refine (word_any (ba l) _ (by show l.length ≤ _; omega)).mono ?_
      rintro e w3 ⟨rfl, hb3⟩
      have hbel3 := (hbel.trans hb2).trans (hb3.mono (by have := hb2.size; omega))
      by_cases he : wordL l = s.data.toList
      · have hq : ((wordB (ba l)).toList == s.toList) = true := by rw [bytes_toList, bytes_toList]; simp [wordB, ba, he]
        have HE := Lib.hid he
        clear he
        go_wp2
        go_ret2
        exact ⟨by rw [unwordV_some (unwordL_ok H37.out HU.out HE.out)]; rfl, hbel3⟩
      · have hq : ((wordB (ba l)).toList == s.toList) = false := by rw [bytes_toList, bytes_toList]; simp [wordB, ba, he]
        have HE := Lib.hid he
        clear he
        go_wp2
        go_ret2
        exact ⟨by rw [unwordV_none (unwordL_other H37.out HU.out HE.out)]; rfl, hbel3⟩

theorem unword_any (s : ByteArray) (w : World) (hG : Glob w) (hs : s.size ≤ 100000) :
    Calls Tryd.prog 63 #[.string s] w fun e w' => e = .returned (unwordV s) ∧ Below w.heap.size w w' := by
  by_cases h : s.data.toList = [37]
  · obtain rfl : s = ⟨#[37]⟩ := by
      rcases s with ⟨⟨l⟩⟩
      simp at h
      rw [h]
    exact unword_mark w
  · exact unword_other s w hG hs h
end Go.Proofs.YtodiohoiekkodaaDoor.Op
end

section
set_option linter.unusedVariables false
namespace Go.Proofs.YtodiohoiekkodaaDoor.Op
open Go.RowKit Go.Proofs.YtodiohoiekkodaaDoor.Bd Go.Proofs.YtodiohoiekkodaaDoor.Sp
open Go.ChangeMaps (setBlock)

theorem setIn_alloc (w : World) (o o' : Obj) : ({ (w.alloc o) with heap := (w.alloc o).heap.setIfInBounds w.heap.size o' } : World) = w.alloc o' := by
  show ({ w with heap := (w.heap.push o).setIfInBounds w.heap.size o' } : World) = { w with heap := w.heap.push o' }
  congr 1
  apply Array.ext
  · simp
  · intro i h1 h2
    simp at h1 h2
    rw [Array.getElem_setIfInBounds (by simp; omega)]
    rw [Array.getElem_push, Array.getElem_push]
    split <;> split <;> first | rfl | omega

/-- An entry laid into a map that the call has just made, under a key that isn't there. -/
theorem run_insert_new {P : Program} (w : World) (mty kt et : TypeId) (clock : Nat) (es : Array MapEntry) (s : ByteArray) (val : Value) (hm : P.underlying mty = some (.map kt et)) (hk : P.underlying kt = some .string)
    (hf : Instr.findNow .string (.string s) es.toList 0 = some none) :
    (Instr.mapUpdate mty (.map (some w.heap.size)) (.string s) val).run P (w.alloc (.map es clock)) = .ok () (w.alloc (.map (es.push { key := .string s, val := val, born := clock }) (clock + 1))) := by
  have hb : (w.alloc (.map es clock)).heap[w.heap.size]? = some (.map es clock) := heap_alloc_new _ _
  have hc : (Instr.checkKey false 10000 kt (.string s)).run P (w.alloc (.map es clock)) = .ok () (w.alloc (.map es clock)) := MapKept.run_checkKey (k := .string s) hk (by simp [MapKept.IsKey]) false 9999
  simp only [Instr.mapUpdate, Sem.run_bind, run_underlying hm, MapKept.run_getObj_map hb, hc, MapKept.run_findKey hk hf, MapKept.run_setObj_map _ hb, Result.andThen]
  rw [setIn_alloc]

abbrev opAgg (k : Int) (keep : Bool) : Value := .agg #[.int .i64 k, .int .i64 0, .string ⟨#[]⟩, .string ⟨#[]⟩, .bool keep]
def kSub : ByteArray := ⟨#[115, 117, 98]⟩
def kUnsub : ByteArray := ⟨#[117, 110, 115, 117, 98]⟩
def kPub : ByteArray := ⟨#[112, 117, 98]⟩
def kKeep : ByteArray := ⟨#[107, 101, 101, 112]⟩
def kPoll : ByteArray := ⟨#[112, 111, 108, 108]⟩
def kDrops : ByteArray := ⟨#[100, 114, 111, 112, 115]⟩
def namesE : Array MapEntry := #[⟨.string ⟨#[115, 117, 98]⟩, opAgg 1 false, 0⟩, ⟨.string ⟨#[117, 110, 115, 117, 98]⟩, opAgg 2 false, 1⟩, ⟨.string ⟨#[112, 117, 98]⟩, opAgg 3 false, 2⟩,
  ⟨.string ⟨#[107, 101, 101, 112]⟩, opAgg 3 true, 3⟩, ⟨.string ⟨#[112, 111, 108, 108]⟩, opAgg 4 false, 4⟩, ⟨.string ⟨#[100, 114, 111, 112, 115]⟩, opAgg 5 false, 5⟩]

set_option maxHeartbeats 1000000 in
set_option maxRecDepth 100000 in
theorem names_any (w : World) : Calls Tryd.prog 38 #[] w fun e w' => e = .returned (.map (some w.heap.size)) ∧ w.alloc (.map namesE 6) = w' := by
  have hmm := @run_makeMap Tryd.prog
  have hi := fun (w : World) (c : Nat) (es : Array MapEntry) (s : ByteArray) (v : Value) (h : Instr.findNow .string (.string s) es.toList 0 = some none) => run_insert_new (P := Tryd.prog) w 65 9 23 c es s v Tryd.underlying65 Tryd.underlying9 h
  have i0 : ∀ w : World, (Instr.mapUpdate 65 (.map (some w.heap.size)) (.string ⟨#[115, 117, 98]⟩) (opAgg 1 false)).run Tryd.prog (w.alloc (.map #[] 0)) = .ok () (w.alloc (.map #[⟨.string ⟨#[115, 117, 98]⟩, opAgg 1 false, 0⟩] 1)) := fun w => hi w 0 _ _ _ rfl
  have i1 : ∀ w : World, (Instr.mapUpdate 65 (.map (some w.heap.size)) (.string ⟨#[117, 110, 115, 117, 98]⟩) (opAgg 2 false)).run Tryd.prog (w.alloc (.map #[⟨.string ⟨#[115, 117, 98]⟩, opAgg 1 false, 0⟩] 1)) = .ok () (w.alloc (.map #[⟨.string ⟨#[115, 117, 98]⟩, opAgg 1 false, 0⟩, ⟨.string ⟨#[117, 110, 115, 117, 98]⟩, opAgg 2 false, 1⟩] 2)) := fun w => hi w 1 _ _ _ rfl
  have i2 : ∀ w : World, (Instr.mapUpdate 65 (.map (some w.heap.size)) (.string ⟨#[112, 117, 98]⟩) (opAgg 3 false)).run Tryd.prog (w.alloc (.map #[⟨.string ⟨#[115, 117, 98]⟩, opAgg 1 false, 0⟩, ⟨.string ⟨#[117, 110, 115, 117, 98]⟩, opAgg 2 false, 1⟩] 2)) = .ok () (w.alloc (.map #[⟨.string ⟨#[115, 117, 98]⟩, opAgg 1 false, 0⟩, ⟨.string ⟨#[117, 110, 115, 117, 98]⟩, opAgg 2 false, 1⟩, ⟨.string ⟨#[112, 117, 98]⟩, opAgg 3 false, 2⟩] 3)) := fun w => hi w 2 _ _ _ rfl
  have i3 : ∀ w : World, (Instr.mapUpdate 65 (.map (some w.heap.size)) (.string ⟨#[107, 101, 101, 112]⟩) (opAgg 3 true)).run Tryd.prog (w.alloc (.map #[⟨.string ⟨#[115, 117, 98]⟩, opAgg 1 false, 0⟩, ⟨.string ⟨#[117, 110, 115, 117, 98]⟩, opAgg 2 false, 1⟩, ⟨.string ⟨#[112, 117, 98]⟩, opAgg 3 false, 2⟩] 3)) = .ok () (w.alloc (.map #[⟨.string ⟨#[115, 117, 98]⟩, opAgg 1 false, 0⟩, ⟨.string ⟨#[117, 110, 115, 117, 98]⟩, opAgg 2 false, 1⟩, ⟨.string ⟨#[112, 117, 98]⟩, opAgg 3 false, 2⟩, ⟨.string ⟨#[107, 101, 101, 112]⟩, opAgg 3 true, 3⟩] 4)) := fun w => hi w 3 _ _ _ rfl
  have i4 : ∀ w : World, (Instr.mapUpdate 65 (.map (some w.heap.size)) (.string ⟨#[112, 111, 108, 108]⟩) (opAgg 4 false)).run Tryd.prog (w.alloc (.map #[⟨.string ⟨#[115, 117, 98]⟩, opAgg 1 false, 0⟩, ⟨.string ⟨#[117, 110, 115, 117, 98]⟩, opAgg 2 false, 1⟩, ⟨.string ⟨#[112, 117, 98]⟩, opAgg 3 false, 2⟩, ⟨.string ⟨#[107, 101, 101, 112]⟩, opAgg 3 true, 3⟩] 4)) = .ok () (w.alloc (.map #[⟨.string ⟨#[115, 117, 98]⟩, opAgg 1 false, 0⟩, ⟨.string ⟨#[117, 110, 115, 117, 98]⟩, opAgg 2 false, 1⟩, ⟨.string ⟨#[112, 117, 98]⟩, opAgg 3 false, 2⟩, ⟨.string ⟨#[107, 101, 101, 112]⟩, opAgg 3 true, 3⟩, ⟨.string ⟨#[112, 111, 108, 108]⟩, opAgg 4 false, 4⟩] 5)) := fun w => hi w 4 _ _ _ rfl
  have i5 : ∀ w : World, (Instr.mapUpdate 65 (.map (some w.heap.size)) (.string ⟨#[100, 114, 111, 112, 115]⟩) (opAgg 5 false)).run Tryd.prog (w.alloc (.map #[⟨.string ⟨#[115, 117, 98]⟩, opAgg 1 false, 0⟩, ⟨.string ⟨#[117, 110, 115, 117, 98]⟩, opAgg 2 false, 1⟩, ⟨.string ⟨#[112, 117, 98]⟩, opAgg 3 false, 2⟩, ⟨.string ⟨#[107, 101, 101, 112]⟩, opAgg 3 true, 3⟩, ⟨.string ⟨#[112, 111, 108, 108]⟩, opAgg 4 false, 4⟩] 5)) = .ok () (w.alloc (.map #[⟨.string ⟨#[115, 117, 98]⟩, opAgg 1 false, 0⟩, ⟨.string ⟨#[117, 110, 115, 117, 98]⟩, opAgg 2 false, 1⟩, ⟨.string ⟨#[112, 117, 98]⟩, opAgg 3 false, 2⟩, ⟨.string ⟨#[107, 101, 101, 112]⟩, opAgg 3 true, 3⟩, ⟨.string ⟨#[112, 111, 108, 108]⟩, opAgg 4 false, 4⟩, ⟨.string ⟨#[100, 114, 111, 112, 115]⟩, opAgg 5 false, 5⟩] 6)) := fun w => hi w 5 _ _ _ rfl
  clear hi
  go_enter Tryd.func38, Tryd.ntmps38
  go_wp2
  go_ret
  exact ⟨rfl, rfl⟩

/-- The word of a kind; empty: there is none. -/
def nameOf (kind : Int) (keep : Bool) : ByteArray :=
  if kind = 1 ∧ keep = false then kSub else if kind = 2 ∧ keep = false then kUnsub else if kind = 3 ∧ keep = false then kPub else if kind = 3 ∧ keep = true then kKeep else if kind = 4 ∧ keep = false then kPoll else if kind = 5 ∧ keep = false then kDrops else ⟨#[]⟩

theorem entries (e : MapEntry) (h : e ∈ namesE.toList) : ∃ (s : ByteArray) (k : Int) (b : Bool) (i : Nat), e = ⟨.string s, opAgg k b, i⟩ ∧ nameOf k b = s := by
  simp only [namesE, List.mem_cons, List.not_mem_nil, or_false] at h
  rcases h with rfl | rfl | rfl | rfl | rfl | rfl
  · exact ⟨_, 1, false, _, rfl, rfl⟩
  · exact ⟨_, 2, false, _, rfl, rfl⟩
  · exact ⟨_, 3, false, _, rfl, rfl⟩
  · exact ⟨_, 3, true, _, rfl, rfl⟩
  · exact ⟨_, 4, false, _, rfl, rfl⟩
  · exact ⟨_, 5, false, _, rfl, rfl⟩

theorem nameOf_none (k0 : Int) (keep : Bool) (h : ∀ e ∈ namesE.toList, ∀ s k b i, e = ⟨.string s, opAgg k b, i⟩ → ¬ (k = k0 ∧ b = keep)) : nameOf k0 keep = ⟨#[]⟩ := by
  have a1 := h ⟨.string ⟨#[115, 117, 98]⟩, opAgg 1 false, 0⟩ (by simp [namesE]) _ 1 false _ rfl
  have a2 := h ⟨.string ⟨#[117, 110, 115, 117, 98]⟩, opAgg 2 false, 1⟩ (by simp [namesE]) _ 2 false _ rfl
  have a3 := h ⟨.string ⟨#[112, 117, 98]⟩, opAgg 3 false, 2⟩ (by simp [namesE]) _ 3 false _ rfl
  have a4 := h ⟨.string ⟨#[107, 101, 101, 112]⟩, opAgg 3 true, 3⟩ (by simp [namesE]) _ 3 true _ rfl
  have a5 := h ⟨.string ⟨#[112, 111, 108, 108]⟩, opAgg 4 false, 4⟩ (by simp [namesE]) _ 4 false _ rfl
  have a6 := h ⟨.string ⟨#[100, 114, 111, 112, 115]⟩, opAgg 5 false, 5⟩ (by simp [namesE]) _ 5 false _ rfl
  unfold nameOf
  rw [if_neg (by rintro ⟨rfl, rfl⟩; exact a1 ⟨rfl, rfl⟩), if_neg (by rintro ⟨rfl, rfl⟩; exact a2 ⟨rfl, rfl⟩), if_neg (by rintro ⟨rfl, rfl⟩; exact a3 ⟨rfl, rfl⟩), if_neg (by rintro ⟨rfl, rfl⟩; exact a4 ⟨rfl, rfl⟩),
    if_neg (by rintro ⟨rfl, rfl⟩; exact a5 ⟨rfl, rfl⟩), if_neg (by rintro ⟨rfl, rfl⟩; exact a6 ⟨rfl, rfl⟩)]

theorem heap3_0 (w : World) (a b c : Obj) : (((w.alloc a).alloc b).alloc c).heap[w.heap.size]? = some a := by
  rw [Below.heap_alloc _ _ _ (by simp; omega), Below.heap_alloc _ _ _ (by simp)]; exact heap_alloc_new _ _
theorem heap3_1 (w : World) (a b c : Obj) : (((w.alloc a).alloc b).alloc c).heap[w.heap.size + 1]? = some b := by
  have e : w.heap.size + 1 = (w.alloc a).heap.size := by simp
  rw [Below.heap_alloc _ _ _ (by simp), e]; exact heap_alloc_new _ _
theorem heap3_2 (w : World) (a b c : Obj) : (((w.alloc a).alloc b).alloc c).heap[w.heap.size + 1 + 1]? = some c := by
  have e : w.heap.size + 1 + 1 = ((w.alloc a).alloc b).heap.size := by simp
  rw [e]; exact heap_alloc_new _ _

/-- How many entries are still to come. -/
def leftN (r : Nat) (w : World) : Nat := match w.heap[r]? with
  | some (.mapIter _ _ seen _) => (leftOf namesE seen).size
  | _ => 0
theorem leftN_at {r : Nat} {w : World} {m : Option Nat} {a c : Nat} {seen : Array Nat} (h : w.heap[r]? = some (.mapIter m a seen c)) : leftN r w = (leftOf namesE seen).size := by unfold leftN; rw [h]
theorem seen_push (seen : Array Nat) (b x : Nat) : (seen.push b).contains x = (seen.contains x || x == b) := by
  rw [Bool.eq_iff_iff]; simp
theorem left_push (seen : Array Nat) (e : MapEntry) (he : e ∈ (leftOf namesE seen).toList) : (leftOf namesE (seen.push e.born)).size < (leftOf namesE seen).size := by
  have h1 : leftOf namesE (seen.push e.born) = (leftOf namesE seen).filter fun x => !(x.born == e.born) := by
    unfold leftOf
    rw [Array.filter_filter]
    congr 1
    funext x
    rw [seen_push]
    cases seen.contains x.born <;> cases (x.born == e.born) <;> rfl
  rw [h1]
  have h2 : ((leftOf namesE seen).filter fun x => !(x.born == e.born)).toList = (leftOf namesE seen).toList.filter fun x => !(x.born == e.born) := by simp
  have h3 := Array.length_toList.symm.trans (congrArg List.length h2)
  have h4 : (leftOf namesE seen).size = (leftOf namesE seen).toList.length := Array.length_toList.symm
  rw [h3, h4]
  exact List.length_filter_lt_length_iff_exists.2 ⟨e, he, by simp⟩
theorem left_mem {seen : Array Nat} {e : MapEntry} (he : e ∈ (leftOf namesE seen).toList) : e ∈ namesE.toList := by
  unfold leftOf at he
  simp at he ⊢
  exact he.1
theorem left_none {seen : Array Nat} (h : (leftOf namesE seen).size = 0) (e : MapEntry) (he : e ∈ namesE.toList) : seen.contains e.born = true := by
  have h1 : leftOf namesE seen = #[] := Array.eq_empty_of_size_eq_zero h
  unfold leftOf at h1
  rw [Array.filter_eq_empty_iff] at h1
  have := h1 e (by simpa using he)
  simpa using this

set_option maxHeartbeats 4000000 in
set_option maxRecDepth 100000 in
theorem name_any (k0 sub : Int) (t p : ByteArray) (keep : Bool) (w : World) :
    Calls Tryd.prog 30 #[.agg #[.int .i64 k0, .int .i64 sub, .string t, .string p, .bool keep]] w fun e w' => e = .returned (.string (nameOf k0 keep)) ∧ Below w.heap.size w w' := by
  have hrg := fun (w : World) (bm : Nat) (es : Array MapEntry) (c : Nat) (h : w.heap[bm]? = some (.map es c)) => run_range_map (P := Tryd.prog) w 65 _ _ bm es c Tryd.underlying65 h
  have h1 := hrg ((w.alloc (.cells #[.int .i64 k0, .int .i64 sub, .string t, .string p, .bool keep] 23)).alloc (.map namesE 6)) (w.heap.size + 1) namesE 6 (by
    have e : w.heap.size + 1 = (w.alloc (.cells #[.int .i64 k0, .int .i64 sub, .string t, .string p, .bool keep] 23)).heap.size := by simp
    rw [e]; exact heap_alloc_new _ _)
  clear hrg
  go_enter Tryd.func30, Tryd.ntmps30
  go_wp2_with (go_at_call 38; refine (names_any _).mono ?_; rintro e w1 ⟨rfl, rfl⟩)
  have W1 : Below w.heap.size w (((w.alloc (.cells #[.int .i64 k0, .int .i64 sub, .string t, .string p, .bool keep] 23)).alloc (.map namesE 6)).alloc (.mapIter (some (w.heap.size + 1)) 6 #[] 6)) :=
    (((Below.refl _ w).alloc (Nat.le_refl _) _).alloc (by simp) _).alloc (by simp; omega) _
  go_loopw [7] (fun _ wr => ∃ seen : Array Nat, wr.heap[w.heap.size]? = some (.cells #[.int .i64 k0, .int .i64 sub, .string t, .string p, .bool keep] 23) ∧ wr.heap[w.heap.size + 1]? = some (.map namesE 6) ∧
      wr.heap[w.heap.size + 1 + 1]? = some (.mapIter (some (w.heap.size + 1)) 6 seen 6) ∧ w.heap.size + 3 ≤ wr.heap.size ∧ Below w.heap.size w wr ∧
      (∀ e ∈ namesE.toList, seen.contains e.born = true → ∀ s k b i, e = ⟨.string s, opAgg k b, i⟩ → ¬ (k = k0 ∧ b = keep))) (fun _ wr => leftN (w.heap.size + 1 + 1) wr)
  case atStart =>
    exact ⟨#[], heap3_0 _ _ _ _, heap3_1 _ _ _ _, heap3_2 _ _ _ _, by simp, W1, fun e _ h => by simp at h⟩
  case round =>
    obtain ⟨seen, hx, hm, hr, hsz, hbel, hno⟩ := hrel
    have HNO := Lib.hid hno
    clear hno
    rcases run_next_at (P := Tryd.prog) wr 0 (w.heap.size + 1 + 1) (w.heap.size + 1) 6 6 seen namesE 6 hr hm (by simp [namesE]) (Nat.le_refl _) with ⟨h0, hrun⟩ | ⟨e, he, w1, hw1, hrun⟩
    · have H0 := Lib.hid h0
      clear h0
      go_wp2
      go_ret
      exact ⟨by rw [nameOf_none k0 keep (fun e he s k b i hs => HNO.out e he (left_none H0.out e he) s k b i hs)]; rfl, hbel⟩
    · obtain ⟨s, k, b, i, hev, hs⟩ := entries e (left_mem he)
      have hlp := left_push seen e he
      have hl0 := leftN_at hr
      have hr1 : w1.heap[w.heap.size + 1 + 1]? = some (.mapIter (some (w.heap.size + 1)) 6 seen 6) := by rcases hw1 with rfl | rfl <;> exact hr
      have hm1 : w1.heap[w.heap.size + 1]? = some (.map namesE 6) := by rcases hw1 with rfl | rfl <;> exact hm
      have hx1 : w1.heap[w.heap.size]? = some (.cells #[.int .i64 k0, .int .i64 sub, .string t, .string p, .bool keep] 23) := by rcases hw1 with rfl | rfl <;> exact hx
      have hb1 : Below w.heap.size w w1 := by
        rcases hw1 with rfl | rfl
        · exact hbel
        · exact hbel.drew
      have hz1 : w.heap.size + 3 ≤ w1.heap.size := by rcases hw1 with rfl | rfl <;> exact hsz
      obtain ⟨w2, hw2⟩ : ∃ w2, w2 = setBlock w1 (w.heap.size + 1 + 1) (.mapIter (some (w.heap.size + 1)) 6 (seen.push e.born) 6) := ⟨_, rfl⟩
      rw [← hw2] at hrun
      have hr2 : w2.heap[w.heap.size + 1 + 1]? = some (.mapIter (some (w.heap.size + 1)) 6 (seen.push e.born) 6) := by
        rw [hw2]; show (w1.heap.setIfInBounds _ _)[_]? = _; rw [Array.getElem?_setIfInBounds, if_pos rfl, if_pos (by omega)]
      have hoth : ∀ j, j ≠ w.heap.size + 1 + 1 → w2.heap[j]? = w1.heap[j]? := by
        intro j hj; rw [hw2]; show (w1.heap.setIfInBounds _ _)[_]? = _; rw [Array.getElem?_setIfInBounds, if_neg (by omega)]
      have hm2 : w2.heap[w.heap.size + 1]? = some (.map namesE 6) := (hoth _ (by omega)).trans hm1
      have hx2 : w2.heap[w.heap.size]? = some (.cells #[.int .i64 k0, .int .i64 sub, .string t, .string p, .bool keep] 23) := (hoth _ (by omega)).trans hx1
      have hz2 : w.heap.size + 3 ≤ w2.heap.size := by rw [hw2]; show _ ≤ (w1.heap.setIfInBounds _ _).size; simp; exact hz1
      have hb2 : Below w.heap.size w w2 := hb1.trans ⟨by rw [hw2]; rfl, by rw [hw2]; rfl, by rw [hw2]; rfl, by rw [hw2]; show _ ≤ (w1.heap.setIfInBounds _ _).size; simp, fun j hj => hoth j (by omega)⟩
      have hent := run_entry_at (P := Tryd.prog) w2 (w.heap.size + 1 + 1) (w.heap.size + 1) 6 seen namesE 6 e hr2 hm2 (left_mem he) (by decide)
      subst hev
      dsimp only at hrun hent
      have HL := Lib.hid hl0
      have HP := Lib.hid hlp
      have HS := Lib.hid hs
      have HE := Lib.hid he
      have HR := Lib.hid hr2
      have HM := Lib.hid hm2
      have HX := Lib.hid hx2
      have c0 : ∀ o, (w2.alloc o).cell? ⟨w.heap.size, 0, none⟩ = some (.int .i64 k0) := fun o => by rw [Lib.cell_of_heap ((Below.heap_alloc w2 o _ (by omega)).trans hx2)]; rfl
      have c4 : ∀ o, (w2.alloc o).cell? ⟨w.heap.size, 4, none⟩ = some (.bool keep) := fun o => by rw [Lib.cell_of_heap ((Below.heap_alloc w2 o _ (by omega)).trans hx2)]; rfl
      clear hl0 hlp hs he hr2 hm2 hx2 hw2 hoth hr1 hm1 hx1 hb1 hz1 hw1 hr hm hx hsz hbel
      have hgo : ¬ (k = k0 ∧ b = keep) → ∀ o, (∃ seen : Array Nat, (w2.alloc o).heap[w.heap.size]? = some (.cells #[.int .i64 k0, .int .i64 sub, .string t, .string p, .bool keep] 23) ∧ (w2.alloc o).heap[w.heap.size + 1]? = some (.map namesE 6) ∧
          (w2.alloc o).heap[w.heap.size + 1 + 1]? = some (.mapIter (some (w.heap.size + 1)) 6 seen 6) ∧ w.heap.size + 3 ≤ (w2.alloc o).heap.size ∧ Below w.heap.size w (w2.alloc o) ∧
          (∀ e ∈ namesE.toList, seen.contains e.born = true → ∀ s k b i, e = ⟨.string s, opAgg k b, i⟩ → ¬ (k = k0 ∧ b = keep))) ∧ leftN (w.heap.size + 1 + 1) (w2.alloc o) < leftN (w.heap.size + 1 + 1) wr := by
        intro hne o
        have q2 := (Below.heap_alloc w2 o _ (by omega)).trans HR.out
        refine ⟨⟨seen.push i, (Below.heap_alloc w2 o _ (by omega)).trans HX.out, (Below.heap_alloc w2 o _ (by omega)).trans HM.out, q2, by simp; omega, hb2.alloc (by omega) o, ?_⟩, ?_⟩
        · intro e' he' hc s' k' b' i' hs'
          rw [seen_push] at hc
          cases h1 : seen.contains e'.born with
          | true => exact HNO.out e' he' h1 s' k' b' i' hs'
          | false =>
            rw [h1] at hc
            have hi : e'.born = i := by simpa using hc
            have hb' : ∀ a ∈ namesE.toList, ∀ c ∈ namesE.toList, a.born = c.born → a = c := by
              intro a ha c hc' hac
              simp only [namesE, List.mem_cons, List.not_mem_nil, or_false] at ha hc'
              rcases ha with rfl | rfl | rfl | rfl | rfl | rfl <;> rcases hc' with rfl | rfl | rfl | rfl | rfl | rfl <;> first | rfl | (simp at hac)
            have he2 := hb' e' he' _ (left_mem HE.out) hi
            rw [hs'] at he2
            have e3 : k' = k ∧ b' = b := by
              injection he2 with _ h2 _
              injection h2 with h2
              simpa using h2
            rw [e3.1, e3.2]; exact hne
        · rw [leftN_at q2, HL.out]; exact HP.out
      have HGO := Lib.hid hgo
      have HB2 : ∀ o, Below w.heap.size w (w2.alloc o) := fun o => hb2.alloc (by omega) o
      have HBB := Lib.hid HB2
      clear hgo hz2 hb2 HB2
      by_cases hk : k = k0
      · subst hk
        by_cases hb : b = keep
        · subst hb
          go_wp2
          go_ret
          exact ⟨by rw [HS.out]; rfl, HBB.out _⟩
        · have hb3 : (b == keep) = false := by simp [hb]
          have hne : ¬ (k = k ∧ b = keep) := fun h => hb h.2
          have HN := Lib.hid hne
          clear hne hb
          go_wp2
          exact HGO.out HN.out _
      · have hk3 : (k == k0) = false := by simp [hk]
        have hne : ¬ (k = k0 ∧ b = keep) := fun h => hk h.1
        have HN := Lib.hid hne
        clear hne hk
        go_wp2
        exact HGO.out HN.out _
end Go.Proofs.YtodiohoiekkodaaDoor.Op
end
