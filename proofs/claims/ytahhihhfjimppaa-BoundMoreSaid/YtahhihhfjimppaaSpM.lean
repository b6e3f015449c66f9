/- Begun, Leads and SpLeads walked -/
import Derived.Test.YtahhihhfjimppaaSpJ
import Derived.Test.YtahhihhfjimppaaSpLead2
namespace Go.Proofs.Ytahhihhfjimppaa
open Go.RowKit
set_option linter.unusedSimpArgs false
set_option linter.unusedVariables false
set_option maxRecDepth 100000

def S.hitB (f : S.Five) (a : Int) : Bool := (decide (f.1 = 1) && (decide (f.2.2.1 = a) || decide (f.2.2.2.1 = a))) || (decide (f.1 = 3) && decide (f.2.2.2.2 = a))
def S.begunB (l : List S.Five) (a : Int) : Bool := decide (a = 0) || l.any (fun f => S.hitB f a)
theorem S.begun_iff (l : List S.Five) (a : Nat) : S.begunB l a = true ↔ S.begun l a := by
  unfold S.begunB S.begun S.hitB
  simp only [Bool.or_eq_true, decide_eq_true_eq, List.any_eq_true, Bool.and_eq_true]
  constructor
  · rintro (h | h)
    · exact .inl (by omega)
    · exact .inr h
  · rintro (h | h)
    · exact .inl (by omega)
    · exact .inr h

theorem begun_any (l : List S.Five) (A : Option Addr) (c : Nat) (a : Int) (w : World) (hr : Rd w w.heap.size A (fcs l)) (hl : l.length ≤ 60) :
    Calls Try.prog 16 #[.slice A l.length c, .int .i64 a] w (fun e w' => e = .returned (.bool (S.begunB l a)) ∧ w' = w) := by
  by_cases ha : a = 0
  · subst ha
    have HR : Hid (S.begunB l 0 = true) := Lib.hid (by simp [S.begunB])
    go_enter Try.func16, Try.ntmps16
    go_wp2
    go_ret
    exact ⟨by rw [HR.out]; rfl, rfl⟩
  · have q0 : (a == 0) = false := by simpa using ha
    have H0 : Hid (S.begunB l a = (l.drop 0).any (fun f => S.hitB f a)) := Lib.hid (by simp [S.begunB, ha])
    clear ha
    go_enter Try.func16, Try.ntmps16
    go_wp2
    go_loopg [5] l.length (fun gk ii wr => ∃ k : Nat, k + gk = l.length ∧ ii = .int .i64 k ∧ wr = w ∧ Hid (S.begunB l a = (l.drop k).any (fun f => S.hitB f a)))
    case atStart => exact ⟨0, by omega, rfl, rfl, H0⟩
    case round =>
      obtain ⟨k, hk, rfl, hw, HB⟩ := hrel
      subst hw
      have HK := Lib.hid hk
      clear H0
      by_cases hlt : k < l.length
      · clear hk
        have hkI : (k : Int) < (l.length : Int) := by omega
        obtain ⟨bA, oA, rfl, hbA, f0, f1, f2, f3, f4⟩ := hr.five hlt
        by_cases k1 : l[k].1 = 1
        · by_cases kB : l[k].2.2.1 = a
          · rw [k1] at f0
            rw [kB] at f2
            have hh : S.hitB l[k] a = true := by simp [S.hitB, k1, kB]
            have HB2 : Hid (S.begunB l a = true) := Lib.hid (by rw [HB.out, List.drop_eq_getElem_cons hlt, List.any_cons, hh, Bool.true_or])
            clear hh HB
            go_wp2_with fail
            go_ret
            exact ⟨by rw [HB2.out]; rfl, rfl⟩
          · have qB : (l[k].2.2.1 == a) = false := by simpa using kB
            by_cases kC : l[k].2.2.2.1 = a
            · rw [k1] at f0
              rw [kC] at f3
              have hh : S.hitB l[k] a = true := by simp [S.hitB, k1, kC]
              have HB2 : Hid (S.begunB l a = true) := Lib.hid (by rw [HB.out, List.drop_eq_getElem_cons hlt, List.any_cons, hh, Bool.true_or])
              clear hh HB
              go_wp2_with fail
              go_ret
              exact ⟨by rw [HB2.out]; rfl, rfl⟩
            · have qC : (l[k].2.2.2.1 == a) = false := by simpa using kC
              rw [k1] at f0
              have hh : S.hitB l[k] a = false := by simp [S.hitB, k1, kB, kC]
              have HB2 : Hid (S.begunB l a = (l.drop (k + 1)).any (fun f => S.hitB f a)) := Lib.hid (by rw [HB.out, List.drop_eq_getElem_cons hlt, List.any_cons, hh, Bool.false_or])
              clear hh HB
              go_wp2_with fail
              go_roundg (gk - 1)
              case measure => have := HK.out; omega
              case rel => exact ⟨k + 1, by have := HK.out; omega, by go_num, rfl, HB2⟩
        · have q1 : (l[k].1 == 1) = false := by simpa using k1
          by_cases k3 : l[k].1 = 3
          · by_cases kD : l[k].2.2.2.2 = a
            · rw [k3] at f0
              rw [kD] at f4
              have hh : S.hitB l[k] a = true := by simp [S.hitB, k3, kD]
              have HB2 : Hid (S.begunB l a = true) := Lib.hid (by rw [HB.out, List.drop_eq_getElem_cons hlt, List.any_cons, hh, Bool.true_or])
              clear hh HB
              go_wp2_with fail
              go_ret
              exact ⟨by rw [HB2.out]; rfl, rfl⟩
            · have qD : (l[k].2.2.2.2 == a) = false := by simpa using kD
              have hh0 := f0
              rw [k3] at f0
              clear hh0
              have hh : S.hitB l[k] a = false := by simp [S.hitB, k3, kD]
              have HB2 : Hid (S.begunB l a = (l.drop (k + 1)).any (fun f => S.hitB f a)) := Lib.hid (by rw [HB.out, List.drop_eq_getElem_cons hlt, List.any_cons, hh, Bool.false_or])
              clear hh HB
              go_wp2_with fail
              go_roundg (gk - 1)
              case measure => have := HK.out; omega
              case rel => exact ⟨k + 1, by have := HK.out; omega, by go_num, rfl, HB2⟩
          · have q3 : (l[k].1 == 3) = false := by simpa using k3
            have hh : S.hitB l[k] a = false := by simp [S.hitB, k1, k3]
            have HB2 : Hid (S.begunB l a = (l.drop (k + 1)).any (fun f => S.hitB f a)) := Lib.hid (by rw [HB.out, List.drop_eq_getElem_cons hlt, List.any_cons, hh, Bool.false_or])
            clear hh HB
            go_wp2_with fail
            go_roundg (gk - 1)
            case measure => have := HK.out; omega
            case rel => exact ⟨k + 1, by have := HK.out; omega, by go_num, rfl, HB2⟩
      · obtain rfl : gk = 0 := by omega
        clear hk
        have e1 : l.drop k = [] := List.drop_of_length_le (by omega)
        have HB2 : Hid (S.begunB l a = false) := Lib.hid (by rw [HB.out, e1]; rfl)
        clear HB e1
        go_wp2
        go_ret
        exact ⟨by rw [HB2.out]; rfl, rfl⟩
end Go.Proofs.Ytahhihhfjimppaa
