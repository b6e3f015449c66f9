/- SpSerial walked -/
import Derived.Test.YtahhihhfjimppaaSpH
import Derived.Test.YtahhihhfjimppaaSpSer
namespace Go.Proofs.Ytahhihhfjimppaa
open Go.RowKit
set_option linter.unusedSimpArgs false
set_option linter.unusedVariables false
set_option maxRecDepth 100000

theorem serial_take {l : List S.Five} {k : Nat} (hk : k < l.length) : S.serial 0 (l.take (k + 1)) = S.atNext (S.serial 0 (l.take k)) l[k] := by
  unfold S.serial
  rw [List.take_succ_eq_append_getElem hk, List.foldl_append]
  rfl
/-- the two cells of a place -/
theorem Rd.pair {w : World} {B : Nat} {A : Option Addr} {P : List (Nat × Nat)} (h : Rd w B A (tcs P)) {k : Nat} (hk : k < P.length) : ∃ b off, A = some ⟨b, off, none⟩ ∧ b < B ∧ w.cell? ⟨b, off + k * 2, none⟩ = some (.int .i64 ((P[k].1 : Nat) : Int)) ∧ w.cell? ⟨b, off + k * 2 + 1, none⟩ = some (.int .i64 ((P[k].2 : Nat) : Int)) := by
  obtain ⟨p0, p1⟩ := tcs_at P k hk
  obtain ⟨b1, o1, rfl, hb1, c0⟩ := h.at_ p0
  obtain ⟨_, _, eA, _, c1⟩ := h.at_ p1
  injection eA with eA; injection eA with e1 e2; subst e1 e2
  rw [← Nat.add_assoc] at c1
  exact ⟨b1, o1, rfl, hb1, c0, c1⟩
theorem Rd.five {w : World} {B : Nat} {A : Option Addr} {l : List S.Five} (h : Rd w B A (fcs l)) {k : Nat} (hk : k < l.length) : ∃ b off, A = some ⟨b, off, none⟩ ∧ b < B ∧ w.cell? ⟨b, off + k * 5, none⟩ = some (.int .i64 l[k].1) ∧ w.cell? ⟨b, off + k * 5 + 1, none⟩ = some (.int .i64 l[k].2.1) ∧
    w.cell? ⟨b, off + k * 5 + 2, none⟩ = some (.int .i64 l[k].2.2.1) ∧ w.cell? ⟨b, off + k * 5 + 3, none⟩ = some (.int .i64 l[k].2.2.2.1) ∧ w.cell? ⟨b, off + k * 5 + 4, none⟩ = some (.int .i64 l[k].2.2.2.2) := by
  obtain ⟨p0, p1, p2, p3, p4⟩ := fcs_at l k hk
  obtain ⟨b1, o1, rfl, hb1, c0⟩ := h.at_ p0
  obtain ⟨_, _, eA, _, c1⟩ := h.at_ p1
  injection eA with eA; injection eA with e1 e2; subst e1 e2
  obtain ⟨_, _, eA, _, c2⟩ := h.at_ p2
  injection eA with eA; injection eA with e1 e2; subst e1 e2
  obtain ⟨_, _, eA, _, c3⟩ := h.at_ p3
  injection eA with eA; injection eA with e1 e2; subst e1 e2
  obtain ⟨_, _, eA, _, c4⟩ := h.at_ p4
  injection eA with eA; injection eA with e1 e2; subst e1 e2
  rw [← Nat.add_assoc] at c1 c2 c3 c4
  exact ⟨b1, o1, rfl, hb1, c0, c1, c2, c3, c4⟩

end Go.Proofs.Ytahhihhfjimppaa
