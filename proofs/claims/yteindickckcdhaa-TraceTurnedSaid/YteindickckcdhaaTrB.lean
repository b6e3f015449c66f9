/- walks: laid, Bytes -/
import Derived.Test.YteindickckcdhaaTrA
namespace Go.Proofs.Yteindickckcdhaa
open Go.RowKit
set_option linter.unusedSimpArgs false
set_option linter.unusedVariables false
set_option maxRecDepth 100000

theorem ecs_cons (x : T.Ev) (l : List T.Ev) : ecs (x :: l) = ec x ++ ecs l := rfl
theorem ecs_append (l m : List T.Ev) : ecs (l ++ m) = ecs l ++ ecs m := by simp [ecs]
theorem ecs_length (l : List T.Ev) : (ecs l).length = l.length * 8 := by
  induction l with
  | nil => rfl
  | cons x l ih => rw [ecs_cons, List.length_append, ih]; simp [ec]; omega
theorem ecs_at (l : List T.Ev) (k : Nat) (h : k < l.length) (j : Nat) (hj : j < 8) : (ecs l)[k * 8 + j]? = (ec l[k])[j]? := by
  induction l generalizing k with
  | nil => simp at h
  | cons x l ih =>
    rw [ecs_cons]
    have he : (ec x).length = 8 := rfl
    cases k with
    | zero => rw [List.getElem?_append_left (by omega)]; simp
    | succ k =>
      rw [List.getElem?_append_right (by omega), he, show (k + 1) * 8 + j - 8 = k * 8 + j by omega, ih k (by simpa using h)]
      simp
/-- the eight cells of an event -/
theorem Rd.ev {w : World} {B : Nat} {A : Option Addr} {l : List T.Ev} (h : Rd w B A (ecs l)) {k : Nat} (hk : k < l.length) : ∃ b off, A = some ⟨b, off, none⟩ ∧ b < B ∧
    w.cell? ⟨b, off + k * 8, none⟩ = some (.int .i64 l[k].1) ∧ w.cell? ⟨b, off + k * 8 + 1, none⟩ = some (.int .i64 l[k].2.1) ∧ w.cell? ⟨b, off + k * 8 + 2, none⟩ = some (.int .i64 l[k].2.2.1) ∧
    w.cell? ⟨b, off + k * 8 + 3, none⟩ = some (.int .i64 l[k].2.2.2.1) ∧ w.cell? ⟨b, off + k * 8 + 4, none⟩ = some (.int .i64 l[k].2.2.2.2.1) ∧ w.cell? ⟨b, off + k * 8 + 5, none⟩ = some (.int .i64 l[k].2.2.2.2.2.1) ∧
    w.cell? ⟨b, off + k * 8 + 6, none⟩ = some (.int .i64 l[k].2.2.2.2.2.2.1) ∧ w.cell? ⟨b, off + k * 8 + 7, none⟩ = some (.bool l[k].2.2.2.2.2.2.2) := by
  have hp := fun j hj => ecs_at l k hk j hj
  rcases h with h | ⟨b, off, rfl, hb, hc⟩
  · have := ecs_length l; rw [h] at this; simp at this; omega
  · refine ⟨b, off, rfl, hb, hc _ _ (hp 0 (by omega)), ?_, ?_, ?_, ?_, ?_, ?_, ?_⟩
    all_goals rw [Nat.add_assoc]
    · exact hc _ _ (hp 1 (by omega))
    · exact hc _ _ (hp 2 (by omega))
    · exact hc _ _ (hp 3 (by omega))
    · exact hc _ _ (hp 4 (by omega))
    · exact hc _ _ (hp 5 (by omega))
    · exact hc _ _ (hp 6 (by omega))
    · exact hc _ _ (hp 7 (by omega))
theorem info_i : (Try.prog.info? 3).map (fun i => (i.zero, i.size, i.bytes)) = some (some (.int .i64 0), 1, 8) := by kernel_rfl

theorem own_below {w w' : World} {base : Nat} {e : TypeId} {size : Nat} {v : Value} {n : Nat} {xs : List Value} (h : w.ownsRow base e size v n xs) (hb : Below w.heap.size w w') : w'.ownsRow base e size v n xs := by
  refine ⟨h.1, h.2.imp id ?_⟩
  rintro ⟨g, cap, cur, hv, hbg, hg, rest⟩
  exact ⟨g, cap, cur, hv, hbg, (hb.block g (Array.getElem?_eq_some_iff.1 hg).1).trans hg, rest⟩
/-- a row of numbers, made by the call -/
def MadeI (w : World) (news : List Int) (e : Ending) (w' : World) : Prop :=
  ∃ A c, e = .returned (.slice A news.length c) ∧ w'.ownsRow w.heap.size 3 1 (.slice A news.length c) news.length (is news) ∧ Below w.heap.size w w' ∧ news.length ≤ c ∧ c ≤ 9223372036854775807

theorem laid_any (l : List T.Ev) (A : Option Addr) (c : Nat) (w : World) (hr : Rd w w.heap.size A (ecs l)) (hl : l.length ≤ 1000) :
    Calls Try.prog 25 #[.slice A l.length c, .func (.func 26) #[] #[]] w (MadeI w (T.nums l)) := by
  obtain ⟨i0, hi, hz0, hz1, hz2⟩ := info_parts info_i
  go_enter Try.func25, Try.ntmps25
  go_wp2
  go_loopg [5, 11] l.length (fun gk vv ii wr => ∃ k : Nat, k + gk = l.length ∧ ii = .int .i64 k ∧ wr.ownsRow w.heap.size 3 1 vv (k * 8) (is (T.nums (l.take k))) ∧ Below w.heap.size w wr)
  case atStart => exact ⟨0, by omega, rfl, World.ownsRow_nil _ _ _ _, Below.refl _ _⟩
  case round =>
    obtain ⟨k, hk, rfl, ho, hb⟩ := hrel
    have HK := Lib.hid hk
    by_cases hlt : k < l.length
    · clear hk
      have hltI : (k : Int) < (l.length : Int) := by omega
      have hs := hb.size
      have hrw := hr.below hb
      obtain ⟨bA, oA, rfl, hbA, f0, f1, f2, f3, f4, f5, f6, f7⟩ := hrw.ev hlt
      have HT : Hid (T.nums (l.take (k + 1)) = T.nums (l.take k) ++ T.row l[k]) := Lib.hid (by rw [List.take_succ_eq_append_getElem hlt]; unfold T.nums; rw [List.flatMap_append, List.flatMap_cons, List.flatMap_nil, List.append_nil])
      clear hrw
      generalize l[k] = xx at *
      obtain ⟨x0, x1, x2, x3, x4, x5, x6, x7⟩ := xx
      simp only at f0 f1 f2 f3 f4 f5 f6 f7
      go_wp2_with (go_at_call 26; refine (numbers_any _ _ _ _ _ _ _ _ _).mono ?_)
      rintro e w2 ⟨rfl, b2⟩
      have ho2 := own_below (ho.alloc (.cells #[.int .i64 x0, .int .i64 x1, .int .i64 x2, .int .i64 x3, .int .i64 x4, .int .i64 x5, .int .i64 x6, .bool x7] 48)) b2
      have hb2 : Below w.heap.size w w2 := (hb.alloc hs _).trans (b2.mono (by simp; omega))
      clear ho hb b2 f0 f1 f2 f3 f4 f5 f6 f7
      have hs2 := hb2.size
      go_wp2_with (at_builtin; refine wpList_append_own_at _ rfl (.tmp 18) (.tmp 19) 50 rfl w.heap.size 3 i0 _ 1 8 Try.underlying50 hi hz0 hz1 hz2 rfl (by omega) _ _ _ rfl (ho2.alloc _) ⟨w2.heap.size, 0, none⟩ 8 8 (is (T.row (x0, x1, x2, x3, x4, x5, x6, x7))) rfl rfl ?c1 ?c2 ?c3 ?c4 ?c5 ?_)
      case c1 => exact World.news_of_block (cs := #[.int .i64 x0, .int .i64 x1, .int .i64 x2, .int .i64 x3, .int .i64 x4, .int .i64 x5, .int .i64 x6, .int .i64 (T.oki x7)]) (heap_alloc_new _ _)
      case c2 => exact is_one _
      case c3 => simp only [maxLen]; omega
      case c4 => omega
      case c5 => first | omega | (simp; omega)
      intro v3 w3 ho3 hg3 _ _
      have hb3 : Below w.heap.size w w3 := (hb2.alloc hs2 _).grown hg3 (by simp; omega) fun k hk => (ho2.lt k hk).1
      rw [← is_append, ← HT.out] at ho3
      clear ho2 hb2 hg3
      go_wp2_with fail
      go_roundg (gk - 1)
      case measure => have := HK.out; omega
      case rel => exact ⟨k + 1, by have := HK.out; omega, by go_num, by rw [show (k + 1) * 8 = k * 8 + 8 by omega]; exact ho3, hb3⟩
    · obtain rfl : gk = 0 := by omega
      clear hk
      go_wp2
      go_ret
      have e1 : l.take k = l := List.take_of_length_le (by omega)
      rw [e1] at ho
      have hk8 : k * 8 = (T.nums l).length := by rw [T.nums_length]; have := HK.out; omega
      rw [hk8] at ho
      obtain ⟨A', c', hv, hc1, hc2⟩ := own_form ho
      subst hv
      exact ⟨A', c', rfl, ho, hb, hc1, hc2⟩
theorem bytes_any (l : List T.Ev) (A : Option Addr) (c : Nat) (w : World) (hr : Rd w w.heap.size A (ecs l)) (hl : l.length ≤ 1000) (hf : ∀ x ∈ l, T.fits x) :
    Calls Try.prog 9 #[.slice A l.length c] w (Made w (T.bytes l)) := by
  have hfit := T.nums_fit hf
  have hnl := T.nums_length l
  have hlen := T.bytes_len hf hl
  have HF := Lib.hid hfit
  have HNL := Lib.hid hnl
  have HL2 := Lib.hid hlen
  clear hfit hnl hlen
  go_enter Try.func9, Try.ntmps9
  go_wp2_with fail
  refine (laid_any l A c w hr hl).mono ?_
  rintro e w1 ⟨A1, c1, rfl, ho1, hb1, _, _⟩
  go_wp2_with fail
  refine (nums_any _ _ (T.nums l) _ (Rd.of_own ho1) HF.out (by have := HNL.out; omega)).mono ?_
  rintro e w2 ⟨A2, c2, rfl, ho2, hb2, _, _⟩
  go_wp2_with fail
  refine (seal_any _ _ (W.nums (T.nums l)) _ (Rd.of_own ho2) (W.nums_byt _) (by have := HL2.out; omega)).mono ?_
  rintro e w3 ⟨A3, c3, rfl, ho3, hb3, h1, h2⟩
  go_wp2_with fail
  go_ret
  have hs1 := hb1.size
  have hs2 := hb2.size
  refine ⟨A3, c3, rfl, ?_, hb1.trans ((hb2.mono hs1).trans (hb3.mono (Nat.le_trans hs1 hs2))), h1, h2⟩
  refine ⟨ho3.1, ?_⟩
  rcases ho3.2 with h | ⟨g, cap, cur, hv, hbg, hg⟩
  · exact .inl h
  · exact .inr ⟨g, cap, cur, hv, by omega, hg⟩
end Go.Proofs.Yteindickckcdhaa
