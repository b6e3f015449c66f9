/- walks: the document's behind and place -/
import Derived.Test.YtahhihhfjimppaaSpG
import Derived.Test.YtahhihhfjimppaaSpOrd
namespace Go.Proofs.Ytahhihhfjimppaa
open Go.RowKit
set_option linter.unusedSimpArgs false
set_option linter.unusedVariables false
set_option maxRecDepth 100000

/-- a list with a strand more, behind each x that it has -/
def S.beh (l : List Nat) (x s : Nat) : List Nat := l.flatMap fun y => if y = x then [y, s] else [y]
theorem S.beh_cons (y : Nat) (l : List Nat) (x s : Nat) : S.beh (y :: l) x s = (if y = x then [y, s] else [y]) ++ S.beh l x s := rfl
theorem S.beh_none {l : List Nat} {x s : Nat} (h : x ∉ l) : S.beh l x s = l := by
  induction l with
  | nil => rfl
  | cons y l ih =>
    simp only [List.mem_cons, not_or] at h
    rw [S.beh_cons, if_neg (fun e => h.1 e.symm), ih h.2]; rfl
theorem S.beh_ins {l : List Nat} {x s : Nat} (hn : l.Nodup) (h : x ∈ l) : S.beh l x s = S.ins l x s := by
  induction l with
  | nil => simp at h
  | cons y l ih =>
    have hn' := List.nodup_cons.1 hn
    rw [S.beh_cons, S.ins]
    by_cases hy : y = x
    · subst hy
      rw [if_pos rfl, if_pos rfl, S.beh_none hn'.1]; rfl
    · rw [if_neg hy, if_neg hy]
      have : x ∈ l := by rcases List.mem_cons.1 h with h1 | h1; exact absurd h1.symm hy; exact h1
      rw [ih hn'.2 this]; rfl
theorem S.beh_snoc (l : List Nat) (y x s : Nat) : S.beh (l ++ [y]) x s = S.beh l x s ++ (if y = x then [y, s] else [y]) := by simp [S.beh]
theorem S.beh_length_le (l : List Nat) (x s : Nat) : l.length ≤ (S.beh l x s).length ∧ (S.beh l x s).length ≤ 2 * l.length := by
  induction l with
  | nil => simp [S.beh]
  | cons y l ih =>
    rw [S.beh_cons]
    split <;> simp <;> omega
/-- a row of numbers, made by the call -/
def MadeN (w : World) (news : List Nat) (e : Ending) (w' : World) : Prop :=
  ∃ A c, e = .returned (.slice A news.length c) ∧ Rd w' w'.heap.size A (ns news) ∧ Below w.heap.size w w'

theorem behind_any (l : List Nat) (A : Option Addr) (c x s : Nat) (w : World) (hr : Rd w w.heap.size A (ns l)) (hl : l.length ≤ 1000) (hx : x ≤ 1000) (hs : s ≤ 1000) :
    Calls Try.prog 18 #[.slice A l.length c, .int .i64 x, .int .i64 s] w (MadeN w (S.beh l x s)) := by
  obtain ⟨i0, hi, hz0, hz1, hz2⟩ := info_parts info_int
  go_enter Try.func18, Try.ntmps18
  go_wp2
  go_loopg [7, 8] l.length (fun gk vv ii wr => ∃ k m : Nat, k + gk = l.length ∧ m = (S.beh (l.take k) x s).length ∧ ii = .int .i64 k ∧ wr.ownsRow w.heap.size 3 1 vv m (ns (S.beh (l.take k) x s)) ∧ Below w.heap.size w wr)
  case atStart => exact ⟨0, 0, by omega, rfl, rfl, World.ownsRow_nil _ _ _ _, Below.refl _ _⟩
  case round =>
    obtain ⟨k, m, hk, hm, rfl, ho, hb⟩ := hrel
    have HK := Lib.hid hk
    have hm9 : m ≤ 3000 := by have h1 := S.beh_length_le (l.take k) x s; rw [List.length_take] at h1; omega
    have HM := Lib.hid hm
    clear hm
    by_cases hlt : k < l.length
    · clear hk
      have hltI : (k : Int) < (l.length : Int) := by omega
      have hsz := hb.size
      obtain ⟨bA, oA, rfl, hbA, f⟩ := hr.at_ (ns_at l k hlt)
      have f0 := (hb.cell (p := ⟨bA, oA + k, none⟩) hbA).trans f
      have hbA2 : bA < wr.heap.size := by omega
      have HT : Hid (S.beh (l.take (k + 1)) x s = S.beh (l.take k) x s ++ (if l[k] = x then [l[k], s] else [l[k]])) := Lib.hid (by rw [List.take_succ_eq_append_getElem hlt, S.beh_snoc])
      generalize l[k] = y at *
      go_wp2_with (at_builtin; refine wpList_append_own_at _ rfl (.tmp 15) (.tmp 20) 23 rfl w.heap.size 3 i0 _ 1 8 Try.underlying23 hi hz0 hz1 hz2 rfl (by omega) _ _ _ rfl (ho.alloc _) ⟨wr.heap.size, 0, none⟩ 1 1 [.int .i64 (y : Int)] rfl rfl ?c1 ?c2 ?c3 ?c4 ?c5 ?_)
      case c1 => exact World.news_of_block (cs := #[.int .i64 (y : Int)]) (heap_alloc_new _ _)
      case c2 => simp [Value.oneCell']
      case c3 => simp only [maxLen]; omega
      case c4 => omega
      case c5 => first | omega | (simp; omega)
      intro v3 w3 ho3 hg3 _ _
      have hb3 : Below w.heap.size w w3 := (hb.alloc hsz _).grown hg3 (by simp; omega) fun k hk => (ho.lt k hk).1
      have f3 := (hb3.cell (p := ⟨bA, oA + k, none⟩) hbA).trans f
      have hs3 := hb3.size
      have hbA3 : bA < w3.heap.size := by omega
      clear ho hb hg3 f0
      by_cases hyx : y = x
      · subst hyx
        have e1 : ns (S.beh (l.take (k + 1)) y s) = ns (S.beh (l.take k) y s) ++ [.int .i64 (y : Int), .int .i64 (s : Int)] := by rw [HT.out, if_pos rfl, ns_append]; rfl
        have HE := Lib.hid e1
        have HLN : Hid (m + 1 + 1 = (S.beh (l.take (k + 1)) y s).length) := Lib.hid (by rw [HT.out, if_pos rfl, List.length_append, ← HM.out]; rfl)
        clear e1 HT
        go_wp2_with (at_builtin; refine wpList_append_own_at _ rfl (.tmp 28) (.tmp 30) 23 rfl w.heap.size 3 i0 _ 1 8 Try.underlying23 hi hz0 hz1 hz2 rfl (by omega) _ _ _ rfl (ho3.alloc _) ⟨w3.heap.size, 0, none⟩ 1 1 [.int .i64 (s : Int)] rfl rfl ?d1 ?d2 ?d3 ?d4 ?d5 ?_)
        case d1 => exact World.news_of_block (cs := #[.int .i64 (s : Int)]) (heap_alloc_new _ _)
        case d2 => simp [Value.oneCell']
        case d3 => simp only [maxLen]; omega
        case d4 => omega
        case d5 => first | omega | (simp; omega)
        intro v4 w4 ho4 hg4 _ _
        have hb4 : Below w.heap.size w w4 := (hb3.alloc hs3 _).grown hg4 (by simp; omega) fun k hk => (ho3.lt k hk).1
        first | rw [← HE.out] at ho4 | (rw [List.append_assoc] at ho4; rw [show [Value.int .i64 (y : Int)] ++ [Value.int .i64 (s : Int)] = [Value.int .i64 (y : Int), .int .i64 (s : Int)] from rfl, ← HE.out] at ho4)
        clear ho3 hb3 hg4 HE
        go_wp2_with fail
        go_roundg (gk - 1)
        case measure => have := HK.out; omega
        case rel => exact ⟨k + 1, m + 1 + 1, by have := HK.out; omega, HLN.out, by go_num, ho4, hb4⟩
      · have q1 : ((y : Int) == (x : Int)) = false := beq_false_of_ne (by omega)
        have e1 : ns (S.beh (l.take (k + 1)) x s) = ns (S.beh (l.take k) x s) ++ [.int .i64 (y : Int)] := by rw [HT.out, if_neg hyx, ns_append]; rfl
        have HLN : Hid (m + 1 = (S.beh (l.take (k + 1)) x s).length) := Lib.hid (by rw [HT.out, if_neg hyx, List.length_append, ← HM.out]; rfl)
        rw [← e1] at ho3
        clear e1 HT hyx
        go_wp2_with fail
        go_roundg (gk - 1)
        case measure => have := HK.out; omega
        case rel => exact ⟨k + 1, m + 1, by have := HK.out; omega, HLN.out, by go_num, ho3, hb3⟩
    · clear hk
      have e1 : l.take k = l := List.take_of_length_le (by omega)
      have hm := HM.out
      rw [e1] at ho hm
      subst hm
      obtain ⟨A', c', hv, _, _⟩ := own_form ho
      subst hv
      have r1 := Rd.of_own ho
      clear e1 HM
      go_wp2
      go_ret
      exact ⟨A', c', rfl, r1, hb⟩

theorem S.idx_first : ∀ (l : List Nat) (s k : Nat) (hk : k < l.length), k < l.idxOf s → l[k] ≠ s := by
  intro l
  induction l with
  | nil => intro s k hk; simp at hk
  | cons y l ih =>
    intro s k hk h e
    rw [List.idxOf_cons] at h
    by_cases hy : y = s
    · have : (y == s) = true := by simpa using hy
      rw [this] at h
      simp at h
    · have : (y == s) = false := by simpa using hy
      rw [this, cond_false] at h
      cases k with
      | zero => exact hy (by simpa using e)
      | succ k => exact ih s k (by simpa using hk) (by omega) (by simpa using e)
/-- where a strand stands; below 0: it does not -/
def S.plc (l : List Nat) (s : Nat) : Int := if s ∈ l then (l.idxOf s : Int) else -1
theorem place_any (l : List Nat) (A : Option Addr) (c s : Nat) (w : World) (hr : Rd w w.heap.size A (ns l)) (hl : l.length ≤ 1000) :
    Calls Try.prog 19 #[.slice A l.length c, .int .i64 s] w (fun e w' => e = .returned (.int .i64 (S.plc l s)) ∧ w = w') := by
  go_enter Try.func19, Try.ntmps19
  go_wp2
  go_loopg [5] l.length (fun gk ii wr => ∃ k : Nat, k + gk = l.length ∧ ii = .int .i64 k ∧ wr = w ∧ Hid (∀ j (hj : j < l.length), j < k → l[j] ≠ s))
  case atStart => exact ⟨0, by omega, rfl, rfl, Lib.hid (fun j hj h => by omega)⟩
  case round =>
    obtain ⟨k, hk, rfl, hw, HN⟩ := hrel
    subst hw
    have HK := Lib.hid hk
    by_cases hlt : k < l.length
    · clear hk
      have hltI : (k : Int) < (l.length : Int) := by omega
      obtain ⟨bA, oA, rfl, hbA, f⟩ := hr.at_ (ns_at l k hlt)
      by_cases hs : l[k] = s
      · have HR : Hid (S.plc l s = (k : Int)) := Lib.hid (by
          have hm : s ∈ l := hs ▸ List.getElem_mem hlt
          have hi := S.idx_lt hm
          have hx : l[l.idxOf s]'hi = s := List.getElem_idxOf hi
          unfold S.plc
          rw [if_pos hm]
          have h1 : ¬ l.idxOf s < k := fun h => HN.out _ hi h hx
          have h2 : ¬ k < l.idxOf s := fun h => S.idx_first l s k hlt h hs
          omega)
        rw [hs] at f
        go_wp2
        go_ret
        exact ⟨by rw [HR.out]; rfl, rfl⟩
      · have q1 : ((l[k] : Int) == (s : Int)) = false := beq_false_of_ne (by omega)
        have HN2 : Hid (∀ j (hj : j < l.length), j < k + 1 → l[j] ≠ s) := Lib.hid (fun j hj h => by
          by_cases e : j = k
          · subst e; exact hs
          · exact HN.out j hj (by omega))
        clear hs HN
        go_wp2
        go_roundg (gk - 1)
        case measure => have := HK.out; omega
        case rel => exact ⟨k + 1, by have := HK.out; omega, by go_num, rfl, HN2⟩
    · have HR : Hid (S.plc l s = -1) := Lib.hid (by
        unfold S.plc
        rw [if_neg]
        intro hm
        obtain ⟨j, hj, he⟩ := List.getElem_of_mem hm
        exact HN.out j hj (by omega) he)
      clear hk HN
      go_wp2
      go_ret
      exact ⟨by rw [HR.out]; rfl, rfl⟩
end Go.Proofs.Ytahhihhfjimppaa
