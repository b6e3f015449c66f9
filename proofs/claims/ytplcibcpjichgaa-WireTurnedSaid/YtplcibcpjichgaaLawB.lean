/- walks of the laws WireBack, WireTexts, WireRows, WireTwo, WireGets, WireSums -/
import Derived.Test.YtplcibcpjichgaaLawA
import Derived.Test.YtplcibcpjichgaaWireDef4
namespace Go.Proofs.Ytplcibcpjichgaa
open Go.RowKit
set_option linter.unusedSimpArgs false
set_option linter.unusedVariables false
set_option maxRecDepth 100000

theorem back_walk (n : Int) (A : Option Addr) (c : Nat) (l : List Nat) (w : World) (h1 : -9223372036854775808 ≤ n) (h2 : n ≤ 9223372036854775807) (h : Rd w w.heap.size A (bs l)) (hB : Byt l) (hc : l.length ≤ c) (hc2 : c ≤ 9223372036854775807) :
    Calls Try.prog 5 #[.int .i64 n, .slice A l.length c] w (Holds w) := by
  by_cases hl : 1000 < l.length
  · go_enter Try.func5, Try.ntmps5
    go_wp2_with fail
    refine (alive_any _).mono ?_
    rintro e w1 ⟨rfl, hb1⟩
    go_wp2_with fail
    go_ret
    exact ⟨rfl, hb1⟩
  · obtain ⟨p1, p2⟩ := put_le h1 h2
    obtain ⟨i0, hi, hz0, hz1, hz2⟩ := info_parts info_u8
    go_enter Try.func5, Try.ntmps5
    go_wp2_with fail
    refine (put_any n w h1 h2).mono ?_
    rintro e w1 ⟨A1, c1, rfl, ho1, hb1, hc1, hc1'⟩
    have r1 := Rd.of_own ho1
    clear ho1
    have hl1 := h.on hb1
    obtain ⟨hX, _⟩ := cut_hm (P := Try.prog) Try.underlying24 hi hz1 r1 (W.put n).length c1 (W.put n).length (W.put n).length (W.put n).length rfl rfl hc1
    go_wp2_with (at_builtin; refine wpList_appfull _ rfl (.tmp 21) (.tmp 22) 24 24 rfl 5 i0 _ 1 Try.underlying24 hi hz0 hz1 hz2 rfl _ A1 _ (bs (W.put n)) rfl (bs_length _).symm r1 (.slice A l.length c) l.length (bs l) rfl (src_rd _ Try.underlying24 (bs_length _).symm hl1 (bs_one _)) ?c1 ?c2 ?_)
    case c1 => simp only [maxLen]; omega
    case c2 => omega
    intro A2 c2 w2 r2 hb2 hc2' hc2''
    rw [← bs_append] at r2
    clear hX
    have hg := W.get_put n l h1 h2
    go_wp2_with fail
    refine (wget_yes' hg (by simp) r2 ((put_byt n).append hB) (by simp; omega)).mono ?_
    rintro e w3 ⟨rfl, rfl⟩
    clear hg
    go_wp2_with fail
    refine (alive_any _).mono ?_
    rintro e w3 ⟨rfl, hb3⟩
    have q1 : ((W.put n).length : Int) ≤ 10 := by omega
    have q2 : (1 : Int) ≤ ((W.put n).length : Int) := by omega
    go_wp2_with fail
    go_ret
    exact ⟨rfl, bel_trans (bel_trans hb1 hb1.size hb2) (Nat.le_trans hb1.size hb2.size) hb3⟩

theorem str_nat (s : ByteArray) : str (s.data.toList.map UInt8.toNat) = s := by
  unfold str strOfNums
  cases s with
  | mk d =>
    congr 1
    apply Array.ext'
    simp [List.map_map, Function.comp_def]

theorem gettext_no' {A : Option Addr} {c m : Nat} {xs : List Nat} {w : World} (hm : m = xs.length) (hg : W.len xs = none) (h : Rd w w.heap.size A (bs xs)) (hB : Byt xs) (hl : xs.length ≤ 9223372036854775807) :
    Calls Try.prog 20 #[.slice A m c] w fun e w' => e = .returned (.tuple #[.string ⟨#[]⟩, .int .i64 0, .int .i64 3]) ∧ w = w' := by
  subst hm; exact gettext_no hg h hB hl

theorem texts_walk (s : ByteArray) (A : Option Addr) (c : Nat) (l : List Nat) (w : World) (hs0 : s.size ≤ 9223372036854775807) (h : Rd w w.heap.size A (bs l)) (hB : Byt l) (hc : l.length ≤ c) (hc2 : c ≤ 9223372036854775807) :
    Calls Try.prog 7 #[.string s, .slice A l.length c] w (Holds w) := by
  by_cases hs : 1000 < s.size
  · go_enter Try.func7, Try.ntmps7
    go_wp2_with fail
    refine (alive_any _).mono ?_
    rintro e w1 ⟨rfl, hb1⟩
    go_wp2_with fail
    go_ret
    exact ⟨rfl, hb1⟩
  by_cases hl : 1000 < l.length
  · go_enter Try.func7, Try.ntmps7
    go_wp2_with fail
    refine (alive_any _).mono ?_
    rintro e w1 ⟨rfl, hb1⟩
    go_wp2_with fail
    go_ret
    exact ⟨rfl, hb1⟩
  obtain ⟨p1, p2⟩ := put_le (n := (s.size : Int)) (by omega) (by omega)
  obtain ⟨i0, hi, hz0, hz1, hz2⟩ := info_parts info_u8
  have hsz : (s.data.toList.map UInt8.toNat).length = s.size := by simp
  have hsB : Byt (s.data.toList.map UInt8.toNat) := by
    intro x hx
    obtain ⟨y, _, rfl⟩ := List.mem_map.1 hx
    exact y.toNat_lt
  have C1 := text_any s w (by omega)
  have C2 : ∀ w', Calls Try.prog 26 #[.string s] w' (Made w' (W.put s.size ++ s.data.toList.map UInt8.toNat)) := fun w' => rtext_any s w' (by omega)
  have hstr := str_nat s
  rw [← hsz] at C1 C2 p1 p2
  generalize s.data.toList.map UInt8.toNat = t at hsz hsB C1 C2 hstr p1 p2
  have htl : t.length ≤ 1000 := by omega
  have hlen1 := W.len_put t l (by omega)
  have hlen0 := W.len_put t [] (by omega)
  rw [List.append_nil] at hlen0
  have hbB : Byt (W.put t.length ++ t) := (put_byt _).append hsB
  have hno := W.len_take_none hbB hlen0 (j := (W.put t.length ++ t).length - 1) (by simp; omega)
  have hcut : ((W.put t.length ++ (t ++ l)).drop (W.put t.length).length).take t.length = t := by simp
  have HSTR := Lib.hid hstr
  have HCUT := Lib.hid hcut
  have HSZ := Lib.hid hsz
  have HN := Lib.hid hno
  have HL1 := Lib.hid hlen1
  have hbl : (W.put t.length ++ t).length = (W.put t.length).length + t.length := by simp
  have HBL := Lib.hid hbl
  have c0 : 1 ≤ (W.put t.length ++ t).length := by omega
  have c3 : (W.put t.length ++ t).length ≤ 1010 := by omega
  clear hlen1 hlen0 hno hcut hstr hsz hbl
  rw [← List.append_assoc] at HL1 HCUT
  generalize hbb : W.put t.length ++ t = b at C1 C2 HN HL1 HCUT HBL c0 c3 hbB
  clear hbb
  have HC1 := Lib.hid C1
  have HC2 := Lib.hid C2
  clear C1 C2
  go_enter Try.func7, Try.ntmps7
  go_wp2_with fail
  refine HC1.out.mono ?_
  rintro e w1 ⟨A1, c1, rfl, ho1, hb1, hc1, hc1'⟩
  have r1 := Rd.of_own ho1
  clear ho1 HC1
  have hl1 := h.on hb1
  obtain ⟨hX, _⟩ := cut_hm (P := Try.prog) Try.underlying24 hi hz1 r1 b.length c1 b.length b.length b.length rfl rfl hc1
  go_wp2_with (at_builtin; refine wpList_appfull _ rfl (.tmp 29) (.tmp 30) 24 24 rfl 5 i0 _ 1 Try.underlying24 hi hz0 hz1 hz2 rfl _ A1 _ (bs b) rfl (bs_length _).symm r1 (.slice A l.length c) l.length (bs l) rfl (src_rd _ Try.underlying24 (bs_length _).symm hl1 (bs_one _)) ?c1 ?c2 ?_)
  case c1 => simp only [maxLen]; omega
  case c2 => omega
  intro A2 c2 w2 r2 hb2 hc2' hc2''
  rw [← bs_append] at r2
  clear hX
  go_wp2_with fail
  have C := gettext_yes (c := c2) HL1.out r2 (hbB.append hB) (by simp; omega) (by simp; omega) hc2''
  rw [HCUT.out, HSTR.out, ← HBL.out, List.length_append] at C
  refine C.mono ?_
  clear C
  rintro e w3 ⟨rfl, rfl⟩
  have r1' := r1.on hb2
  obtain ⟨hX, hRX⟩ := cut_h (P := Try.prog) Try.underlying24 hi hz1 r1' b.length c1 (b.length - 1) ((b.length : Int) - 1) (by omega) (by omega)
  rw [← bs_take] at hRX
  go_wp2_with fail
  all_goals
    refine (gettext_no' (by simp <;> omega) HN.out hRX (hbB.take _) (by simp; omega)).mono ?_
    rintro e w3 ⟨rfl, rfl⟩
    clear hX hRX
    go_wp2_with fail
    refine (alive_any _).mono ?_
    rintro e w3 ⟨rfl, hb3⟩
    go_wp2_with fail
    refine (HC2.out _).mono ?_
    rintro e w4 ⟨A4, c4, rfl, ho4, hb4, _, _⟩
    have r4 := Rd.of_own ho4
    clear ho4 HC2
    go_wp2_with fail
    refine (same_any' true (by simp) rfl rfl ((r1'.on hb3).on hb4) r4 (by omega) (by omega)).mono ?_
    rintro e w5 ⟨rfl, k, rfl⟩
    go_wp2_with fail
    go_ret
    have hx := bel_trans (bel_trans hb1 hb1.size hb2) (Nat.le_trans hb1.size hb2.size) hb3
    exact ⟨rfl, below_drewN (bel_trans hx hx.size hb4) _⟩
end Go.Proofs.Ytplcibcpjichgaa
