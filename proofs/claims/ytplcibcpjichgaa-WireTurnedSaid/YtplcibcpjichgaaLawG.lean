/- the walk of the law WireTurned -/
import Derived.Test.YtplcibcpjichgaaLawF
import Derived.Test.YtplcibcpjichgaaWireDef6
import Derived.Deep.AppendLies
namespace Go.Proofs.Ytplcibcpjichgaa
open Go.RowKit
set_option linter.unusedSimpArgs false
set_option linter.unusedVariables false
set_option maxRecDepth 100000

/-- the two boxes of the law -/
structure Two (w : World) (v1 v2 : Value) (wr : World) : Prop where
  one : wr.cell? ⟨w.heap.size, 0, none⟩ = some v1
  two : wr.cell? ⟨w.heap.size + 1, 0, none⟩ = some v2
  below : Below w.heap.size w wr
  size : w.heap.size + 2 ≤ wr.heap.size
theorem Two.step {w wr w' : World} {v1 v2 : Value} (h : Two w v1 v2 wr) (hb : Below wr.heap.size wr w') : Two w v1 v2 w' := by
  have := h.size
  exact ⟨(hb.cell (p := ⟨w.heap.size, 0, none⟩) (by simp; omega)).trans h.one, (hb.cell (p := ⟨w.heap.size + 1, 0, none⟩) (by simp; omega)).trans h.two, bel_trans h.below h.below.size hb, by have := hb.size; omega⟩
theorem Two.start (w : World) (v1 v2 : Value) (t : TypeId) : Two w v1 v2 ((w.alloc (.cells #[v1] t)).alloc (.cells #[v2] t)) := by
  refine ⟨?_, ?_, ((Below.refl _ _).alloc (Nat.le_refl _) _).alloc (by simp) _, by simp⟩
  · rw [World.cell?_alloc_lt _ _ _ (by simp)]; simp [go_sem]
  · have := cell_one_new (w.alloc (.cells #[v1] t)) v2 t 0 _ rfl
    simp only [Addr.add_lit, Nat.zero_add, World.size_alloc] at this
    exact this
theorem bs_set (l : List Nat) (k y : Nat) : (bs l).set k (.int .u8 (y : Int)) = bs (l.set k y) := by simp [bs, List.map_set]

theorem lit_rd' (w : World) (t : TypeId) (l : List Value) {g : Nat} (hg : g = w.heap.size) : Rd (w.alloc (.cells l.toArray t)) (w.alloc (.cells l.toArray t)).heap.size (some ⟨g, 0, none⟩) l := by
  subst hg; exact lit_rd w t l
theorem seal_any' {A : Option Addr} {c m : Nat} {xs : List Nat} {w : World} (hm : m = xs.length) (h : Rd w w.heap.size A (bs xs)) (hB : Byt xs) (hl : xs.length ≤ 1000000) :
    Calls Try.prog 33 #[.slice A m c] w (Made w (W.sealed xs)) := by
  subst hm; exact seal_any A c xs w h hB hl
theorem open_any' {A : Option Addr} {c m : Nat} {xs : List Nat} {w : World} (hm : m = xs.length) (h : Rd w w.heap.size A (bs xs)) (hB : Byt xs) (hl : xs.length ≤ 1000000) (hc : xs.length ≤ c) (hc2 : c ≤ 9223372036854775807) :
    Calls Try.prog 29 #[.slice A m c] w (OpenedAny w xs) := by
  subst hm; exact open_any h hB hl hc hc2

theorem own_cap {w : World} {base : Nat} {e : TypeId} {A : Option Addr} {n cap : Nat} {xs : List Value} (h : w.ownsRow base e 1 (.slice A n cap) n xs) : n ≤ cap ∧ cap ≤ 9223372036854775807 := by
  obtain ⟨A', c', h1, h2, h3⟩ := own_form h
  injection h1 with _ _ h4
  subst h4
  exact ⟨h2, h3⟩

set_option maxHeartbeats 2000000 in
theorem turned_walk (A1 A2 : Option Addr) (c1 c2 x y : Nat) (a b : List Nat) (w : World) (r1 : Rd w w.heap.size A1 (bs a)) (B1 : Byt a) (r2 : Rd w w.heap.size A2 (bs b)) (B2 : Byt b) (hx : x < 256) (hy : y < 256) (s1 : a.length ≤ 1152921504606846976) (s2 : b.length ≤ 1152921504606846976) :
    Calls Try.prog 13 #[.slice A1 a.length c1, .int .u8 (x : Int), .int .u8 (y : Int), .slice A2 b.length c2] w (Holds w) := by
  have T0 := Two.start w (.slice A1 a.length c1) (.slice A2 b.length c2) 24
  by_cases hs : 600 < a.length + b.length
  · have hs' : (600 : Int) < (a.length : Int) + (b.length : Int) := by omega
    go_enter Try.func13, Try.ntmps13
    go_wp2_with fail
    refine (alive_any _).mono ?_
    rintro e w1 ⟨rfl, hb1⟩
    have T1 := T0.step hb1
    clear T0
    go_wp2_with fail
    go_ret
    exact ⟨rfl, T1.below⟩
  have hs' : (a.length : Int) + (b.length : Int) ≤ 600 := by omega
  obtain ⟨i0, hi, hz0, hz1, hz2⟩ := info_parts info_u8
  -- the plain facts
  obtain ⟨q, hq⟩ : ∃ q : Bool, q = decide (x = y) := ⟨_, rfl⟩
  have hxy : ((x : Int) == (y : Int)) = q := by rw [hq, Bool.eq_iff_iff]; simp only [beq_iff_eq, decide_eq_true_eq]; omega
  have h12 : (((W.sum (a ++ [x] ++ b) : Nat) : Int) == ((W.sum (a ++ [y] ++ b) : Nat) : Int)) = q := by
    rw [hq, Bool.eq_iff_iff]
    have := W.sum_one (a := a) (b := b) hx hy
    simp only [beq_iff_eq, decide_eq_true_eq]
    omega
  have h34 : (((W.sum (a ++ [x, y] ++ b) : Nat) : Int) == ((W.sum (a ++ [y, x] ++ b) : Nat) : Int)) = q := by
    rw [hq, Bool.eq_iff_iff]
    have := W.sum_two (a := a) (b := b) hx hy
    simp only [beq_iff_eq, decide_eq_true_eq]
    omega
  have HO := Lib.hid (W.opened_turned a b x y (by omega) hx hy)
  rw [← hq] at HO
  have HSET := Lib.hid (W.set_sealed a b x y)
  clear hq
  have Bx : Byt [x] := by intro z hz; simp at hz; omega
  have By : Byt [y] := by intro z hz; simp at hz; omega
  have Bxy : Byt [x, y] := by intro z hz; simp at hz; omega
  have Byx : Byt [y, x] := by intro z hz; simp at hz; omega
  have b1 : Byt (a ++ [x] ++ b) := (B1.append Bx).append B2
  have b2 : Byt (a ++ [y] ++ b) := (B1.append By).append B2
  have b3 : Byt (a ++ [x, y] ++ b) := (B1.append Bxy).append B2
  have b4 : Byt (a ++ [y, x] ++ b) := (B1.append Byx).append B2
  have la : (a ++ [x] ++ b).length = a.length + b.length + 1 := by simp; omega
  have lb : (a ++ [y] ++ b).length = a.length + b.length + 1 := by simp; omega
  have lc : (a ++ [x, y] ++ b).length = a.length + b.length + 2 := by simp; omega
  have ld : (a ++ [y, x] ++ b).length = a.length + b.length + 2 := by simp; omega
  have l1 : (a ++ [x] ++ b).length ≤ 700 := by omega
  have l2 : (a ++ [y] ++ b).length ≤ 700 := by omega
  have l3 : (a ++ [x, y] ++ b).length ≤ 700 := by omega
  have l4 : (a ++ [y, x] ++ b).length ≤ 700 := by omega
  have p1 := put_le (n := ((a ++ [x] ++ b).length : Nat)) (by omega) (by omega)
  obtain ⟨p11, p12⟩ := p1
  have psl := W.sealed_len (a ++ [x] ++ b) (by omega)
  have hat : (W.put ((a ++ [x] ++ b).length : Nat)).length + a.length < (W.sealed (a ++ [x] ++ b)).length := by
    unfold W.sealed
    simp only [List.length_append, List.length_cons, List.length_nil]
    omega
  obtain ⟨ps1, ps2⟩ := psl
  have hsl : (W.sealed (a ++ [x] ++ b)).length ≤ 800 := by omega
  have a7 : a.length ≤ 600 := by omega
  have b7 : b.length ≤ 600 := by omega
  have hSB : Byt (W.sealed (a ++ [x] ++ b)) := W.sealed_byt _ b1
  clear la lb lc ld ps1 ps2
  have C1 := fun (wr : World) (A : Option Addr) (c : Nat) (h1 : wr.cell? ⟨w.heap.size, 0, none⟩ = some (.slice A1 a.length c1)) (h2 : wr.cell? ⟨w.heap.size + 1, 0, none⟩ = some (.slice A2 b.length c2)) (hr1 : Rd wr wr.heap.size A1 (bs a)) (hr2 : Rd wr wr.heap.size A2 (bs b)) (hr : Rd wr wr.heap.size A (bs [x])) => of_any w.heap.size (w.heap.size + 1) A1 A2 A c1 c2 c a b [x] wr h1 h2 hr1 hr2 hr (by omega) (by omega) (by simp)
  have C2 := fun (wr : World) (A : Option Addr) (c : Nat) (h1 : wr.cell? ⟨w.heap.size, 0, none⟩ = some (.slice A1 a.length c1)) (h2 : wr.cell? ⟨w.heap.size + 1, 0, none⟩ = some (.slice A2 b.length c2)) (hr1 : Rd wr wr.heap.size A1 (bs a)) (hr2 : Rd wr wr.heap.size A2 (bs b)) (hr : Rd wr wr.heap.size A (bs [y])) => of_any w.heap.size (w.heap.size + 1) A1 A2 A c1 c2 c a b [y] wr h1 h2 hr1 hr2 hr (by omega) (by omega) (by simp)
  have C3 := fun (wr : World) (A : Option Addr) (c : Nat) (h1 : wr.cell? ⟨w.heap.size, 0, none⟩ = some (.slice A1 a.length c1)) (h2 : wr.cell? ⟨w.heap.size + 1, 0, none⟩ = some (.slice A2 b.length c2)) (hr1 : Rd wr wr.heap.size A1 (bs a)) (hr2 : Rd wr wr.heap.size A2 (bs b)) (hr : Rd wr wr.heap.size A (bs [x, y])) => of_any w.heap.size (w.heap.size + 1) A1 A2 A c1 c2 c a b [x, y] wr h1 h2 hr1 hr2 hr (by omega) (by omega) (by simp)
  have C4 := fun (wr : World) (A : Option Addr) (c : Nat) (h1 : wr.cell? ⟨w.heap.size, 0, none⟩ = some (.slice A1 a.length c1)) (h2 : wr.cell? ⟨w.heap.size + 1, 0, none⟩ = some (.slice A2 b.length c2)) (hr1 : Rd wr wr.heap.size A1 (bs a)) (hr2 : Rd wr wr.heap.size A2 (bs b)) (hr : Rd wr wr.heap.size A (bs [y, x])) => of_any w.heap.size (w.heap.size + 1) A1 A2 A c1 c2 c a b [y, x] wr h1 h2 hr1 hr2 hr (by omega) (by omega) (by simp)
  generalize a ++ [x] ++ b = L1 at *
  generalize a ++ [y] ++ b = L2 at *
  generalize a ++ [x, y] ++ b = L3 at *
  generalize a ++ [y, x] ++ b = L4 at *
  have H1 := Lib.hid C1
  have H2 := Lib.hid C2
  have H3 := Lib.hid C3
  have H4 := Lib.hid C4
  clear C1 C2 C3 C4
  go_enter Try.func13, Try.ntmps13
  go_wp2_with fail
  have T1 := T0.step (bel_alloc _ (.cells (bs [x]).toArray 5))
  refine (H1.out _ _ _ T1.one T1.two (r1.on T1.below) (r2.on T1.below) (lit_rd' _ _ (bs [x]) (by simp))).mono ?_
  rintro e w1 ⟨A3, c3, rfl, ho3, hb3, hc3, hc3'⟩
  have T3 := T1.step hb3
  have r3 := Rd.of_own ho3
  clear T0 T1 ho3 hb3
  go_wp2_with fail
  have T4 := T3.step (bel_alloc _ (.cells (bs [y]).toArray 5))
  refine (H2.out _ _ _ T4.one T4.two (r1.on T4.below) (r2.on T4.below) (lit_rd _ _ (bs [y]))).mono ?_
  rintro e w2 ⟨A5, c5, rfl, ho5, hb5, hc5, hc5'⟩
  have T5 := T4.step hb5
  have r5 := Rd.of_own ho5
  have r3' := (r3.on (bel_alloc _ _)).on hb5
  clear T3 T4 ho5 hb5 r3
  go_wp2_with fail
  refine (sum_any' rfl r3' b1 (by omega)).mono ?_
  rintro e w3 ⟨rfl, rfl⟩
  go_wp2_with fail
  refine (sum_any' rfl r5 b2 (by omega)).mono ?_
  rintro e w3 ⟨rfl, rfl⟩
  go_wp2_with fail
  have T6 := T5.step (bel_alloc _ (.cells (bs [x, y]).toArray 5))
  refine (H3.out _ _ _ T6.one T6.two (r1.on T6.below) (r2.on T6.below) (lit_rd _ _ (bs [x, y]))).mono ?_
  rintro e w3 ⟨A7, c7, rfl, ho7, hb7, hc7, hc7'⟩
  have T7 := T6.step hb7
  have r7 := Rd.of_own ho7
  have r3'' := (r3'.on (bel_alloc _ _)).on hb7
  clear T5 T6 ho7 hb7 r3' r5
  go_wp2_with fail
  refine (sum_any' rfl r7 b3 (by omega)).mono ?_
  rintro e w4 ⟨rfl, rfl⟩
  go_wp2_with fail
  have T8 := T7.step (bel_alloc _ (.cells (bs [y, x]).toArray 5))
  refine (H4.out _ _ _ T8.one T8.two (r1.on T8.below) (r2.on T8.below) (lit_rd _ _ (bs [y, x]))).mono ?_
  rintro e w4 ⟨A9, c9, rfl, ho9, hb9, hc9, hc9'⟩
  have T9 := T8.step hb9
  have r9 := Rd.of_own ho9
  have q3 := (r3''.on (bel_alloc _ _)).on hb9
  clear T7 T8 ho9 hb9 r7 r3''
  go_wp2_with fail
  refine (sum_any' rfl r9 b4 (by omega)).mono ?_
  rintro e w5 ⟨rfl, rfl⟩
  clear H1 H2 H3 H4
  go_wp2_with fail
  refine (seal_any' rfl q3 b1 (by omega)).mono ?_
  rintro e w5 ⟨A10, c10, rfl, ho10, hb10, hc10, hc10'⟩
  have T10 := T9.step hb10
  have r10 := Rd.of_own ho10
  clear T9 ho10 hb10 r9 q3 h12 h34
  have k1 := T10.one
  have lt1 := World.block_lt_of_cell? w5 _ k1
  have HK : Hid (∀ w', Below w5.heap.size w5 w' → w'.cell? ⟨w.heap.size, 0, none⟩ = some (.slice A1 a.length c1)) := fun w' hb => (hb.cell (p := ⟨w.heap.size, 0, none⟩) lt1).trans k1
  go_wp2_with fail
  go_region_held3 (fun w' => w'.cell? ⟨w.heap.size, 0, none⟩ = some (.slice A1 a.length c1))
    (first | go_keep | exact HK.out _ ((Below.refl _ _).drew.trans hb11))
    (first
      | (go_at_call 16
         refine (put_any _ _ (by omega) (by omega)).mono ?_
         rintro e w6 ⟨A11, c11, rfl, ho11, hb11, _, _⟩))
  have T11 := T10.step ((Below.refl _ _).drew.trans hb11)
  have r11 := r10.on ((Below.refl _ _).drew.trans hb11)
  clear T10 r10 ho11 hb11 HK k1 lt1
  have hat' : ((W.put (L1.length : Nat)).length : Int) + (a.length : Int) < ((W.sealed L1).length : Int) := by omega
  have o0 : (w6.alloc (.cells #[] 5)).ownsRow w6.heap.size 5 1 (.slice (some ⟨w6.heap.size, 0, none⟩) 0 0) 0 [] := World.ownsRow_made w6 #[] 0 (Nat.le_refl _) (by simp) (by simp)
  go_wp2_with (at_builtin; refine wpList_app _ rfl (.tmp 74) (.tmp 75) 24 24 rfl w6.heap.size 5 i0 _ 1 1 Try.underlying24 hi hz0 hz1 hz2 rfl (by omega) (.slice (some ⟨w6.heap.size, 0, none⟩) 0 0) 0 [] rfl o0 _ _ _ rfl (src_rd _ Try.underlying24 (bs_length _).symm (r11.on (bel_alloc _ _)) (bs_one _)) ?c1 ?c2 ?c3 ?_)
  case c1 => simp only [maxLen]; omega
  case c2 => omega
  case c3 => simp
  intro v12 w7 ho12 hg12 _
  have hb12 : Below w6.heap.size w6 w7 := (bel_alloc w6 _).grown hg12 (by simp) (fun k hk => (o0.lt k hk).1)
  have T12 := T11.step hb12
  have hsz11 := T11.size
  clear T11 hg12 o0 r11
  obtain ⟨g, cap, hv12, hg12, hlt12⟩ := ho12.form (by omega)
  rw [hv12] at ho12 ⊢
  clear hv12
  obtain ⟨hcap1, hcap2⟩ := own_cap ho12
  have ck := ho12.cellAt ((W.put (L1.length : Nat)).length + a.length) (by omega)
  have hck : ∃ u, w7.cell? ⟨g, (W.put (L1.length : Nat)).length + a.length, none⟩ = some u := by
    have h1 := ho12.1
    rw [ck]
    have : (W.put (L1.length : Nat)).length + a.length < (bs (W.sealed L1)).length := by rw [bs_length]; exact hat
    exact ⟨(bs (W.sealed L1))[(W.put (L1.length : Nat)).length + a.length], by simp [List.getElem?_eq_getElem this]⟩
  obtain ⟨u, hu⟩ := hck
  have fk := ho12.frozenAt ((W.put (L1.length : Nat)).length + a.length)
  obtain ⟨ho13, hg13⟩ := ho12.stored ((W.put (L1.length : Nat)).length + a.length) (.int .u8 (y : Int))
  have hsz6 : w.heap.size ≤ g := by omega
  have B13 : Below w.heap.size w (w7.setCell ⟨g, (W.put (L1.length : Nat)).length + a.length, none⟩ (.int .u8 (y : Int))) := T12.below.setCell hsz6 _
  clear ck
  have wr1 : IntKind.i64.wrap (((W.put (L1.length : Nat)).length : Int) + (a.length : Int)) = ((W.put (L1.length : Nat)).length : Int) + (a.length : Int) := IntWalk.i64_in _ (by omega)
  have r13 := Rd.of_own ho13
  rw [bs_set, HSET.out] at r13
  have hl13 : (W.sealed L1).length = (W.put (L1.length : Nat) ++ L2 ++ W.put (W.sum L1 : Nat)).length := by rw [← HSET.out, List.length_set]
  have HL13 := Lib.hid hl13
  clear hl13 ho13 hg13
  have b13 : Byt (W.put (L1.length : Nat) ++ L2 ++ W.put (W.sum L1 : Nat)) := ((put_byt _).append b2).append (put_byt _)
  have he13 : (openErr (W.put (L1.length : Nat) ++ L2 ++ W.put (W.sum L1 : Nat)) == 0) = q := by
    unfold openErr
    rw [HO.out]
    cases q <;> rfl
  generalize W.put (L1.length : Nat) ++ L2 ++ W.put (W.sum L1 : Nat) = M at r13 HL13 b13 he13
  have hM1 : M.length ≤ 1000000 := by have := HL13.out; omega
  have hM2 : M.length ≤ cap := by have := HL13.out; omega
  go_wp2_with fail
  refine (open_any' HL13.out r13 b13 hM1 hM2 hcap2).mono ?_
  rintro e w9 ⟨A14, c14, rfl, r14, hb14⟩
  have B14 := bel_trans B13 B13.size hb14
  go_wp2_with fail
  refine (alive_any _).mono ?_
  rintro e w10 ⟨rfl, hb15⟩
  have B15 := bel_trans B14 B14.size hb15
  go_wp2_with fail
  go_ret
  exact ⟨rfl, B15⟩
end Go.Proofs.Ytplcibcpjichgaa
