/- arguments: what BoundMore is asked of, opened -/
import Derived.Test.YtahhihhfjimppaaBdO
namespace Go.Proofs.Ytahhihhfjimppaa
open Go.ChangeShapes Go.WideShapes Go.RowKit Go.Deep
set_option linter.unusedSimpArgs false
set_option linter.unusedVariables false
set_option maxRecDepth 100000

structure Bm where
  c0 : Int
  c1 : Int
  c2 : Int
  c3 : Int
  c4 : Int
  c5 : Int
  c6 : Int
  c7 : Int
  c8 : Int
  E : El
  uz : Int
  u1 : Int
  u2 : Int
  u3 : Int
  u4 : Int
  u5 : Int
  u6 : Int
  u7 : Int
  ua : Option Addr
  un : Nat
  up : Nat
  ub : Bool
  pk : Nat
def Bm.cs (b : Bm) : Array Value := #[.int .i64 b.c0, .int .i64 b.c1, .int .i64 b.c2, .int .i64 b.c3, .int .i64 b.c4, .int .i64 b.c5, .int .i64 b.c6, .int .i64 b.c7, .int .i64 b.c8] ++ b.E.cs ++ #[.int .i64 b.uz, .slice b.ua b.un b.up, .int .i64 b.u1, .int .i64 b.u2, .int .i64 b.u3, .int .i64 b.u4, .int .i64 b.u5, .int .i64 b.u6, .int .i64 b.u7, .bool b.ub, .int .u16 b.pk]
def Bm.val (b : Bm) : Value := .agg b.cs
structure IsBm (w : World) (b : Bm) (xs : List Value) (zs : List Int) (l : List S.Five) : Prop where
  el : IsEl w b.E xs zs l
  pk : b.pk ≤ 65535
  w0 : (Lit.int .i64 b.c0).wf = true
  w1 : (Lit.int .i64 b.c1).wf = true
theorem flat_conf : Flat Try.prog 42 := by
  refine flat_struct Try.underlying42 (by kernel_rfl) ?_
  intro f hf
  have hi : Flat Try.prog 3 := flat_int Try.underlying3
  simp only [List.mem_cons, List.not_mem_nil, or_false] at hf
  rcases hf with rfl | rfl | rfl | rfl | rfl | rfl | rfl | rfl | rfl <;> exact hi
theorem ints9 {zs : List Int} (h : zs.length = 9) : ∃ a b c d e f g i j, zs = [a, b, c, d, e, f, g, i, j] := by
  match zs, h with
  | [a, b, c, d, e, f, g, i, j], _ => exact ⟨a, b, c, d, e, f, g, i, j, rfl⟩
section
variable {H : Type} {enc : TypeId × Value → H} {w : World} {base : Nat} {held : Bool} {fuel : Nat}
theorem open_bm {cs : List Value} {x : DataW H × List MemPlace} (h : DataW.trod enc Try.prog w base (fun _ => true) held fuel 49 cs = some x) : ∃ b : Bm, cs = b.cs.toList ∧ ∃ xs zs l, IsBm w b xs zs l := by
  obtain ⟨ys, n, _, _, hlen, hyl, hg⟩ := DataW.trod_struct Try.underlying49 h
  have hC : Try.prog.cellsOf 49 = 31 := by kernel_rfl
  rw [hC] at hlen
  have k42 : Try.prog.cellsOf 42 = 9 := by kernel_rfl
  have k29 : Try.prog.cellsOf 29 = 11 := by kernel_rfl
  have k46 : Try.prog.cellsOf 46 = 10 := by kernel_rfl
  have k47 : Try.prog.cellsOf 47 = 1 := by kernel_rfl
  have hi : Try.prog.underlying 47 = some (.int .u16) := Try.underlying47
  have hy : ∀ j, j < 4 → ∃ y, ys[j]? = some y := fun j hj => ⟨_, List.getElem?_eq_getElem (by rw [hyl]; exact hj)⟩
  obtain ⟨u0, v0⟩ := hy 0 (by omega)
  obtain ⟨u1, v1⟩ := hy 1 (by omega)
  obtain ⟨u2, v2⟩ := hy 2 (by omega)
  obtain ⟨u3, v3⟩ := hy 3 (by omega)
  have h0 : DataW.trod enc Try.prog w base (fun _ => true) held n 42 (List.take (Try.prog.cellsOf 42) (List.drop 0 cs)) = some u0 := (hg 0 _ rfl).trans v0
  have h1 : DataW.trod enc Try.prog w base (fun _ => true) held n 29 (List.take (Try.prog.cellsOf 29) (List.drop 9 cs)) = some u1 := (hg 1 _ rfl).trans v1
  have h2 : DataW.trod enc Try.prog w base (fun _ => true) held n 46 (List.take (Try.prog.cellsOf 46) (List.drop 20 cs)) = some u2 := (hg 2 _ rfl).trans v2
  have h3 : DataW.trod enc Try.prog w base (fun _ => true) held n 47 (List.take (Try.prog.cellsOf 47) (List.drop 30 cs)) = some u3 := (hg 3 _ rfl).trans v3
  rw [k42, List.drop_zero] at h0
  rw [k29] at h1
  rw [k46] at h2
  rw [k47] at h3
  obtain ⟨is9, q0, hw0⟩ := nums_is (flat_conf h0)
  have hl9 : is9.length = 9 := by
    have := congrArg List.length q0
    rw [List.length_take, is_length] at this
    omega
  obtain ⟨c0, c1, c2, c3, c4, c5, c6, c7, c8, rfl⟩ := ints9 hl9
  obtain ⟨E, q1, xs, zs, l, hE⟩ := open_el h1
  obtain ⟨z, a, nn, c, z1, z2, z3, z4, z5, z6, z7, b, q2⟩ := use_cells h2
  obtain ⟨pk, q3, _, f3⟩ := DataW.trod_int hi h3
  have hp : 0 ≤ pk ∧ pk ≤ 65535 := by
    simp [Lit.wf, IntKind.min, IntKind.max, IntKind.bits, IntKind.signed] at f3
    omega
  obtain ⟨pn, rfl⟩ : ∃ pn : Nat, pk = (pn : Int) := ⟨pk.toNat, by omega⟩
  refine ⟨⟨c0, c1, c2, c3, c4, c5, c6, c7, c8, E, z, z1, z2, z3, z4, z5, z6, z7, a, nn, c, b, pn⟩, ?_, xs, zs, l, hE, show pn ≤ 65535 by omega, hw0 c0 (by simp), hw0 c1 (by simp)⟩
  have s1 : cs = cs.take 9 ++ ((cs.drop 9).take 11 ++ ((cs.drop 20).take 10 ++ (cs.drop 30).take 1)) := by
    have a1 : (cs.drop 30).take 1 = cs.drop 30 := List.take_of_length_le (by rw [List.length_drop]; omega)
    have a2 : (cs.drop 20).take 10 ++ cs.drop 30 = cs.drop 20 := by
      have := List.take_append_drop 10 (cs.drop 20)
      rwa [List.drop_drop] at this
    have a3 : (cs.drop 9).take 11 ++ cs.drop 20 = cs.drop 9 := by
      have := List.take_append_drop 11 (cs.drop 9)
      rwa [List.drop_drop] at this
    rw [a1, a2, a3, List.take_append_drop]
  rw [s1, q0, q1, q2, q3]
  simp [Bm.cs, is, uc]
end
end Go.Proofs.Ytahhihhfjimppaa
