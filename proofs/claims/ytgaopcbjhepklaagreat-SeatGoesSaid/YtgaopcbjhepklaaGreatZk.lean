/- A frame that goes on: in plain terms. -/
import Derived.Test.YtgaopcbjhepklaaGreatZf
namespace Go.Proofs.YtgaopcbjhepklaaGreat
set_option linter.unusedVariables false
/-- what turns of a frame -/
structure PF where
  pc : Int
  spent : Int
  fail : Bool
  loc : List Int
  stk : List Int
/-- what is asked for -/
structure QP where
  kind : Int
  a : Int := 0
  b : Int := 0
  o0 : Int := 0
  o1 : Int := 0
  o2 : Int := 0
  o3 : Int := 0
  got : List Int := []
inductive SR where
  | go (f : PF)
  | ask (f : PF) (q : QP)
  | err (e : Int)
inductive RR where
  | ok (f : PF) (q : QP)
  | err (e : Int)
def PF.nx (f : PF) : PF := { f with pc := f.pc + 1, spent := f.spent + 1 }
def PF.pop (f : PF) (m : Nat) : PF := { f with stk := f.stk.take (f.stk.length - m) }
def PF.at_ (f : PF) (m j : Nat) : Int := (f.stk.drop (f.stk.length - m)).getD j 0
/-- one value of the two tops -/
def PF.two (f : PF) (r : Int) : SR := if 2 ≤ f.stk.length then .go { f.pop 2 with stk := f.stk.take (f.stk.length - 2) ++ [r] }.nx else .err 1
def callP (f : PF) (objs : Int) (takes : Nat) (key : Bool) (kind b c : Int) : SR :=
  if 0 ≤ b ∧ b < objs ∧ c = takes ∧ takes ≤ f.stk.length then
    let went := f.stk.drop (f.stk.length - takes) ++ [0, 0]
    .ask (f.pop takes).nx { kind := 3, o0 := kind, o1 := b, o2 := (if key then went.getD 0 0 % 65536 else went.getD 0 0), o3 := went.getD 1 0 }
  else .err 1
/-- one instruction; fa: how many values each function takes -/
def instrP (k : MK) (fa : Int → Int) (f : PF) (i : InsP) : SR :=
  if i.op = 1 then (if 0 ≤ i.a ∧ i.a < 4294967296 ∧ f.stk.length < 100 then .go { f with stk := f.stk ++ [i.a] }.nx else .err 1)
  else if i.op = 2 then
    if ¬ (0 ≤ i.a ∧ i.a < f.loc.length) then .err 1 else if awaits k.kids i.a = true then .ask f { kind := 5 } else
    if f.stk.length < 100 then .go { f with stk := f.stk ++ [f.loc.getD i.a.toNat 0] }.nx else .err 1
  else if i.op = 3 then
    if ¬ (0 ≤ i.a ∧ i.a < f.loc.length) then .err 1 else if awaits k.kids i.a = true then .ask f { kind := 5 } else
    if 1 ≤ f.stk.length then .go { f.pop 1 with loc := f.loc.set i.a.toNat (f.at_ 1 0) }.nx else .err 1
  else if i.op = 4 then (if 0 ≤ i.a ∧ i.a < k.nc then .ask f.nx { kind := 1, a := i.a } else .err 1)
  else if i.op = 5 then (if (0 ≤ i.a ∧ i.a < k.nc) ∧ 1 ≤ f.stk.length then .ask (f.pop 1).nx { kind := 2, a := i.a, b := f.at_ 1 0 } else .err 1)
  else if i.op = 6 then f.two (IntKind.i64.wrap (f.at_ 2 0 + f.at_ 2 1) % 4294967296)
  else if i.op = 7 then f.two (IntKind.i64.wrap (f.at_ 2 0 - f.at_ 2 1) % 4294967296)
  else if i.op = 8 then f.two (IntKind.i64.wrap (f.at_ 2 0 * f.at_ 2 1) % 4294967296)
  else if i.op = 9 then f.two (if f.at_ 2 0 < f.at_ 2 1 then 1 else 0)
  else if i.op = 10 then f.two (if f.at_ 2 0 = f.at_ 2 1 then 1 else 0)
  else if i.op = 11 then
    if i.a = 1 then callP f k.maps 1 true 1 i.b i.c else if i.a = 2 then callP f k.maps 2 true 2 i.b i.c else if i.a = 3 then callP f k.maps 1 true 3 i.b i.c
    else if i.a = 4 then callP f k.stacks 1 false 4 i.b i.c else if i.a = 5 then callP f k.stacks 0 false 5 i.b i.c
    else if i.a = 6 then callP f k.chans 1 false 6 i.b i.c else if i.a = 7 then callP f k.chans 0 false 7 i.b i.c else .err 1
  else if i.op = 12 then (if 1 ≤ f.stk.length then .go (f.pop 1).nx else .err 1)
  else if i.op = 13 then
    if 0 ≤ i.b ∧ (0 ≤ i.a ∧ i.a < k.nf) ∧ (i.c = -1 ∨ 0 ≤ i.c ∧ i.c < f.loc.length) ∧ i.b = fa i.a ∧ i.b ≤ f.stk.length then
      .ask (f.pop i.b.toNat).nx { kind := 4, a := i.a, b := i.c, got := f.stk.drop (f.stk.length - i.b.toNat) }
    else .err 1
  else if i.op = 14 then (if k.nk ≠ 0 then .ask f { kind := 5 } else .go f.nx)
  else if i.op = 15 then (if 0 ≤ i.a ∧ i.a < k.ni then .go { f with pc := i.a, spent := f.spent + 1 } else .err 1)
  else if i.op = 16 then (if (0 ≤ i.a ∧ i.a < k.ni) ∧ 1 ≤ f.stk.length then (if f.at_ 1 0 = 0 then .go { f.pop 1 with pc := i.a, spent := f.spent + 1 } else .go (f.pop 1).nx) else .err 1)
  else if i.op = 17 then (if k.nk ≠ 0 then .ask f { kind := 5 } else if 1 ≤ f.stk.length then .ask (f.pop 1).nx { kind := 6, a := f.at_ 1 0 } else .err 1)
  else if i.op = 18 then (if 1 ≤ f.stk.length then (if f.at_ 1 0 = 0 then .go { f.pop 1 with fail := true }.nx else .go (f.pop 1).nx) else .err 1)
  else f.two (IntKind.i64.wrap ((IntKind.i64.wrap (f.at_ 2 0 + f.at_ 2 1)).tdiv 2))
theorem instr_1 {k : MK} {fa : Int → Int} {f : PF} {i : InsP} (h : i.op = 1) : instrP k fa f i = ((if 0 ≤ i.a ∧ i.a < 4294967296 ∧ f.stk.length < 100 then .go { f with stk := f.stk ++ [i.a] }.nx else .err 1)) := by
  unfold instrP
  simp only [h]
  simp
theorem instr_2 {k : MK} {fa : Int → Int} {f : PF} {i : InsP} (h : i.op = 2) : instrP k fa f i = (if ¬ (0 ≤ i.a ∧ i.a < f.loc.length) then .err 1 else if awaits k.kids i.a = true then .ask f { kind := 5 } else
    if f.stk.length < 100 then .go { f with stk := f.stk ++ [f.loc.getD i.a.toNat 0] }.nx else .err 1) := by
  unfold instrP
  simp only [h]
  simp
theorem instr_3 {k : MK} {fa : Int → Int} {f : PF} {i : InsP} (h : i.op = 3) : instrP k fa f i = (if ¬ (0 ≤ i.a ∧ i.a < f.loc.length) then .err 1 else if awaits k.kids i.a = true then .ask f { kind := 5 } else
    if 1 ≤ f.stk.length then .go { f.pop 1 with loc := f.loc.set i.a.toNat (f.at_ 1 0) }.nx else .err 1) := by
  unfold instrP
  simp only [h]
  simp
theorem instr_4 {k : MK} {fa : Int → Int} {f : PF} {i : InsP} (h : i.op = 4) : instrP k fa f i = ((if 0 ≤ i.a ∧ i.a < k.nc then .ask f.nx { kind := 1, a := i.a } else .err 1)) := by
  unfold instrP
  simp only [h]
  simp
theorem instr_5 {k : MK} {fa : Int → Int} {f : PF} {i : InsP} (h : i.op = 5) : instrP k fa f i = ((if (0 ≤ i.a ∧ i.a < k.nc) ∧ 1 ≤ f.stk.length then .ask (f.pop 1).nx { kind := 2, a := i.a, b := f.at_ 1 0 } else .err 1)) := by
  unfold instrP
  simp only [h]
  simp
theorem instr_6 {k : MK} {fa : Int → Int} {f : PF} {i : InsP} (h : i.op = 6) : instrP k fa f i = (f.two (IntKind.i64.wrap (f.at_ 2 0 + f.at_ 2 1) % 4294967296)) := by
  unfold instrP
  simp only [h]
  simp
theorem instr_7 {k : MK} {fa : Int → Int} {f : PF} {i : InsP} (h : i.op = 7) : instrP k fa f i = (f.two (IntKind.i64.wrap (f.at_ 2 0 - f.at_ 2 1) % 4294967296)) := by
  unfold instrP
  simp only [h]
  simp
theorem instr_8 {k : MK} {fa : Int → Int} {f : PF} {i : InsP} (h : i.op = 8) : instrP k fa f i = (f.two (IntKind.i64.wrap (f.at_ 2 0 * f.at_ 2 1) % 4294967296)) := by
  unfold instrP
  simp only [h]
  simp
theorem instr_9 {k : MK} {fa : Int → Int} {f : PF} {i : InsP} (h : i.op = 9) : instrP k fa f i = (f.two (if f.at_ 2 0 < f.at_ 2 1 then 1 else 0)) := by
  unfold instrP
  simp only [h]
  simp
theorem instr_10 {k : MK} {fa : Int → Int} {f : PF} {i : InsP} (h : i.op = 10) : instrP k fa f i = (f.two (if f.at_ 2 0 = f.at_ 2 1 then 1 else 0)) := by
  unfold instrP
  simp only [h]
  simp
theorem instr_11 {k : MK} {fa : Int → Int} {f : PF} {i : InsP} (h : i.op = 11) : instrP k fa f i = (if i.a = 1 then callP f k.maps 1 true 1 i.b i.c else if i.a = 2 then callP f k.maps 2 true 2 i.b i.c else if i.a = 3 then callP f k.maps 1 true 3 i.b i.c
    else if i.a = 4 then callP f k.stacks 1 false 4 i.b i.c else if i.a = 5 then callP f k.stacks 0 false 5 i.b i.c
    else if i.a = 6 then callP f k.chans 1 false 6 i.b i.c else if i.a = 7 then callP f k.chans 0 false 7 i.b i.c else .err 1) := by
  unfold instrP
  simp only [h]
  simp
theorem instr_12 {k : MK} {fa : Int → Int} {f : PF} {i : InsP} (h : i.op = 12) : instrP k fa f i = ((if 1 ≤ f.stk.length then .go (f.pop 1).nx else .err 1)) := by
  unfold instrP
  simp only [h]
  simp
theorem instr_13 {k : MK} {fa : Int → Int} {f : PF} {i : InsP} (h : i.op = 13) : instrP k fa f i = (if 0 ≤ i.b ∧ (0 ≤ i.a ∧ i.a < k.nf) ∧ (i.c = -1 ∨ 0 ≤ i.c ∧ i.c < f.loc.length) ∧ i.b = fa i.a ∧ i.b ≤ f.stk.length then
      .ask (f.pop i.b.toNat).nx { kind := 4, a := i.a, b := i.c, got := f.stk.drop (f.stk.length - i.b.toNat) }
    else .err 1) := by
  unfold instrP
  simp only [h]
  simp
theorem instr_14 {k : MK} {fa : Int → Int} {f : PF} {i : InsP} (h : i.op = 14) : instrP k fa f i = ((if k.nk ≠ 0 then .ask f { kind := 5 } else .go f.nx)) := by
  unfold instrP
  simp only [h]
  simp
theorem instr_15 {k : MK} {fa : Int → Int} {f : PF} {i : InsP} (h : i.op = 15) : instrP k fa f i = ((if 0 ≤ i.a ∧ i.a < k.ni then .go { f with pc := i.a, spent := f.spent + 1 } else .err 1)) := by
  unfold instrP
  simp only [h]
  simp
theorem instr_16 {k : MK} {fa : Int → Int} {f : PF} {i : InsP} (h : i.op = 16) : instrP k fa f i = ((if (0 ≤ i.a ∧ i.a < k.ni) ∧ 1 ≤ f.stk.length then (if f.at_ 1 0 = 0 then .go { f.pop 1 with pc := i.a, spent := f.spent + 1 } else .go (f.pop 1).nx) else .err 1)) := by
  unfold instrP
  simp only [h]
  simp
theorem instr_17 {k : MK} {fa : Int → Int} {f : PF} {i : InsP} (h : i.op = 17) : instrP k fa f i = ((if k.nk ≠ 0 then .ask f { kind := 5 } else if 1 ≤ f.stk.length then .ask (f.pop 1).nx { kind := 6, a := f.at_ 1 0 } else .err 1)) := by
  unfold instrP
  simp only [h]
  simp
theorem instr_18 {k : MK} {fa : Int → Int} {f : PF} {i : InsP} (h : i.op = 18) : instrP k fa f i = ((if 1 ≤ f.stk.length then (if f.at_ 1 0 = 0 then .go { f.pop 1 with fail := true }.nx else .go (f.pop 1).nx) else .err 1)) := by
  unfold instrP
  simp only [h]
  simp
theorem instr_19 {k : MK} {fa : Int → Int} {f : PF} {i : InsP} (h : i.op = 19) : instrP k fa f i = (f.two (IntKind.i64.wrap ((IntKind.i64.wrap (f.at_ 2 0 + f.at_ 2 1)).tdiv 2))) := by
  unfold instrP
  simp only [h]
  simp
def insAt (b : BodyP) (pc : Int) : InsP := b.ins.getD pc.toNat ⟨0, 0, 0, 0⟩
def stepP (k : MK) (fa : Int → Int) (b : BodyP) (f : PF) : SR :=
  if f.spent = 2000 then .err 11 else
  if ¬ (0 ≤ f.pc ∧ f.pc < b.ni) then .err 1 else
  if ¬ (1 ≤ (insAt b f.pc).op ∧ (insAt b f.pc).op < 20) then .err 1 else instrP k fa f (insAt b f.pc)
def runP (k : MK) (fa : Int → Int) (b : BodyP) : Nat → PF → RR
  | 0, _ => .err 11
  | n + 1, f => match stepP k fa b f with
    | .go f' => runP k fa b n f'
    | .ask f' q => .ok f' q
    | .err e => .err e
section
variable {k : MK} {fa : Int → Int} {b : BodyP} {n : Nat} {f f' : PF}
theorem runP_go (h : stepP k fa b f = .go f') : runP k fa b (n + 1) f = runP k fa b n f' := by simp only [runP, h]
theorem runP_ask {q : QP} (h : stepP k fa b f = .ask f' q) : runP k fa b (n + 1) f = .ok f' q := by simp only [runP, h]
theorem runP_err {e : Int} (h : stepP k fa b f = .err e) : runP k fa b (n + 1) f = .err e := by simp only [runP, h]
end
def kOf (c : CodeP) (f : FrP) (Ap : Option Addr) (cp : Nat) (Ak : Option Addr) (ck : Nat) : MK := ⟨c.Af, c.nf, c.cf, c.Ac, c.nc, c.cc, c.maps, c.stacks, c.chans, c.main, (bodyAt c f.fn).args, (bodyAt c f.fn).locals, (bodyAt c f.fn).Ai, (bodyAt c f.fn).ni, (bodyAt c f.fn).ci, f.task, Ap, f.np, cp, f.fn, Ak, f.nk, ck, f.many, f.path, f.kids⟩
/-- what a frame that goes on comes to -/
def nextP (c : CodeP) (f : FrP) : RR := runP (kOf c f none 0 none 0) (fun a => (bodyAt c a).args) (bodyAt c f.fn) (2001 - f.spent.toNat) ⟨f.pc, f.spent, f.fail, f.loc, f.stk⟩
def pf (v : MV) : PF := ⟨v.pc, v.spent, v.fail, v.loc, v.stk⟩
def qp (q : QV) : QP := ⟨q.kind, q.a, q.b, q.o0, q.o1, q.o2, q.o3, q.got⟩
structure QOk (q : QV) : Prop where
  len : q.na = q.got.length
  cap : q.na ≤ q.ca
  A : 0 < q.ca → ∃ b, q.Aa = some ⟨b, 0, none⟩
end Go.Proofs.YtgaopcbjhepklaaGreat
