/- Lines on plain data: what each move of a line does. No program in sight. -/
import Derived.Test.YtfkfehlnjcbcbaaAbsK
namespace Go.Proofs.Ytfkfehlnjcbcbaa.Abs
set_option linter.unusedSimpArgs false
set_option linter.unusedVariables false
open Go Go.RowKit

structure Pk where
  ack : Bool
  num : Int
  pay : ByteArray
  deriving DecidableEq
structure Ln where
  waiting : List ByteArray
  next : Int
  sent : Bool
  expected : Int
  there : List Pk
  back : List Pk
  deriving DecidableEq

def encS (s : ByteArray) : List AV := [.raw (.string s)]
def encP (p : Pk) : List AV := [.raw (.bool p.ack), .raw (.int .i64 p.num), .raw (.string p.pay)]
def encL (l : Ln) : List AV := [.lst 1 (l.waiting.map encS), .raw (.int .i64 l.next), .raw (.bool l.sent), .raw (.int .i64 l.expected), .lst 3 (l.there.map encP), .lst 3 (l.back.map encP)]
theorem encS_len (s : ByteArray) : (encS s).length = 1 := rfl
theorem encP_len (p : Pk) : (encP p).length = 3 := rfl
theorem encS_imm (s : ByteArray) : AV.immL (encS s) = true := rfl
theorem encP_imm (p : Pk) : AV.immL (encP p) = true := rfl

def emp : ByteArray := ⟨#[]⟩
def Ln.new : Ln := ⟨[], 1, false, 1, [], []⟩
/-- The line that goes with an error. -/
def Ln.zero : Ln := ⟨[], 0, false, 0, [], []⟩
def Pk.zero : Pk := ⟨false, 0, emp⟩

def long (s : ByteArray) : Bool := decide (256 < s.size)
def Ln.over (l : Ln) : Bool := decide (32 < l.waiting.length) || decide (32 < l.there.length) || decide (32 < l.back.length) || l.waiting.any long || l.there.any (fun p => long p.pay) || l.back.any fun p => long p.pay
def Ln.bad (l : Ln) : Bool := decide (l.next < 1) || decide (l.expected < 1) || decide (l.expected < l.next) || decide (l.next + 1 < l.expected) || (decide (l.expected = l.next + 1) && !l.sent) || (l.sent && l.waiting.isEmpty)
def Ln.msg (l : Ln) (p : Pk) : Bool := !p.ack && decide (1 ≤ p.num) && (decide (p.num < l.next) || (decide (p.num = l.next) && l.sent && decide (p.pay = l.waiting.headD emp)))
def Ln.ackd (l : Ln) (p : Pk) : Bool := p.ack && decide (p.pay = emp) && decide (1 ≤ p.num) && decide (p.num < l.expected)
/-- Check. -/
def Ln.chk (l : Ln) : Int := if l.over then 1 else if l.bad then 48 else if l.there.all l.msg && l.back.all l.ackd then 0 else 48

def Ln.offer (l : Ln) (s : ByteArray) : Ln × Int :=
  if l.chk ≠ 0 then (.zero, l.chk) else if long s then (.zero, 1) else if l.waiting.length = 32 then (.zero, 49) else ({ l with waiting := l.waiting ++ [s] }, 0)
def Ln.send (l : Ln) : Ln × Int :=
  if l.chk ≠ 0 then (.zero, l.chk) else if l.waiting = [] then (.zero, 15) else if l.there.length = 32 then (.zero, 49) else ({ l with there := l.there ++ [⟨false, l.next, l.waiting.headD emp⟩], sent := true }, 0)
/-- An index into a list. -/
def Ln.start (l : Ln) (n : Nat) (at_ : Int) : Int := if l.chk ≠ 0 then l.chk else if at_ < 0 ∨ (n : Int) ≤ at_ then 5 else 0
def Ln.lose (l : Ln) (i : Int) : Ln × Int := if l.start l.there.length i ≠ 0 then (.zero, l.start l.there.length i) else ({ l with there := l.there.eraseIdx i.toNat }, 0)
def Ln.repeat' (l : Ln) (i : Int) : Ln × Int :=
  if l.start l.there.length i ≠ 0 then (.zero, l.start l.there.length i) else if l.there.length = 32 then (.zero, 49) else ({ l with there := l.there ++ [l.there.getD i.toNat .zero] }, 0)
def Ln.deliver (l : Ln) (i : Int) : Ln × ByteArray × Bool × Int :=
  if l.start l.there.length i ≠ 0 then (.zero, emp, false, l.start l.there.length i) else
    let p := (l.there.getD i.toNat .zero);
    ({ l with there := l.there.eraseIdx i.toNat, expected := if p.num = l.expected then IntKind.i64.wrap (l.expected + 1) else l.expected, back := if l.back.length < 32 then l.back ++ [⟨true, p.num, emp⟩] else l.back }, if p.num = l.expected then p.pay else emp, decide (p.num = l.expected), 0)
def Ln.loseBack (l : Ln) (i : Int) : Ln × Int := if l.start l.back.length i ≠ 0 then (.zero, l.start l.back.length i) else ({ l with back := l.back.eraseIdx i.toNat }, 0)
def Ln.backs (l : Ln) (i : Int) : Ln × Int :=
  if l.start l.back.length i ≠ 0 then (.zero, l.start l.back.length i) else
    let p := (l.back.getD i.toNat .zero);
    if p.num = l.next ∧ l.sent = true then ({ l with back := l.back.eraseIdx i.toNat, waiting := l.waiting.tail, next := IntKind.i64.wrap (l.next + 1), sent := false }, 0) else ({ l with back := l.back.eraseIdx i.toNat }, 0)

/-- Numbers that fit. -/
def inI (n : Int) : Prop := -9223372036854775808 ≤ n ∧ n ≤ 9223372036854775807
structure Ln.fit (l : Ln) : Prop where
  next : inI l.next
  expected : inI l.expected
end Go.Proofs.Ytfkfehlnjcbcbaa.Abs
