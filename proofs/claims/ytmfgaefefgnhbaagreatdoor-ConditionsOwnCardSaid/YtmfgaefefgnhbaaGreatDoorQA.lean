/- Offices on plain data: what conditions looks at. No program in sight. -/
import Derived.Test.YtmfgaefefgnhbaaGreatDoorGC
import Derived.Test.YtmfgaefefgnhbaaGreatDoorEA
import Derived.Test.YtmfgaefefgnhbaaGreatDoorAbsX
namespace Go.Proofs.YtmfgaefefgnhbaaGreatDoor.Abs
set_option linter.unusedSimpArgs false
set_option linter.unusedVariables false
open Go Go.RowKit

structure Bel where
  time : Int
  marks : Int
  norm : Int
  deriving DecidableEq
structure Row where
  num : Int
  kind : Int
  idx : Int
  name : ByteArray
  deriving DecidableEq
structure Safe where
  num : Int
  keys : List Int
  locked : List ByteArray
structure Ord where
  num : Int
  kind : Int
  state : Int
  crew : ByteArray
  dev : Int
  pos : Int
  node : Int
  key : Int
  deriving DecidableEq
structure Cert where
  num : Int
  asker : Int
  giver : Int
  state : Int
  locks : List Lk
structure Pers where
  name : ByteArray
  comp : Int
  skills : Int
  frm : Int
  til : Int
  deriving DecidableEq
structure Off where
  comp : Int
  time : Int
  last : Int
  bels : List Bel
  locks : List Lk
  proved : List Int
  keys : List Row
  ports : List Row
  safes : List Safe
  docs : List Doc
  certs : List Cert
  ords : List Ord
def Bel.zero : Bel := ⟨0, 0, 0⟩
def Row.zero : Row := ⟨0, 0, 0, ⟨#[]⟩⟩
def Safe.zero : Safe := ⟨0, [], []⟩
def Ord.zero : Ord := ⟨0, 0, 0, ⟨#[]⟩, 0, 0, 0, 0⟩
def Cert.zero : Cert := ⟨0, 0, 0, 0, []⟩
def Pers.zero : Pers := ⟨⟨#[]⟩, 0, 0, 0, 0⟩
def Off.zero : Off := ⟨0, 0, 0, [], [], [], [], [], [], [], [], []⟩
def encS (s : ByteArray) : List AV := [.raw (.string s)]
def encBel (b : Bel) : List AV := [.raw (.int .i64 b.time), .raw (.int .i64 b.marks), .raw (.int .i64 b.norm)]
def encRow (r : Row) : List AV := [.raw (.int .i64 r.num), .raw (.int .i64 r.kind), .raw (.int .i64 r.idx), .raw (.string r.name)]
def encSafe (s : Safe) : List AV := [.raw (.int .i64 s.num), .lst 1 (s.keys.map encN), .lst 1 (s.locked.map encS)]
def encOrd (x : Ord) : List AV := [.raw (.int .i64 x.num), .raw (.int .i64 x.kind), .raw (.int .i64 x.state), .raw (.string x.crew), .raw (.int .i64 x.dev), .raw (.int .i64 x.pos), .raw (.int .i64 x.node), .raw (.int .i64 x.key)]
def encCert (c : Cert) : List AV := [.raw (.int .i64 c.num), .raw (.int .i64 c.asker), .raw (.int .i64 c.giver), .raw (.int .i64 c.state), .lst 3 (c.locks.map encLk)]
def encPers (p : Pers) : List AV := [.raw (.string p.name), .raw (.int .i64 p.comp), .raw (.int .i64 p.skills), .raw (.int .i64 p.frm), .raw (.int .i64 p.til)]
def encReg (l : List Pers) : List AV := [.lst 5 (l.map encPers)]
def encOff (o : Off) : List AV := [.raw (.int .i64 o.comp), .raw (.int .i64 o.time), .raw (.int .i64 o.last), .lst 3 (o.bels.map encBel), .lst 3 (o.locks.map encLk), .lst 1 (o.proved.map encN), .lst 4 (o.keys.map encRow), .lst 4 (o.ports.map encRow), .lst 3 (o.safes.map encSafe), .lst 12 (o.docs.map encDoc), .lst 5 (o.certs.map encCert), .lst 8 (o.ords.map encOrd)]
structure Safe.sized (s : Safe) : Prop where
  kl : s.keys.length ≤ 1000000
  pl : s.locked.length ≤ 1000000
  sl : ∀ x, x ∈ s.locked → x.size ≤ 9223372036854775807
structure Off.sized (o : Off) : Prop where
  bl : o.bels.length ≤ 1000000
  bi : ∀ b, b ∈ o.bels → inI b.marks
  ll : o.locks.length ≤ 1000000
  pl : o.proved.length ≤ 1000000
  kl : o.keys.length ≤ 1000000
  ol : o.ports.length ≤ 1000000
  sl : o.safes.length ≤ 1000000
  dl : o.docs.length ≤ 1000000
  cl : o.certs.length ≤ 1000000
  rl : o.ords.length ≤ 1000000
  ks : ∀ r, r ∈ o.keys → r.name.size ≤ 9223372036854775807
  ps : ∀ r, r ∈ o.ports → r.name.size ≤ 9223372036854775807
  ss : ∀ s, s ∈ o.safes → s.sized
  ds : ∀ d, d ∈ o.docs → d.sized
  cs : ∀ c, c ∈ o.certs → c.locks.length ≤ 1000000

theorem getD_Bel {l : List Bel} {i : Nat} (h : i < l.length) : (l.map encBel).getD i [] = encBel l[i] := getD_map h
theorem getD_Row {l : List Row} {i : Nat} (h : i < l.length) : (l.map encRow).getD i [] = encRow l[i] := getD_map h
theorem getD_Safe {l : List Safe} {i : Nat} (h : i < l.length) : (l.map encSafe).getD i [] = encSafe l[i] := getD_map h
theorem getD_Ord {l : List Ord} {i : Nat} (h : i < l.length) : (l.map encOrd).getD i [] = encOrd l[i] := getD_map h
theorem getD_Cert {l : List Cert} {i : Nat} (h : i < l.length) : (l.map encCert).getD i [] = encCert l[i] := getD_map h
theorem getD_Pers {l : List Pers} {i : Nat} (h : i < l.length) : (l.map encPers).getD i [] = encPers l[i] := getD_map h
theorem getD_S {l : List ByteArray} {i : Nat} (h : i < l.length) : (l.map encS).getD i [] = encS l[i] := getD_map h

/-- Names stand by their bytes. -/
def sLt (a b : ByteArray) : Bool := Op.bytesLess a.toList b.toList
def emptyS : ByteArray := ⟨#[]⟩
/-- Bits of two numbers. -/
def andI (a b : Int) : Int := IntKind.i64.wrap (BitVec.ofInt IntKind.i64.bits a &&& BitVec.ofInt IntKind.i64.bits b).toNat

def belE (b : Bel) : Int := if b.time < 0 ∨ 16777216 < b.time then 11 else if b.marks < 0 ∨ 1023 < b.marks ∨ b.norm < 0 ∨ 2 < b.norm then 10 else 0
def belErr (l : List Bel) (i : Nat) : Int := belE (l.getD i .zero)
def belChk (l : List Bel) : Int := if 64 < l.length then 1 else firstE (belErr l) l.length
def rightB (k x : Int) (s : ByteArray) : Bool := decide (k = 1 ∧ x = 0 ∧ s = emptyS) || (decide (k = 2 ∧ x = 0) && isName s) || decide (k = 3 ∧ 1 ≤ x ∧ x ≤ 16 ∧ s = emptyS) || decide (k = 4 ∧ 0 ≤ x ∧ x < 64 ∧ s = emptyS)
def rowErr (l : List Row) (i : Nat) : Int := if (l.getD i .zero).num < 0 ∨ 65536 < (l.getD i .zero).num then 5 else if 0 < i ∧ (l.getD i .zero).num ≤ (l.getD (i - 1) .zero).num then 14 else if rightB (l.getD i .zero).kind (l.getD i .zero).idx (l.getD i .zero).name = false then 40 else 0
def rowsChk (l : List Row) : Int := if 128 < l.length then 1 else firstE (rowErr l) l.length
/-- The row with a number, in valid rows. -/
def findRow (l : List Row) (k : Int) : Option Row := if rowsChk l ≠ 0 then none else l.find? fun r => decide (r.num = k)
def sKeyErr (pre : List Safe) (l : List Int) (i : Nat) : Int := if l.getD i 0 < 0 ∨ 65536 < l.getD i 0 then 5 else if 0 < i ∧ l.getD i 0 ≤ l.getD (i - 1) 0 then 14 else if pre.any (fun s => decide (l.getD i 0 ∈ s.keys)) then 4 else 0
def sNameErr (l : List ByteArray) (i : Nat) : Int := if isName (l.getD i emptyS) = false then 3 else if 0 < i ∧ sLt (l.getD (i - 1) emptyS) (l.getD i emptyS) = false then 14 else 0
def sNamesE (l : List ByteArray) : Int := if 16 < l.length then 1 else firstE (sNameErr l) l.length
def safeErr (l : List Safe) (i : Nat) : Int := if (l.getD i .zero).num < 1 ∨ 16 < (l.getD i .zero).num then 5 else if 0 < i ∧ (l.getD i .zero).num ≤ (l.getD (i - 1) .zero).num then 14 else if firstE (sKeyErr (l.take i) (l.getD i .zero).keys) (l.getD i .zero).keys.length ≠ 0 then firstE (sKeyErr (l.take i) (l.getD i .zero).keys) (l.getD i .zero).keys.length else sNamesE (l.getD i .zero).locked
def safesChk (l : List Safe) : Int := if 16 < l.length then 1 else firstE (safeErr l) l.length
/-- The number of the safe with a key, in valid safes. -/
def inSafe (l : List Safe) (k : Int) : Int := if safesChk l ≠ 0 then 0 else match l.find? fun s => decide (k ∈ s.keys) with
  | some s => s.num
  | none => 0
/-- The device at which a portable earth is. -/
def placeOf (l : List Row) (k : Int) : Option Int := match findRow l k with
  | some r => if r.kind = 4 then some r.idx else none
  | none => none
def persE (p : Pers) : Int := if isName p.name = false then 3 else if p.comp < 0 ∨ 7 < p.comp ∨ p.skills < 0 ∨ 31 < p.skills then 5 else if spanB p.frm p.til = false then 11 else 0
def regErr (l : List Pers) (i : Nat) : Int := if persE (l.getD i .zero) ≠ 0 then persE (l.getD i .zero) else if 0 < i ∧ sLt (l.getD (i - 1) .zero).name (l.getD i .zero).name = false then 4 else 0
def regChk (l : List Pers) : Int := if 64 < l.length then 1 else firstE (regErr l) l.length
/-- The index of a name, in a valid register. -/
def regFind (l : List Pers) (s : ByteArray) : Int := if regChk l ≠ 0 then -1 else firstAt (fun p => decide (p.name = s)) l
def canAt (p : Pers) (k t : Int) : Bool := decide (andI p.skills k = k) && decide (p.frm ≤ t ∧ t < p.til)
def canB (l : List Pers) (s : ByteArray) (k t : Int) : Bool := decide (0 ≤ regFind l s) && decide (1 ≤ k ∧ k ≤ 31) && canAt (l.getD (regFind l s).toNat .zero) k t
def foreignB (l : List Pers) (s : ByteArray) (c : Int) : Bool := !(decide (0 ≤ regFind l s) && decide ((l.getD (regFind l s).toNat .zero).comp = c))

def compOf (n : Net) (k : Lk) : Int := (n.devs.getD k.dev.toNat ⟨⟨#[]⟩, 0, 0, 0, 0⟩).comp
def certHead (c : Cert) : Bool := decide (1 ≤ c.num ∧ c.num ≤ 65536 ∧ 0 ≤ c.asker ∧ c.asker ≤ 7 ∧ 0 ≤ c.giver ∧ c.giver ≤ 7 ∧ c.asker ≠ c.giver ∧ 1 ≤ c.state ∧ c.state ≤ 5 ∧ 0 < c.locks.length)
def certB (n : Net) (c : Cert) : Bool := certHead c && decide (lockChk n c.locks = 0) && !(c.locks.any fun k => decide (compOf n k ≠ c.giver))
def certLt (a b : Cert) : Bool := decide (a.asker < b.asker ∨ a.asker = b.asker ∧ a.num < b.num)
def certAt (n : Net) (l : List Cert) (i : Nat) : Bool := certB n (l.getD i .zero) && (decide (i = 0) || certLt (l.getD (i - 1) .zero) (l.getD i .zero))
def allTo (f : Nat → Bool) : Nat → Bool
  | 0 => true
  | n + 1 => allTo f n && f n
def certsB (n : Net) (l : List Cert) : Bool := allTo (certAt n l) l.length && decide (l.length ≤ 16)
def ordAt (l : List Ord) (i : Nat) : Bool := decide (1 ≤ (l.getD i .zero).num ∧ (l.getD i .zero).num ≤ 65536) && (decide (i = 0) || decide ((l.getD (i - 1) .zero).num < (l.getD i .zero).num))
def ordsB (l : List Ord) : Bool := allTo (ordAt l) l.length && decide (l.length ≤ 64)
def countedB (o : Off) : Bool := !(o.docs.any fun d => decide (o.last < d.num)) && !(o.ords.any fun x => decide (o.last < x.num)) && !(o.certs.any fun c => decide (c.asker = o.comp ∧ o.last < c.num))
def thingsE (o : Off) : Int := if rowsChk o.keys ≠ 0 then rowsChk o.keys else if rowsChk o.ports ≠ 0 then rowsChk o.ports else if o.ports.any (fun r => (findRow o.keys r.num).isSome) then 4 else safesChk o.safes
noncomputable def evidE (n : Net) (o : Off) : Int := if o.bels.length ≠ n.devs.length then 9 else if belChk o.bels ≠ 0 then belChk o.bels else if lockChk n o.locks ≠ 0 then lockChk n o.locks else if o.locks.any (fun k => decide (compOf n k ≠ o.comp)) then 18 else if rising o.proved n.nodes.length = false then 7 else 0
noncomputable def offChk (n : Net) (o : Off) : Int :=
  if n.chk ≠ 0 then n.chk else if o.comp < 0 ∨ 7 < o.comp ∨ o.time < 0 ∨ 16777216 < o.time ∨ o.last < 0 ∨ 65536 < o.last then 5 else if evidE n o ≠ 0 then evidE n o else if thingsE o ≠ 0 then thingsE o else if allChk n o.docs ≠ 0 then allChk n o.docs else if certsB n o.certs = false then 50 else if ordsB o.ords = false then 51 else if countedB o = false then 48 else 0
def ownL (n : Net) (c : Int) (l : List Lk) : List Lk := l.filter fun k => decide (compOf n k = c)
def ownE (n : Net) (c : Int) (l : List Lk) : Int := if lockChk n l ≠ 0 then lockChk n l else if c < 0 ∨ 7 < c then 5 else 0
def ownR (n : Net) (c : Int) (l : List Lk) : List Lk × Int := if ownE n c l ≠ 0 then ([], ownE n c l) else (ownL n c l, 0)
def forceB (o : Off) (k : Int) (c : Cert) : Bool := decide (c.num = k ∧ c.asker = o.comp ∧ c.state = 3)
def inForce (o : Off) (k : Int) : Option Cert := o.certs.find? (forceB o k)
def givenL (o : Off) (l : List Int) : List Lk := l.flatMap fun k => ((inForce o k).getD .zero).locks
def coveredB (n : Net) (o : Off) (d : Doc) : Bool := d.certs.all (fun k => (inForce o k).isSome) && !(d.locks.any fun k => decide (compOf n k ≠ o.comp) && !decide (k ∈ givenL o d.certs))
noncomputable def coveredE (n : Net) (o : Off) (d : Doc) : Int := if offChk n o ≠ 0 then offChk n o else docChk n d
noncomputable def coveredR (n : Net) (o : Off) (d : Doc) : Bool × Int := if coveredE n o d ≠ 0 then (false, coveredE n o d) else (coveredB n o d, 0)
def stowKey (o : Off) (d : Doc) (k : Lk) : Bool := match findRow o.keys k.key with
  | some r => decide (r.kind = 3 ∧ r.idx = d.safe ∧ r.name = emptyS) && decide (inSafe o.safes k.key = d.safe)
  | none => false
def stowedB (o : Off) (d : Doc) (k : Lk) : Bool := stowKey o d k || decide (placeOf o.ports k.key = some k.dev)
def skillOf (k : Int) : Int := if k = 2 then 16 else 8
noncomputable def noB (n : Net) (r : List Pers) (o : Off) (d : Doc) : Nat → Bool
  | 1 => !canB r d.iss 4 o.time || foreignB r d.iss o.comp
  | 2 => !canB r d.hol (skillOf d.kind) o.time
  | 3 => decide (o.time < d.frm ∨ d.til ≤ o.time)
  | 4 => (ownL n o.comp d.locks).any fun k => !decide (k ∈ o.locks)
  | 5 => (ownL n o.comp d.locks).any fun k => !stowedB o d k
  | 6 => !enoughB n d.zone (gapsOf n d.locks) && decide (d.kind ≠ 3)
  | 7 => !(sidesR n d.locks d.zone).1 && decide (d.kind = 1)
  | 8 => !coveredB n o d
  | 9 => decide (0 < (clashL n o.docs d).length)
  | _ => false
noncomputable def reasL (n : Net) (r : List Pers) (o : Off) (d : Doc) : List Int := ((List.range 9).filter fun k => noB n r o d (k + 1)).map fun k : Nat => (k : Int) + 1
noncomputable def reasE (n : Net) (r : List Pers) (o : Off) (d : Doc) : Int := if offChk n o ≠ 0 then offChk n o else if regChk r ≠ 0 then regChk r else docChk n d
noncomputable def reasR (n : Net) (r : List Pers) (o : Off) (d : Doc) : List Int × Int := if reasE n r o d ≠ 0 then ([], reasE n r o d) else (reasL n r o d, 0)

theorem allTo_true {f : Nat → Bool} : ∀ {n : Nat}, allTo f n = true ↔ ∀ j, j < n → f j = true
  | 0 => by simp [allTo]
  | n + 1 => by
    rw [allTo, Bool.and_eq_true, allTo_true]
    constructor
    · rintro ⟨h1, h2⟩ j hj
      rcases Nat.lt_succ_iff_lt_or_eq.1 hj with h3 | rfl
      · exact h1 j h3
      · exact h2
    · exact fun h => ⟨fun j hj => h j (by omega), h n (by omega)⟩
theorem allTo_hit {f : Nat → Bool} {n i : Nat} (hi : i < n) (h : f i = false) : allTo f n = false := by
  rw [← Bool.not_eq_true]
  exact fun h2 => by rw [allTo_true.1 h2 i hi] at h; cases h
end Go.Proofs.YtmfgaefefgnhbaaGreatDoor.Abs
