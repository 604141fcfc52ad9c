/-
  Texts of mine, packed: Pars, XP, Blk, Shape, Drawn, Ring, DrawM, Reg, Rely, Ty. No condition beside those of the single theorems.
-/
import Derived.Test.YtfbonocadpknbaaGreatDoorC1
import Derived.Lib.Atoi
import Derived.Deep.QuietTactic
import Derived.BigQuiet
import Derived.IntWalk
import Derived.StillTail
import Derived.Laws.AppendOwn
import Derived.Laws.AppendOwnNone
set_option linter.unusedSimpArgs false
set_option linter.unusedVariables false
set_option maxHeartbeats 16000000
set_option maxRecDepth 100000
namespace Go.Proofs.YtfbonocadpknbaaGreatDoor
open Go.RowKit
def by' (s : ByteArray) : List UInt8 := s.data.toList
def isW (s : ByteArray) (l : List UInt8) : Bool := by' s == l

def wordsGo : List UInt8 → List UInt8 → List (List UInt8)
 | cur, [] => [cur]
 | cur, c :: r => if c = 32 then cur :: wordsGo [] r else wordsGo (cur ++ [c]) r
def words (s : ByteArray) : List ByteArray := (wordsGo [] (by' s)).map tx

def isDig (c : UInt8) : Bool := decide (48 ≤ c.toNat) && decide (c.toNat ≤ 57)
def digVal (c : UInt8) : Int := (c.toNat : Int) - 48
def numGo : Int → List UInt8 → Option Int
 | n, [] => some n
 | n, c :: r => if isDig c then numGo (n * 10 + digVal c) r else none
def plainGo : Nat → Nat → List UInt8 → List UInt8
 | 0, _, out => out
 | f + 1, n, out => if n ≤ 9 then UInt8.ofNat (48 + n) :: out else plainGo f (n / 10) (UInt8.ofNat (48 + n % 10) :: out)
def plainText (n : Nat) : List UInt8 := plainGo 4 n []
def numText (n : Int) : List UInt8 := if n < 0 then 45 :: plainText (-n).toNat else plainText n.toNat
def isNeg (l : List UInt8) : Bool := match l with | c :: _ => c == 45 | [] => false
def numBody (l : List UInt8) : List UInt8 := if isNeg l then l.tail else l
def readNum (s : ByteArray) : Int × Bool :=
 if (numBody (by' s)).length = 0 ∨ 4 < (numBody (by' s)).length then (0, false)
 else match numGo 0 (numBody (by' s)) with
  | none => (0, false)
  | some n => (if isNeg (by' s) then -n else n, numText (if isNeg (by' s) then -n else n) == by' s)

def insText (i : DClsIns) : List UInt8 :=
 if insOkD i then
  (if isNumOp i.fOp then opText i.fOp ++ ([32] ++ numText i.fA)
  else if isClsOp i.fOp then opText i.fOp ++ ([32] ++ by' i.fName)
  else if isMemOp i.fOp then opText i.fOp ++ ([32] ++ by' i.fName ++ [32] ++ by' i.fMember)
  else opText i.fOp)
 else []
def nilIns : DClsIns := ⟨0, 0, ⟨#[]⟩, ⟨#[]⟩⟩
def insOf (op : Int) (ws : List ByteArray) : DClsIns :=
 let n := readNum (ws.getD 1 ⟨#[]⟩)
 ⟨op, if 1 < ws.length then (if n.2 then n.1 else 0) else 0, if 1 < ws.length then (if n.2 then ⟨#[]⟩ else ws.getD 1 ⟨#[]⟩) else ⟨#[]⟩, ws.getD 2 ⟨#[]⟩⟩
def insTry (op : Int) (s : ByteArray) : DClsIns × Bool :=
 if 30 < s.size ∨ insText (insOf op (words s)) ≠ by' s then (nilIns, false) else (insOf op (words s), true)
def insGo (s : ByteArray) : Nat → Nat → DClsIns × Bool
 | 0, _ => (nilIns, false)
 | f + 1, op => if isW ((words s).getD 0 ⟨#[]⟩) (opText op) then insTry op s else insGo s f (op + 1)
def insRead (s : ByteArray) : DClsIns × Bool := insGo s 15 1

def nilKnd : DKndKind := ⟨0, ⟨#[]⟩⟩
def kndRead (s : ByteArray) : DKndKind × Bool := if isW s [35] then (⟨1, ⟨#[]⟩⟩, true) else if namOk s then (⟨2, s⟩, true) else (nilKnd, false)
def tagRead (s : ByteArray) : DTagTag × Bool := if isW s [63] then (⟨0, ⟨#[]⟩⟩, true) else if isW s [35] then (⟨1, ⟨#[]⟩⟩, true) else if isW s [33] then (⟨3, ⟨#[]⟩⟩, true) else (⟨2, s⟩, namOk s)

def nilAsk : DLodAsk := ⟨⟨#[]⟩, 0⟩
def askRead (ws : List ByteArray) : DLodAsk × Bool :=
 match ws with
 | [_, a, b] => (⟨a, (readNum b).1⟩, (readNum b).2 && decide (0 ≤ (readNum b).1) && namOk a)
 | _ => (nilAsk, false)
def nilCls : DClsClass := ⟨⟨#[]⟩, ⟨#[]⟩, [], []⟩
def clsRead (ws : List ByteArray) : DClsClass × Bool :=
 match ws with
 | [_, a, b] => if namOk a && (isW b [45] || namOk b) then (⟨a, if isW b [45] then ⟨#[]⟩ else b, [], []⟩, true) else (nilCls, false)
 | _ => (nilCls, false)
def nilFld : DClsField := ⟨⟨#[]⟩, nilKnd⟩
def fldRead (ws : List ByteArray) : DClsField × Bool :=
 match ws with
 | [_, a, b] => if namOk a then (⟨a, (kndRead b).1⟩, (kndRead b).2) else (nilFld, false)
 | _ => (nilFld, false)
def nilMth : DClsMethod := ⟨⟨#[]⟩, [], nilKnd, 0, 0, [], []⟩
def kndsRead : List ByteArray → Option (List DKndKind)
 | [] => some []
 | s :: r => if (kndRead s).2 then (kndsRead r).map ((kndRead s).1 :: ·) else none
def mthRead (ws : List ByteArray) : DClsMethod × Bool :=
 match ws with
 | _ :: nm :: lo :: st :: rt :: ag =>
   if decide (ag.length ≤ 3) && namOk nm then
    match kndsRead ag with
    | none => (nilMth, false)
    | some ks => (⟨nm, ks, (kndRead rt).1, (readNum lo).1, (readNum st).1, [], []⟩, (readNum lo).2 && (readNum st).2 && (kndRead rt).2 && decide (0 ≤ (readNum lo).1) && decide (0 ≤ (readNum st).1))
   else (nilMth, false)
 | _ => (nilMth, false)
def nilMap : DClsMap := ⟨0, [], []⟩
def mapGo : Bool → List DTagTag → List DTagTag → List ByteArray → Option (Bool × List DTagTag × List DTagTag)
 | bh, lo, st, [] => some (bh, lo, st)
 | bh, lo, st, s :: r =>
   if isW s [47] && !bh then mapGo true lo st r
   else if (tagRead s).2 then (if bh then mapGo bh lo (st ++ [(tagRead s).1]) r else mapGo bh (lo ++ [(tagRead s).1]) st r)
   else none
def mapRead (ws : List ByteArray) : DClsMap × Bool :=
 match ws with
 | _ :: a :: r =>
   if decide (1 ≤ r.length) && decide (r.length ≤ 13) then
    match mapGo false [] [] r with
    | none => (nilMap, false)
    | some (bh, lo, st) => (⟨(readNum a).1, lo, st⟩, (readNum a).2 && bh && decide (0 ≤ (readNum a).1))
   else (nilMap, false)
 | _ => (nilMap, false)

def tField : List UInt8 := [102, 105, 101, 108, 100]
def tMethod : List UInt8 := [109, 101, 116, 104, 111, 100]
def tFrame : List UInt8 := [102, 114, 97, 109, 101]
def tKeeper : List UInt8 := [107, 101, 101, 112, 101, 114]
def tAsks : List UInt8 := [97, 115, 107, 115]
def tClass : List UInt8 := [99, 108, 97, 115, 115]
def inner (c : DClsClass) (line : ByteArray) : DClsClass × Bool :=
 let w0 := (words line).getD 0 ⟨#[]⟩
 if isW w0 tField then ({ c with fFields := c.fFields ++ [(fldRead (words line)).1] }, (fldRead (words line)).2 && decide (c.fMethods.length = 0))
 else if isW w0 tMethod then ({ c with fMethods := c.fMethods ++ [(mthRead (words line)).1] }, (mthRead (words line)).2)
 else match c.fMethods.getLast? with
  | none => (c, false)
  | some m =>
    if isW w0 tFrame then ({ c with fMethods := c.fMethods.dropLast ++ [{ m with fMaps := m.fMaps ++ [(mapRead (words line)).1] }] }, (mapRead (words line)).2 && decide (m.fCode.length = 0))
    else ({ c with fMethods := c.fMethods.dropLast ++ [{ m with fCode := m.fCode ++ [(insRead line).1] }] }, (insRead line).2)
def lastLine (k : DLodKeeper) (line : ByteArray) : Option (DLodKeeper × Bool) :=
 let w0 := (words line).getD 0 ⟨#[]⟩
 if isW w0 tAsks then some ({ k with fAsks := k.fAsks ++ [(askRead (words line)).1] }, (askRead (words line)).2 && decide (k.fOwns.length = 0))
 else if isW w0 tClass then some ({ k with fOwns := k.fOwns ++ [(clsRead (words line)).1] }, (clsRead (words line)).2)
 else match k.fOwns.getLast? with
  | none => none
  | some c => some ({ k with fOwns := k.fOwns.dropLast ++ [(inner c line).1] }, (inner c line).2)
def lineR (p : DLodPlan) (line : ByteArray) : DLodPlan × Bool :=
 if isW line tKeeper then (⟨p.fKeepers ++ [⟨[], []⟩]⟩, decide (p.fKeepers.length < 3))
 else match p.fKeepers.getLast? with
  | none => (p, false)
  | some k => match lastLine k line with
    | none => (p, false)
    | some (k', ok) => (⟨p.fKeepers.dropLast ++ [k']⟩, ok)

def parseGo : Nat → DLodPlan → List ByteArray → DLodPlan × Int
 | k, p, [] => if lodOk p then (p, 0) else (⟨[]⟩, (k : Int) + 1)
 | k, p, l :: r => if (lineR p l).2 then parseGo (k + 1) (lineR p l).1 r else (⟨[]⟩, (k : Int) + 1)
def lodParse (ls : List ByteArray) : DLodPlan × Int := if 400 < ls.length then (⟨[]⟩, 401) else parseGo 0 ⟨[]⟩ ls

theorem plainText_dec {n : Nat} (h : n ≤ 9999) : plainText n = Lib.decDigits n := by
 have small : ∀ m : Nat, m ≤ 9 → Lib.decDigits m = [UInt8.ofNat (48 + m)] := fun m hm => by rw [Lib.decDigits, dif_pos (by omega)]
 have big : ∀ m : Nat, ¬ m ≤ 9 → Lib.decDigits m = Lib.decDigits (m / 10) ++ [UInt8.ofNat (48 + m % 10)] := fun m hm => by
  rw [Lib.decDigits, dif_neg (by omega)]
 unfold plainText
 by_cases h1 : n ≤ 9
 ·rw [plainGo, if_pos h1, small n h1]
 rw [plainGo, if_neg h1, big n h1]
 by_cases h2 : n / 10 ≤ 9
 ·rw [plainGo, if_pos h2, small _ h2]; rfl
 rw [plainGo, if_neg h2, big _ h2]
 by_cases h3 : n / 10 / 10 ≤ 9
 ·rw [plainGo, if_pos h3, small _ h3]; rfl
 rw [plainGo, if_neg h3, big _ h3]
 have h4 : n / 10 / 10 / 10 ≤ 9 := by omega
 rw [plainGo, if_pos h4, small _ h4]; rfl
theorem numText_itoa {n : Int} (h : -9999 ≤ n ∧ n ≤ 9999) : numText n = Lib.itoa n := by
 unfold numText Lib.itoa
 by_cases h0 : n < 0
 ·rw [if_pos h0, if_pos h0, plainText_dec (by omega)]
  congr 1
  rw [show (-n).toNat = n.natAbs by omega]
 ·rw [if_neg h0, if_neg h0, plainText_dec (by omega)]
theorem insText_txt (i : DClsIns) : insText i = insTxt i.fOp i.fA i.fName i.fMember := by
 unfold insText insTxt
 show (if insOkD i then _ else _) = _
 unfold insOkD
 by_cases hok : insOk i.fOp i.fA i.fName i.fMember = true
 ·rw [if_pos hok, if_pos hok]
  by_cases h1 : isNumOp i.fOp = true
  ·rw [if_pos h1, if_pos h1, numText_itoa ((insOk_parts hok).2.2.2 h1)]
  ·rw [if_neg h1, if_neg h1]; rfl
 ·rw [if_neg hok, if_neg hok]

def blkL : Nat → List (List UInt8)
 | 0 => [[99, 108, 97, 115, 115, 32, 116, 111, 112, 32, 45], [102, 105, 101, 108, 100, 32, 118, 32, 35], [109, 101, 116, 104, 111, 100, 32, 103, 101, 116, 32, 49, 32, 49, 32, 35], [116, 97, 107, 101, 32, 48], [103, 101, 116, 32, 116, 111, 112, 32, 118], [114, 101, 116], [109, 101, 116, 104, 111, 100, 32, 98, 117, 109, 112, 32, 50, 32, 51, 32, 35, 32, 35], [116, 97, 107, 101, 32, 48], [116, 97, 107, 101, 32, 48], [103, 101, 116, 32, 116, 111, 112, 32, 118], [116, 97, 107, 101, 32, 49], [97, 100, 100], [115, 101, 116, 32, 116, 111, 112, 32, 118], [116, 97, 107, 101, 32, 48], [103, 101, 116, 32, 116, 111, 112, 32, 118], [114, 101, 116]]
 | 1 => [[99, 108, 97, 115, 115, 32, 99, 101, 108, 108, 32, 116, 111, 112], [102, 105, 101, 108, 100, 32, 110, 101, 120, 116, 32, 116, 111, 112], [109, 101, 116, 104, 111, 100, 32, 103, 101, 116, 32, 49, 32, 50, 32, 35], [102, 114, 97, 109, 101, 32, 55, 32, 99, 101, 108, 108, 32, 47], [116, 97, 107, 101, 32, 48], [103, 101, 116, 32, 99, 101, 108, 108, 32, 110, 101, 120, 116], [110, 105, 108, 32, 55], [116, 97, 107, 101, 32, 48], [103, 101, 116, 32, 99, 101, 108, 108, 32, 110, 101, 120, 116], [99, 97, 108, 108, 32, 116, 111, 112, 32, 103, 101, 116], [114, 101, 116], [110, 117, 109, 32, 45, 49], [114, 101, 116], [109, 101, 116, 104, 111, 100, 32, 108, 105, 110, 107, 32, 50, 32, 50, 32, 35, 32, 116, 111, 112], [116, 97, 107, 101, 32, 48], [116, 97, 107, 101, 32, 49], [115, 101, 116, 32, 99, 101, 108, 108, 32, 110, 101, 120, 116], [110, 117, 109, 32, 49], [114, 101, 116]]
 | 2 => [[99, 108, 97, 115, 115, 32, 109, 97, 105, 110, 32, 45], [109, 101, 116, 104, 111, 100, 32, 114, 117, 110, 32, 51, 32, 52, 32, 35, 32, 35], [110, 101, 119, 32, 116, 111, 112], [112, 117, 116, 32, 50], [116, 97, 107, 101, 32, 50], [116, 97, 107, 101, 32, 49], [99, 97, 108, 108, 32, 116, 111, 112, 32, 98, 117, 109, 112], [111, 117, 116], [116, 97, 107, 101, 32, 50], [99, 97, 108, 108, 32, 116, 111, 112, 32, 103, 101, 116], [114, 101, 116], [109, 101, 116, 104, 111, 100, 32, 115, 117, 109, 32, 51, 32, 51, 32, 35, 32, 35], [102, 114, 97, 109, 101, 32, 50, 32, 109, 97, 105, 110, 32, 35, 32, 35, 32, 47], [102, 114, 97, 109, 101, 32, 49, 51, 32, 109, 97, 105, 110, 32, 35, 32, 35, 32, 47], [110, 117, 109, 32, 48], [112, 117, 116, 32, 50], [116, 97, 107, 101, 32, 49], [122, 101, 114, 111, 32, 49, 51], [116, 97, 107, 101, 32, 50], [116, 97, 107, 101, 32, 49], [97, 100, 100], [112, 117, 116, 32, 50], [116, 97, 107, 101, 32, 49], [110, 117, 109, 32, 45, 49], [97, 100, 100], [112, 117, 116, 32, 49], [103, 111, 32, 50], [116, 97, 107, 101, 32, 50], [114, 101, 116]]
 | 3 => [[99, 108, 97, 115, 115, 32, 109, 97, 105, 110, 32, 45], [109, 101, 116, 104, 111, 100, 32, 114, 117, 110, 32, 52, 32, 51, 32, 35, 32, 35], [110, 101, 119, 32, 99, 101, 108, 108], [112, 117, 116, 32, 50], [110, 101, 119, 32, 116, 111, 112], [112, 117, 116, 32, 51], [116, 97, 107, 101, 32, 51], [116, 97, 107, 101, 32, 49], [99, 97, 108, 108, 32, 116, 111, 112, 32, 98, 117, 109, 112], [111, 117, 116], [116, 97, 107, 101, 32, 50], [116, 97, 107, 101, 32, 51], [99, 97, 108, 108, 32, 99, 101, 108, 108, 32, 108, 105, 110, 107], [111, 117, 116], [116, 97, 107, 101, 32, 50], [99, 97, 108, 108, 32, 116, 111, 112, 32, 103, 101, 116], [114, 101, 116], [109, 101, 116, 104, 111, 100, 32, 99, 97, 115, 116, 32, 50, 32, 50, 32, 35, 32, 35], [110, 101, 119, 32, 116, 111, 112], [99, 97, 115, 116, 32, 99, 101, 108, 108], [99, 97, 108, 108, 32, 99, 101, 108, 108, 32, 103, 101, 116], [114, 101, 116]]
 | 4 => [[99, 108, 97, 115, 115, 32, 109, 97, 105, 110, 32, 45], [102, 105, 101, 108, 100, 32, 119, 32, 109, 97, 105, 110], [109, 101, 116, 104, 111, 100, 32, 114, 117, 110, 32, 50, 32, 51, 32, 35, 32, 35], [102, 114, 97, 109, 101, 32, 55, 32, 109, 97, 105, 110, 32, 35, 32, 47], [116, 97, 107, 101, 32, 49], [122, 101, 114, 111, 32, 55], [116, 97, 107, 101, 32, 48], [116, 97, 107, 101, 32, 49], [110, 117, 109, 32, 45, 49], [97, 100, 100], [99, 97, 108, 108, 32, 109, 97, 105, 110, 32, 114, 117, 110], [116, 97, 107, 101, 32, 49], [114, 101, 116]]
 | 5 => [[99, 108, 97, 115, 115, 32, 109, 97, 105, 110, 32, 116, 111, 112], [109, 101, 116, 104, 111, 100, 32, 114, 117, 110, 32, 51, 32, 51, 32, 35, 32, 35], [110, 117, 108, 108], [112, 117, 116, 32, 50], [116, 97, 107, 101, 32, 50], [99, 97, 108, 108, 32, 99, 101, 108, 108, 32, 103, 101, 116], [114, 101, 116], [109, 101, 116, 104, 111, 100, 32, 103, 101, 116, 32, 49, 32, 50, 32, 35], [110, 117, 109, 32, 53], [114, 101, 116]]
 | 6 => [[99, 108, 97, 115, 115, 32, 109, 97, 105, 110, 32, 45], [102, 105, 101, 108, 100, 32, 119, 32, 99, 101, 108, 108], [109, 101, 116, 104, 111, 100, 32, 114, 117, 110, 32, 50, 32, 51, 32, 35, 32, 35], [116, 97, 107, 101, 32, 48], [110, 101, 119, 32, 99, 101, 108, 108], [115, 101, 116, 32, 109, 97, 105, 110, 32, 119], [116, 97, 107, 101, 32, 48], [103, 101, 116, 32, 109, 97, 105, 110, 32, 119], [99, 97, 108, 108, 32, 116, 111, 112, 32, 103, 101, 116], [111, 117, 116], [110, 117, 109, 32, 48], [114, 101, 116]]
 | 7 => [[99, 108, 97, 115, 115, 32, 116, 111, 112, 32, 45], [102, 105, 101, 108, 100, 32, 118, 32, 116, 111, 112], [109, 101, 116, 104, 111, 100, 32, 103, 101, 116, 32, 49, 32, 49, 32, 35], [110, 117, 109, 32, 56], [114, 101, 116]]
 | 8 => [[99, 108, 97, 115, 115, 32, 99, 101, 108, 108, 32, 116, 111, 112], [109, 101, 116, 104, 111, 100, 32, 103, 101, 116, 32, 50, 32, 49, 32, 35, 32, 35], [110, 117, 109, 32, 51], [114, 101, 116]]
 | 9 => [[99, 108, 97, 115, 115, 32, 109, 97, 105, 110, 32, 45], [109, 101, 116, 104, 111, 100, 32, 114, 117, 110, 32, 50, 32, 50, 32, 35, 32, 35], [116, 97, 107, 101, 32, 49], [99, 97, 108, 108, 32, 109, 97, 105, 110, 32, 114, 117, 110], [114, 101, 116]]
 | 10 => [[99, 108, 97, 115, 115, 32, 109, 97, 105, 110, 32, 45], [109, 101, 116, 104, 111, 100, 32, 114, 117, 110, 32, 50, 32, 50, 32, 35, 32, 35], [116, 97, 107, 101, 32, 48], [111, 117, 116], [110, 117, 109, 32, 49], [114, 101, 116]]
 | _ => []
def blk (i : Nat) : List ByteArray := (blkL i).map tx

def innerLine (l : ByteArray) : Bool := !isW l tKeeper && !isW ((words l).getD 0 ⟨#[]⟩) tAsks && !isW ((words l).getD 0 ⟨#[]⟩) tClass
def innerGo : DClsClass → List ByteArray → Option DClsClass
 | c, [] => some c
 | c, l :: r => if innerLine l && (inner c l).2 then innerGo (inner c l).1 r else none
def blkCls (ls : List ByteArray) : Option DClsClass :=
 match ls with
 | [] => none
 | l :: r => if !isW l tKeeper && !isW ((words l).getD 0 ⟨#[]⟩) tAsks && isW ((words l).getD 0 ⟨#[]⟩) tClass && (clsRead (words l)).2 then innerGo (clsRead (words l)).1 r else none
def blkFine (i : Nat) (nm : List UInt8) : Bool := match blkCls (blk i) with | some c => clsOk c && by' c.fName == nm | none => false

theorem blkFine_0 : blkFine 0 [116, 111, 112] = true := by decide +kernel
theorem blkFine_1 : blkFine 1 [99, 101, 108, 108] = true := by decide +kernel
theorem blkFine_2 : blkFine 2 [109, 97, 105, 110] = true := by decide +kernel
theorem blkFine_3 : blkFine 3 [109, 97, 105, 110] = true := by decide +kernel
theorem blkFine_4 : blkFine 4 [109, 97, 105, 110] = true := by decide +kernel
theorem blkFine_5 : blkFine 5 [109, 97, 105, 110] = true := by decide +kernel
theorem blkFine_6 : blkFine 6 [109, 97, 105, 110] = true := by decide +kernel
theorem blkFine_7 : blkFine 7 [116, 111, 112] = true := by decide +kernel
theorem blkFine_8 : blkFine 8 [99, 101, 108, 108] = true := by decide +kernel
theorem blkFine_9 : blkFine 9 [109, 97, 105, 110] = true := by decide +kernel
theorem blkFine_10 : blkFine 10 [109, 97, 105, 110] = true := by decide +kernel

def tkp : ByteArray := tx tKeeper
theorem parseGo_step {k : Nat} {p q : DLodPlan} {l : ByteArray} {r : List ByteArray} (h : lineR p l = (q, true)) : parseGo k p (l :: r) = parseGo (k + 1) q r := by
 simp [parseGo, h]
theorem lineR_keeper (K : List DLodKeeper) (h : K.length < 3) : lineR ⟨K⟩ tkp = (⟨K ++ [⟨[], []⟩]⟩, true) := by
 unfold lineR
 rw [if_pos (show isW tkp tKeeper = true by decide)]
 simp [h]
theorem lineR_last {K : List DLodKeeper} {k k' : DLodKeeper} {l : ByteArray} {ok : Bool} (h : isW l tKeeper = false) (e : lastLine k l = some (k', ok)) : lineR ⟨K ++ [k]⟩ l = (⟨K ++ [k']⟩, ok) := by
 unfold lineR
 rw [if_neg (by rw [h]; decide)]
 simp [e]
theorem lastLine_blk {owns : List DClsClass} {asks : List DLodAsk} {c : DClsClass} {l : ByteArray} (h : innerLine l = true) : lastLine ⟨owns ++ [c], asks⟩ l = some (⟨owns ++ [(inner c l).1], asks⟩, (inner c l).2) := by
 unfold innerLine at h
 simp only [Bool.and_eq_true, Bool.not_eq_true'] at h
 unfold lastLine
 show (if isW ((words l).getD 0 ⟨#[]⟩) tAsks = true then _ else _) = _
 rw [if_neg (by rw [h.1.2]; decide), if_neg (by rw [h.2]; decide)]
 simp
theorem innerGo_run {K : List DLodKeeper} {owns : List DClsClass} {asks : List DLodAsk} {rest : List ByteArray} : ∀ {ls : List ByteArray} {c c' : DClsClass} {k : Nat}, innerGo c ls = some c' → parseGo k ⟨K ++ [⟨owns ++ [c], asks⟩]⟩ (ls ++ rest) = parseGo (k + ls.length) ⟨K ++ [⟨owns ++ [c'], asks⟩]⟩ rest
 | [], c, c', k, h => by
   simp [innerGo] at h; subst h; simp
 | l :: r, c, c', k, h => by
   unfold innerGo at h
   by_cases h1 : (innerLine l && (inner c l).2) = true
   ·rw [if_pos h1] at h
    simp only [Bool.and_eq_true] at h1
    have hl : isW l tKeeper = false := by
     have := h1.1
     unfold innerLine at this
     simp only [Bool.and_eq_true, Bool.not_eq_true'] at this
     exact this.1.1
    have e1 := lineR_last (K := K) hl (lastLine_blk (owns := owns) (asks := asks) (c := c) h1.1)
    rw [h1.2] at e1
    rw [List.cons_append, parseGo_step e1, innerGo_run h, List.length_cons]
    congr 1
    omega
   ·rw [if_neg h1] at h; cases h
theorem blk_run {K : List DLodKeeper} {owns : List DClsClass} {asks : List DLodAsk} {rest : List ByteArray} {ls : List ByteArray} {c : DClsClass} {k : Nat} (h : blkCls ls = some c) : parseGo k ⟨K ++ [⟨owns, asks⟩]⟩ (ls ++ rest) = parseGo (k + ls.length) ⟨K ++ [⟨owns ++ [c], asks⟩]⟩ rest := by
 cases ls with
 | nil => cases h
 | cons l r =>
   unfold blkCls at h
   simp only at h
   split at h
   ·rename_i h1
    simp only [Bool.and_eq_true, Bool.not_eq_true'] at h1
    obtain ⟨⟨⟨h1, h2⟩, h3⟩, h4⟩ := h1
    have e1 : lastLine ⟨owns, asks⟩ l = some (⟨owns ++ [(clsRead (words l)).1], asks⟩, true) := by
     unfold lastLine
     show (if isW ((words l).getD 0 ⟨#[]⟩) tAsks = true then _ else _) = _
     rw [if_neg (by rw [h2]; decide), if_pos h3, h4]
    rw [List.cons_append, parseGo_step (lineR_last h1 e1), innerGo_run h, List.length_cons]
    congr 1
    omega
   ·cases h
theorem ask_run {K : List DLodKeeper} {asks : List DLodAsk} {rest : List ByteArray} {l : ByteArray} {a : DLodAsk} {k : Nat} (h1 : isW l tKeeper = false) (h2 : isW ((words l).getD 0 ⟨#[]⟩) tAsks = true) (h : askRead (words l) = (a, true)) : parseGo k ⟨K ++ [⟨[], asks⟩]⟩ (l :: rest) = parseGo (k + 1) ⟨K ++ [⟨[], asks ++ [a]⟩]⟩ rest := by
 have e1 : lastLine ⟨[], asks⟩ l = some (⟨[], asks ++ [a]⟩, true) := by
  unfold lastLine
  show (if isW ((words l).getD 0 ⟨#[]⟩) tAsks = true then _ else _) = _
  rw [if_pos h2, h]
  rfl
 exact parseGo_step (lineR_last h1 e1)
theorem keeper_run {K : List DLodKeeper} {rest : List ByteArray} {k : Nat} (h : K.length < 3) : parseGo k ⟨K⟩ (tkp :: rest) = parseGo (k + 1) ⟨K ++ [⟨[], []⟩]⟩ rest := parseGo_step (lineR_keeper K h)

def nTop : List UInt8 := [116, 111, 112]
def nCell : List UInt8 := [99, 101, 108, 108]
def nMain : List UInt8 := [109, 97, 105, 110]
def aTop1 : ByteArray := tx [97, 115, 107, 115, 32, 116, 111, 112, 32, 49]
def aCell1 : ByteArray := tx [97, 115, 107, 115, 32, 99, 101, 108, 108, 32, 49]
def aTop2 : ByteArray := tx [97, 115, 107, 115, 32, 116, 111, 112, 32, 50]
def aTop0 : ByteArray := tx [97, 115, 107, 115, 32, 116, 111, 112, 32, 48]
def aNone0 : ByteArray := tx [97, 115, 107, 115, 32, 110, 111, 110, 101, 32, 48]

theorem blk_cls {i : Nat} {nm : List UInt8} (h : blkFine i nm = true) : ∃ c, blkCls (blk i) = some c ∧ clsOk c = true ∧ c.fName = tx nm := by
 unfold blkFine at h
 split at h
 ·rename_i c hc
  simp only [Bool.and_eq_true, beq_iff_eq] at h
  exact ⟨c, hc, h.1, by rw [← h.2]; exact (tx_by c.fName).symm⟩
 ·cases h

def IsTop (i : Nat) : Prop := i = 0 ∨ i = 7
def IsCell (i : Nat) : Prop := i = 1 ∨ i = 8
def IsMain (i : Nat) : Prop := i = 2 ∨ i = 3 ∨ i = 4 ∨ i = 5 ∨ i = 6 ∨ i = 9 ∨ i = 10
theorem top_cls {i : Nat} (h : IsTop i) : ∃ c, blkCls (blk i) = some c ∧ clsOk c = true ∧ c.fName = tx nTop := by
 rcases h with rfl | rfl
 ·exact blk_cls blkFine_0
 ·exact blk_cls blkFine_7
theorem cell_cls {i : Nat} (h : IsCell i) : ∃ c, blkCls (blk i) = some c ∧ clsOk c = true ∧ c.fName = tx nCell := by
 rcases h with rfl | rfl
 ·exact blk_cls blkFine_1
 ·exact blk_cls blkFine_8
theorem main_cls {i : Nat} (h : IsMain i) : ∃ c, blkCls (blk i) = some c ∧ clsOk c = true ∧ c.fName = tx nMain := by
 rcases h with rfl | rfl | rfl | rfl | rfl | rfl | rfl
 ·exact blk_cls blkFine_2
 ·exact blk_cls blkFine_3
 ·exact blk_cls blkFine_4
 ·exact blk_cls blkFine_5
 ·exact blk_cls blkFine_6
 ·exact blk_cls blkFine_9
 ·exact blk_cls blkFine_10

inductive Drawn : List ByteArray → Prop
 | one (t c m : Nat) (ht : IsTop t) (hc : IsCell c) (hm : IsMain m) : Drawn ((([tkp] ++ blk t) ++ blk c) ++ blk m)
 | two (t c m : Nat) (ht : IsTop t) (hc : IsCell c) (hm : IsMain m) : Drawn ((((([tkp] ++ [aTop1, aCell1]) ++ blk m) ++ [tkp]) ++ blk t) ++ blk c)
 | three (t c m u : Nat) (ht : IsTop t) (hc : IsCell c) (hm : IsMain m) (hu : IsTop u) : Drawn (((((([tkp] ++ [aCell1]) ++ blk u) ++ blk m) ++ [tkp]) ++ blk t) ++ blk c)
 | four (t c m : Nat) (ht : IsTop t) (hc : IsCell c) (hm : IsMain m) : Drawn ((((((([tkp] ++ [aCell1, aTop2]) ++ blk m) ++ [tkp, aTop2]) ++ blk c) ++ [tkp]) ++ blk t))
 | five (t c m : Nat) (x : ByteArray) (ht : IsTop t) (hc : IsCell c) (hm : IsMain m) (hx : x = aTop0 ∨ x = aCell1 ∨ x = aNone0) : Drawn ((((([tkp] ++ [aTop1, aCell1]) ++ blk m) ++ [tkp, x]) ++ blk t) ++ blk c)

theorem qaf (i : Nat) : (blk i).length ≤ 40 := by
 unfold blk
 rw [List.length_map]
 match i with
 | 0 => decide
 | 1 => decide
 | 2 => decide
 | 3 => decide
 | 4 => decide
 | 5 => decide
 | 6 => decide
 | 7 => decide
 | 8 => decide
 | 9 => decide
 | 10 => decide
 | n + 11 => exact Nat.zero_le _
theorem Drawn.all {P : ByteArray → Prop} (hk : P tkp) (h1 : P aTop1) (h2 : P aCell1) (h3 : P aTop2) (h4 : P aTop0) (h5 : P aNone0) (hb : ∀ i, ∀ l ∈ blk i, P l) {ls : List ByteArray} (h : Drawn ls) : ∀ l ∈ ls, P l := by
 intro l hl
 cases h with
 | one t c m ht hc hm =>
   simp only [List.mem_append, List.mem_singleton, List.mem_cons, List.not_mem_nil, or_false] at hl
   rcases hl with ((rfl | h) | h) | h
   all_goals first | exact hk | exact hb _ _ h
 | two t c m ht hc hm =>
   simp only [List.mem_append, List.mem_singleton, List.mem_cons, List.not_mem_nil, or_false] at hl
   rcases hl with ((((rfl | rfl | rfl) | h) | rfl) | h) | h
   all_goals first | exact hk | exact h1 | exact h2 | exact hb _ _ h
 | three t c m u ht hc hm hu =>
   simp only [List.mem_append, List.mem_singleton, List.mem_cons, List.not_mem_nil, or_false] at hl
   rcases hl with (((((rfl | rfl) | h) | h) | rfl) | h) | h
   all_goals first | exact hk | exact h1 | exact h2 | exact hb _ _ h
 | four t c m ht hc hm =>
   simp only [List.mem_append, List.mem_singleton, List.mem_cons, List.not_mem_nil, or_false] at hl
   rcases hl with (((((rfl | rfl | rfl) | h) | rfl | rfl) | h) | rfl) | h
   all_goals first | exact hk | exact h1 | exact h2 | exact h3 | exact hb _ _ h
 | five t c m x ht hc hm hx =>
   simp only [List.mem_append, List.mem_singleton, List.mem_cons, List.not_mem_nil, or_false] at hl
   rcases hl with ((((rfl | rfl | rfl) | h) | rfl | rfl) | h) | h
   all_goals first | exact hk | exact h1 | exact h2 | exact hb _ _ h | (rcases hx with rfl | rfl | rfl <;> first | exact h4 | exact h2 | exact h5)
theorem Drawn.len {ls : List ByteArray} (h : Drawn ls) : 0 < ls.length ∧ ls.length ≤ 200 := by
 cases h with
 | one t c m ht hc hm =>
   have := qaf t; have := qaf c; have := qaf m
   simp only [List.length_append, List.length_cons, List.length_nil]; omega
 | two t c m ht hc hm =>
   have := qaf t; have := qaf c; have := qaf m
   simp only [List.length_append, List.length_cons, List.length_nil]; omega
 | three t c m u ht hc hm hu =>
   have := qaf t; have := qaf c; have := qaf m; have := qaf u
   simp only [List.length_append, List.length_cons, List.length_nil]; omega
 | four t c m ht hc hm =>
   have := qaf t; have := qaf c; have := qaf m
   simp only [List.length_append, List.length_cons, List.length_nil]; omega
 | five t c m x ht hc hm hx =>
   have := qaf t; have := qaf c; have := qaf m
   simp only [List.length_append, List.length_cons, List.length_nil]; omega
def lineB (l : List UInt8) : Bool := decide (l.length ≤ 100)
theorem blk_lines (p : List UInt8 → Bool) (h : ∀ i, i < 11 → (blkL i).all p = true) (i : Nat) : ∀ l ∈ blk i, p (by' l) = true := by
 intro l hl
 unfold blk at hl
 obtain ⟨x, hx, rfl⟩ := List.mem_map.1 hl
 have e : by' (tx x) = x := by unfold by' tx; simp
 rw [e]
 by_cases hi : i < 11
 ·exact List.all_eq_true.1 (h i hi) x hx
 ·have : blkL i = [] := by
   obtain ⟨n, rfl⟩ : ∃ n, i = n + 11 := ⟨i - 11, by omega⟩
   rfl
  rw [this] at hx
  simp at hx
theorem Drawn.size {ls : List ByteArray} (h : Drawn ls) : ∀ l ∈ ls, l.size ≤ 100 := by
 have hb : ∀ i, ∀ l ∈ blk i, l.size ≤ 100 := fun i l hl => by
  have := blk_lines lineB (by decide) i l hl
  unfold lineB at this
  rw [decide_eq_true_eq] at this
  have e : (by' l).length = l.size := by unfold by'; rw [Array.length_toList]; rfl
  omega
 exact h.all (by decide) (by decide) (by decide) (by decide) (by decide) (by decide) hb

theorem owns_ok {l : List DClsClass} (h1 : ∀ c ∈ l, clsOk c = true) (h2 : l.Pairwise (fun a b => a.fName ≠ b.fName)) : each (ownIn l) l = true := each_iff.2 fun k x hx => by
 simp only [ownIn, Bool.and_eq_true, decide_eq_true_eq]
 refine ⟨h1 x (List.mem_of_getElem? hx), ?_⟩
 have : ownAt (l.take k) x.fName = -1 := firstAt_none fun j y hy => by
  rw [List.getElem?_take] at hy
  split at hy
  ·rename_i hj
   obtain ⟨a1, rfl⟩ := List.getElem?_eq_some_iff.1 hx
   obtain ⟨a2, rfl⟩ := List.getElem?_eq_some_iff.1 hy
   exact sameN_false.2 (List.pairwise_iff_getElem.1 h2 j k a2 a1 hj)
  ·cases hy
 omega
theorem keeper_ok {many : Int} {owns : List DClsClass} {asks : List DLodAsk} (h0 : owns.length ≤ 5) (h1 : ∀ c ∈ owns, clsOk c = true) (h2 : owns.Pairwise (fun a b => a.fName ≠ b.fName)) (h3 : (decide (asks.length ≤ 4) && each (askIn many asks) asks) = true) : keeperOk many ⟨owns, asks⟩ = true := by
 simp only [Bool.and_eq_true] at h3
 simp only [keeperOk, Bool.and_eq_true, decide_eq_true_eq]
 exact ⟨⟨⟨h0, of_decide_eq_true h3.1⟩, owns_ok h1 h2⟩, h3.2⟩
theorem lod_ok {K : List DLodKeeper} (h0 : 1 ≤ K.length ∧ K.length ≤ 3) (h : ∀ k ∈ K, keeperOk K.length k = true) : lodOk ⟨K⟩ = true := by
 simp only [lodOk, Bool.and_eq_true, decide_eq_true_eq]
 exact ⟨h0, each_iff.2 fun k x hx => h x (List.mem_of_getElem? hx)⟩
theorem parse_end {k : Nat} {p : DLodPlan} (h : lodOk p = true) : parseGo k p [] = (p, 0) := by
 simp [parseGo, h]
theorem nTop_cell : tx nTop ≠ tx nCell := by decide
theorem nTop_main : tx nTop ≠ tx nMain := by decide
theorem nCell_main : tx nCell ≠ tx nMain := by decide

theorem ask_go {K : List DLodKeeper} {asks : List DLodAsk} {rest : List ByteArray} {l : ByteArray} {k : Nat} (h : (!isW l tKeeper && isW ((words l).getD 0 ⟨#[]⟩) tAsks && (askRead (words l)).2) = true) : parseGo k ⟨K ++ [⟨[], asks⟩]⟩ (l :: rest) = parseGo (k + 1) ⟨K ++ [⟨[], asks ++ [(askRead (words l)).1]⟩]⟩ rest := by
 simp only [Bool.and_eq_true, Bool.not_eq_true'] at h
 exact ask_run h.1.1 h.1.2 (by rw [← h.2])
def goodAsk (l : ByteArray) : Bool := !isW l tKeeper && isW ((words l).getD 0 ⟨#[]⟩) tAsks && (askRead (words l)).2
theorem good1 : goodAsk aTop1 = true := by decide +kernel
theorem good2 : goodAsk aCell1 = true := by decide +kernel
theorem good3 : goodAsk aTop2 = true := by decide +kernel
theorem good4 : goodAsk aTop0 = true := by decide +kernel
theorem good5 : goodAsk aNone0 = true := by decide +kernel
def askOf (l : ByteArray) : DLodAsk := (askRead (words l)).1
def asksFine (many : Int) (ls : List ByteArray) : Bool := decide ((ls.map askOf).length ≤ 4) && each (askIn many (ls.map askOf)) (ls.map askOf)
theorem fine0 (many : Int) : asksFine many [] = true := by rfl
theorem fine1 : asksFine 2 [aTop1, aCell1] = true := by decide +kernel
theorem fine2 : asksFine 2 [aCell1] = true := by decide +kernel
theorem fine3 : asksFine 3 [aCell1, aTop2] = true := by decide +kernel
theorem fine4 : asksFine 3 [aTop2] = true := by decide +kernel
theorem fine5 : asksFine 2 [aTop0] = true := by decide +kernel
theorem fine6 : asksFine 2 [aNone0] = true := by decide +kernel

theorem Drawn.parse {ls : List ByteArray} (h : Drawn ls) : ∃ p, lodParse ls = (p, 0) ∧ lodOk p = true := by
 have hl := h.len
 have e0 : lodParse ls = parseGo 0 ⟨[]⟩ ls := by
  unfold lodParse
  rw [if_neg (by omega)]
 rw [e0]
 clear e0 hl
 have kr : ∀ (K : List DLodKeeper) (rest : List ByteArray) (k : Nat), K.length < 3 → parseGo k ⟨K⟩ (tkp :: rest) = parseGo (k + 1) ⟨K ++ [⟨[], []⟩]⟩ rest := fun K rest k h => keeper_run h
 suffices hs : ∃ p, (∃ n, parseGo 0 ⟨[]⟩ ls = parseGo n p []) ∧ lodOk p = true by
  obtain ⟨p, ⟨n, e⟩, h⟩ := hs
  exact ⟨p, e.trans (parse_end h), h⟩
 cases h with
 | one t c m ht hc hm =>
   obtain ⟨ct, t1, t2, t3⟩ := top_cls ht
   obtain ⟨cc, c1, c2, c3⟩ := cell_cls hc
   obtain ⟨cm, m1, m2, m3⟩ := main_cls hm
   simp only [List.append_assoc, List.cons_append, List.nil_append]
   rw [kr _ _ _ (by decide), blk_run t1, blk_run c1, ← List.append_nil (blk m), blk_run m1]
   refine ⟨_, ⟨_, rfl⟩, lod_ok (by simp) fun k hk => ?_⟩
   simp only [List.nil_append, List.mem_singleton] at hk
   subst hk
   refine keeper_ok (by simp) ?_ ?_ (fine0 _)
   ·simp [t2, c2, m2]
   ·simp [t3, c3, m3, nTop_cell, nTop_main, nCell_main]
 | two t c m ht hc hm =>
   obtain ⟨ct, t1, t2, t3⟩ := top_cls ht
   obtain ⟨cc, c1, c2, c3⟩ := cell_cls hc
   obtain ⟨cm, m1, m2, m3⟩ := main_cls hm
   simp only [List.append_assoc, List.cons_append, List.nil_append]
   rw [kr _ _ _ (by decide), ask_go good1, ask_go good2, blk_run m1, kr _ _ _ (by simp), blk_run t1, ← List.append_nil (blk c), blk_run c1]
   refine ⟨_, ⟨_, rfl⟩, lod_ok (by simp) fun k hk => ?_⟩
   simp only [List.nil_append, List.cons_append, List.mem_cons, List.not_mem_nil, or_false] at hk
   rcases hk with rfl | rfl
   ·exact keeper_ok (by simp) (by simp [m2]) (by simp) fine1
   ·exact keeper_ok (by simp) (by simp [t2, c2]) (by simp [t3, c3, nTop_cell]) (fine0 _)
 | three t c m u ht hc hm hu =>
   obtain ⟨ct, t1, t2, t3⟩ := top_cls ht
   obtain ⟨cu, u1, u2, u3⟩ := top_cls hu
   obtain ⟨cc, c1, c2, c3⟩ := cell_cls hc
   obtain ⟨cm, m1, m2, m3⟩ := main_cls hm
   simp only [List.append_assoc, List.cons_append, List.nil_append]
   rw [kr _ _ _ (by decide), ask_go good2, blk_run u1, blk_run m1, kr _ _ _ (by simp), blk_run t1, ← List.append_nil (blk c), blk_run c1]
   refine ⟨_, ⟨_, rfl⟩, lod_ok (by simp) fun k hk => ?_⟩
   simp only [List.nil_append, List.cons_append, List.mem_cons, List.not_mem_nil, or_false] at hk
   rcases hk with rfl | rfl
   ·exact keeper_ok (by simp) (by simp [u2, m2]) (by simp [u3, m3, nTop_main]) fine2
   ·exact keeper_ok (by simp) (by simp [t2, c2]) (by simp [t3, c3, nTop_cell]) (fine0 _)
 | four t c m ht hc hm =>
   obtain ⟨ct, t1, t2, t3⟩ := top_cls ht
   obtain ⟨cc, c1, c2, c3⟩ := cell_cls hc
   obtain ⟨cm, m1, m2, m3⟩ := main_cls hm
   simp only [List.append_assoc, List.cons_append, List.nil_append]
   rw [kr _ _ _ (by decide), ask_go good2, ask_go good3, blk_run m1, kr _ _ _ (by simp), ask_go good3, blk_run c1, kr _ _ _ (by simp), ← List.append_nil (blk t), blk_run t1]
   refine ⟨_, ⟨_, rfl⟩, lod_ok (by simp) fun k hk => ?_⟩
   simp only [List.nil_append, List.cons_append, List.mem_cons, List.not_mem_nil, or_false] at hk
   rcases hk with rfl | rfl | rfl
   ·exact keeper_ok (by simp) (by simp [m2]) (by simp) fine3
   ·exact keeper_ok (by simp) (by simp [c2]) (by simp) fine4
   ·exact keeper_ok (by simp) (by simp [t2]) (by simp) (fine0 _)
 | five t c m x ht hc hm hx =>
   obtain ⟨ct, t1, t2, t3⟩ := top_cls ht
   obtain ⟨cc, c1, c2, c3⟩ := cell_cls hc
   obtain ⟨cm, m1, m2, m3⟩ := main_cls hm
   have hg : goodAsk x = true := by
    rcases hx with rfl | rfl | rfl
    ·exact good4
    ·exact good2
    ·exact good5
   have hf : asksFine 2 [x] = true := by
    rcases hx with rfl | rfl | rfl
    ·exact fine5
    ·exact fine2
    ·exact fine6
   simp only [List.append_assoc, List.cons_append, List.nil_append]
   rw [kr _ _ _ (by decide), ask_go good1, ask_go good2, blk_run m1, kr _ _ _ (by simp), ask_go hg, blk_run t1, ← List.append_nil (blk c), blk_run c1]
   refine ⟨_, ⟨_, rfl⟩, lod_ok (by simp) fun k hk => ?_⟩
   simp only [List.nil_append, List.cons_append, List.mem_cons, List.not_mem_nil, or_false] at hk
   rcases hk with rfl | rfl
   ·exact keeper_ok (by simp) (by simp [m2]) (by simp) fine1
   ·exact keeper_ok (by simp) (by simp [t2, c2]) (by simp [t3, c3, nTop_cell]) hf

theorem drop_mem {α : Type} {xs : List α} {x : α} (h : x ∈ xs.dropLast) : x ∈ xs := (List.dropLast_sublist xs).subset h
def tRing : List UInt8 := [114, 105, 110, 103]
def NoRing (p : DLodPlan) : Prop := ∀ k ∈ p.fKeepers, ∀ c ∈ k.fOwns, by' c.fSuper ≠ tRing
def LineNo (l : ByteArray) : Prop := isW ((words l).getD 0 ⟨#[]⟩) tClass = true → by' (clsRead (words l)).1.fSuper ≠ tRing

theorem inner_super (c : DClsClass) (l : ByteArray) : (inner c l).1.fSuper = c.fSuper := by
 unfold inner
 simp only
 split
 ·rfl
 ·split
  ·rfl
  ·split
   ·rfl
   ·split <;> rfl
theorem lineR_noring {p : DLodPlan} {l : ByteArray} (h : NoRing p) (hl : LineNo l) : NoRing (lineR p l).1 := by
 unfold lineR
 split
 ·intro k hk
  simp only [List.mem_append, List.mem_singleton] at hk
  rcases hk with hk | rfl
  ·exact h k hk
  ·intro c hc; simp at hc
 ·split
  ·exact h
  ·rename_i k hk
   have hkm : k ∈ p.fKeepers := List.mem_of_getLast? hk
   split
   ·exact h
   ·rename_i k' ok e
    intro x hx
    simp only [List.mem_append, List.mem_singleton] at hx
    rcases hx with hx | rfl
    ·exact h x (drop_mem hx)
    ·intro c hc
     unfold lastLine at e
     simp only at e
     split at e
     ·cases e
      exact h k hkm c hc
     ·split at e
      ·rename_i hcl
       cases e
       simp only [List.mem_append, List.mem_singleton] at hc
       rcases hc with hc | rfl
       ·exact h k hkm c hc
       ·exact hl hcl
      ·split at e
       ·cases e
       ·rename_i d hd
        cases e
        simp only [List.mem_append, List.mem_singleton] at hc
        rcases hc with hc | rfl
        ·exact h k hkm c (drop_mem hc)
        ·rw [inner_super]
         exact h k hkm d (List.mem_of_getLast? hd)
theorem parseGo_noring : ∀ {ls : List ByteArray} {k : Nat} {p : DLodPlan}, NoRing p → (∀ l ∈ ls, LineNo l) → NoRing (parseGo k p ls).1
 | [], k, p, h, _ => by
   unfold parseGo
   split
   ·exact h
   ·intro x hx; simp at hx
 | l :: r, k, p, h, hl => by
   unfold parseGo
   split
   ·exact parseGo_noring (lineR_noring h (hl l (by simp))) fun x hx => hl x (by simp [hx])
   ·intro x hx; simp at hx
theorem lodParse_noring {ls : List ByteArray} (hl : ∀ l ∈ ls, LineNo l) : NoRing (lodParse ls).1 := by
 unfold lodParse
 split
 ·intro x hx; simp at hx
 ·exact parseGo_noring (fun x hx => by simp at hx) hl

def lk (l : List UInt8) (c : UInt8) : Nat := if c ∈ l then 0 else 1
def lack (l : List UInt8) : Nat := lk l 99 + lk l 108 + lk l 97 + lk l 115 + lk l 114 + lk l 105 + lk l 110 + lk l 103
theorem lk_zero {l : List UInt8} {c : UInt8} (h : c ∈ l) : lk l c = 0 := by simp [lk, h]
theorem wordsGo_mem : ∀ (cur l w : List UInt8), w ∈ wordsGo cur l → ∀ x ∈ w, x ∈ cur ∨ x ∈ l
 | cur, [], w, h, x, hx => by
   simp [wordsGo] at h; subst h; exact Or.inl hx
 | cur, c :: r, w, h, x, hx => by
   unfold wordsGo at h
   split at h
   ·rcases List.mem_cons.1 h with rfl | h
    ·exact Or.inl hx
    ·rcases wordsGo_mem [] r w h x hx with h | h
     ·simp at h
     ·exact Or.inr (List.mem_cons_of_mem _ h)
   ·rcases wordsGo_mem (cur ++ [c]) r w h x hx with h | h
    ·rcases List.mem_append.1 h with h | h
     ·exact Or.inl h
     ·simp at h; subst h; exact Or.inr (by simp)
    ·exact Or.inr (List.mem_cons_of_mem _ h)
theorem by_tx (l : List UInt8) : by' (tx l) = l := by unfold by' tx; simp
theorem words_mem {s w : ByteArray} (h : w ∈ words s) : ∀ x ∈ by' w, x ∈ by' s := by
 unfold words at h
 obtain ⟨l, hl, rfl⟩ := List.mem_map.1 h
 rw [by_tx]
 intro x hx
 rcases wordsGo_mem [] (by' s) l hl x hx with h | h
 ·simp at h
 ·exact h
theorem line_no {l : ByteArray} (h : 1 ≤ lack (by' l)) : LineNo l := by
 intro h0 h1
 have hc : by' ((words l).getD 0 ⟨#[]⟩) = tClass := by simpa [isW] using h0
 have g0 : ∀ x ∈ tClass, x ∈ by' l := by
  rw [← hc]
  rw [List.getD_eq_getElem?_getD]
  cases e : (words l)[0]? with
  | none => intro x hx; simp [by'] at hx
  | some w => exact words_mem (List.mem_of_getElem? e)
 have g1 : ∀ x ∈ tRing, x ∈ by' l := by
  rw [← h1]
  unfold clsRead
  split
  ·rename_i w a b e
   split
   ·simp only
    split
    ·intro x hx; simp [by'] at hx
    ·exact words_mem (by rw [e]; simp)
   ·intro x hx; simp [by', nilCls] at hx
  ·intro x hx; simp [by', nilCls] at hx
 have : lack (by' l) = 0 := by
  unfold lack
  rw [lk_zero (g0 99 (by decide)), lk_zero (g0 108 (by decide)), lk_zero (g0 97 (by decide)), lk_zero (g0 115 (by decide)), lk_zero (g1 114 (by decide)), lk_zero (g1 105 (by decide)), lk_zero (g1 110 (by decide)), lk_zero (g1 103 (by decide))]
 omega
def isC (x c : UInt8) : Nat := if x = c then 1 else 0
theorem lk_bent {s t : List UInt8} {c : UInt8} (h : ∀ x ∈ t, x ∈ s ∨ x = c) (x : UInt8) : lk s x ≤ lk t x + isC x c := by
 unfold lk isC
 by_cases h1 : x ∈ t
 ·rcases h x h1 with h2 | h2
  ·simp [h2]
  ·subst h2; simp; split <;> omega
 ·rw [if_neg h1]; split <;> omega
theorem isC_le (c : UInt8) : isC 99 c + isC 108 c + isC 97 c + isC 115 c + isC 114 c + isC 105 c + isC 110 c + isC 103 c ≤ 1 := by
 unfold isC
 by_cases h1 : (99 : UInt8) = c
 ·subst h1; decide
 by_cases h2 : (108 : UInt8) = c
 ·subst h2; decide
 by_cases h3 : (97 : UInt8) = c
 ·subst h3; decide
 by_cases h4 : (115 : UInt8) = c
 ·subst h4; decide
 by_cases h5 : (114 : UInt8) = c
 ·subst h5; decide
 by_cases h6 : (105 : UInt8) = c
 ·subst h6; decide
 by_cases h7 : (110 : UInt8) = c
 ·subst h7; decide
 by_cases h8 : (103 : UInt8) = c
 ·subst h8; decide
 simp [h1, h2, h3, h4, h5, h6, h7, h8]
def BentOf (s t : ByteArray) : Prop := ∃ c : UInt8, ∀ x ∈ by' t, x ∈ by' s ∨ x = c
theorem lack_bent {s t : ByteArray} (h : BentOf s t) : lack (by' s) ≤ lack (by' t) + 1 := by
 obtain ⟨c, h⟩ := h
 have h1 := lk_bent h 99
 have h2 := lk_bent h 108
 have h3 := lk_bent h 97
 have h4 := lk_bent h 115
 have h5 := lk_bent h 114
 have h6 := lk_bent h 105
 have h7 := lk_bent h 110
 have h8 := lk_bent h 103
 have h9 := isC_le c
 unfold lack
 omega
def lackB (l : List UInt8) : Bool := decide (2 ≤ lack l)
theorem lackB_of {l : ByteArray} (h : lackB (by' l) = true) : 2 ≤ lack (by' l) := of_decide_eq_true h
theorem blk_lack : ∀ i, i < 11 → (blkL i).all lackB = true := by decide +kernel
theorem Drawn.lack {ls : List ByteArray} (h : Drawn ls) : ∀ l ∈ ls, 2 ≤ lack (by' l) :=
 h.all (P := fun l => 2 ≤ Go.Proofs.YtfbonocadpknbaaGreatDoor.lack (by' l)) (by decide +kernel) (by decide +kernel) (by decide +kernel) (by decide +kernel) (by decide +kernel) (by decide +kernel) fun i l hl => lackB_of (blk_lines lackB blk_lack i l hl)
theorem Drawn.no {ls : List ByteArray} (h : Drawn ls) : ∀ l ∈ ls, LineNo l := fun l hl => line_no (by have := h.lack l hl; omega)
theorem Drawn.bent {ls : List ByteArray} (h : Drawn ls) {l t : ByteArray} (hl : l ∈ ls) (hb : BentOf l t) : LineNo t := line_no (by have := h.lack l hl; have := lack_bent hb; omega)

theorem wordsGo_head : ∀ (a : List UInt8) (cur rest : List UInt8), (rest = [] ∨ ∃ r, rest = 32 :: r) → ∃ w r, wordsGo cur (a ++ rest) = w :: r ∧ w.length ≤ cur.length + a.length
 | [], cur, rest, h => by
   rcases h with rfl | ⟨r, rfl⟩
   ·exact ⟨cur, [], rfl, by simp⟩
   ·exact ⟨cur, wordsGo [] r, by simp [wordsGo], by simp⟩
 | c :: a, cur, rest, h => by
   rw [List.cons_append]
   unfold wordsGo
   split
   ·exact ⟨cur, _, rfl, by simp⟩
   ·obtain ⟨w, r, e, hl⟩ := wordsGo_head a (cur ++ [c]) rest h
    exact ⟨w, r, e, by simp at hl ⊢; omega⟩
theorem ins_line (i : DClsIns) : LineNo (tx (insText i)) := by
 intro h0
 exfalso
 have hs : ∃ (a rest : List UInt8), insText i = a ++ rest ∧ a.length ≤ 4 ∧ (rest = [] ∨ ∃ r, rest = 32 :: r) := by
  unfold insText
  split
  ·split
   ·exact ⟨opText i.fOp, _, rfl, opText_len _, Or.inr ⟨_, rfl⟩⟩
   ·split
    ·exact ⟨opText i.fOp, _, rfl, opText_len _, Or.inr ⟨_, rfl⟩⟩
    ·split
     ·exact ⟨opText i.fOp, _, rfl, opText_len _, Or.inr ⟨_, rfl⟩⟩
     ·exact ⟨opText i.fOp, [], by simp, opText_len _, Or.inl rfl⟩
  ·exact ⟨[], [], rfl, by simp, Or.inl rfl⟩
 obtain ⟨a, rest, e, ha, hr⟩ := hs
 obtain ⟨w, r, e2, hw⟩ := wordsGo_head a [] rest hr
 have hc : by' ((words (tx (insText i))).getD 0 ⟨#[]⟩) = tClass := by simpa [isW] using h0
 unfold words at hc
 rw [by_tx, e, e2] at hc
 simp only [List.map_cons, List.getD_cons_zero] at hc
 rw [by_tx] at hc
 rw [hc] at hw
 simp [tClass] at hw
 omega

theorem by_app (a b : ByteArray) : by' (a ++ b) = by' a ++ by' b := by
 unfold by'
 rw [ByteArray.data_append, Array.toList_append]
theorem by_extract (s : ByteArray) (i j : Nat) : ∀ x ∈ by' (s.extract i j), x ∈ by' s := by
 intro x hx
 unfold by' at hx ⊢
 rw [ByteArray.data_extract, Array.toList_extract] at hx
 rw [List.extract_eq_take_drop] at hx
 exact List.mem_of_mem_drop (List.mem_of_mem_take hx)
theorem oneB_by (v : Int) : by' (oneB v) = [UInt8.ofNat v.toNat] := rfl
theorem bent_in {s : ByteArray} (i j k l : Nat) (v : Int) : BentOf s (s.extract i j ++ oneB v ++ s.extract k l) := ⟨UInt8.ofNat v.toNat, fun x hx => by
 rw [by_app, by_app, oneB_by] at hx
 rcases List.mem_append.1 hx with hx | hx
 ·rcases List.mem_append.1 hx with hx | hx
  ·exact Or.inl (by_extract _ _ _ x hx)
  ·exact Or.inr (by simpa using hx)
 ·exact Or.inl (by_extract _ _ _ x hx)⟩
theorem bent_out {s : ByteArray} (i j k l : Nat) : BentOf s (s.extract i j ++ s.extract k l) := ⟨0, fun x hx => by
 rw [by_app] at hx
 rcases List.mem_append.1 hx with hx | hx
 ·exact Or.inl (by_extract _ _ _ x hx)
 ·exact Or.inl (by_extract _ _ _ x hx)⟩
theorem bent_self (s : ByteArray) : BentOf s s := ⟨0, fun x hx => Or.inl hx⟩

theorem S_l20BentX (r p : Nat) (s : ByteArray) (w : World) (hs : s.size ≤ 1000000) (hr : Rd w r p) (hp : p < 900000) :
  Calls Tryz.prog 76 #[.pointer (some ⟨r, 0, none⟩), .string s] w fun e w' => (∃ t : ByteArray, t.size ≤ s.size + 1 ∧ BentOf s t ∧ e = .returned (.string t)) ∧ Rd w' r (p + 4) ∧ Ex r w.heap.size w w' := by
 have hlt := hr.lt
 have hss : s.size ≤ 9223372036854775806 := by omega
 refine qab fun R HR => ?_
 go_enter Tryz.func76, Tryz.ntmps76
 go_wp2_with fail
 refine (S_pick r p _ _ (by omega) (rdd) (by omega)).mono ?_
 rintro e w1 ⟨⟨k, hk, rfl⟩, h1, h2⟩
 obtain ⟨k1, k2, k3⟩ := hk
 have k4 : k ≤ (s.size : Int) := by have := k2 (by omega); omega
 clear k2 k3
 have h2s := (h2).size; (try simp only [qsz] at h2s)
 go_wp2_with fail
 refine (S_pick r (p + 1) 256 _ (by omega) (rdd) (by omega)).mono ?_
 rintro e w2 ⟨⟨q, hq, rfl⟩, h3, h4⟩
 obtain ⟨q1, q2, q3⟩ := hq
 have q4 : q ≤ 255 := by have := q2 (by omega); omega
 clear q2 q3
 have h4s := (h4).size; (try simp only [qsz] at h4s)
 go_wp2_with fail
 refine (S_pick r (p + 2) 11 _ (by omega) (rdd) (by omega)).mono ?_
 rintro e w3 ⟨⟨y, hy, rfl⟩, h5, h6⟩
 have h6s := (h6).size; (try simp only [qsz] at h6s)
 obtain ⟨h6ac, h6ad, h6af, h6ag, h6az, h6ax, h6ay⟩ := efacts (n := w2.heap.size) (k := 1) h6 (by go_size) (by go_size) (by first | omega | (simp; omega)); replace h6ad := h6ad (by decide); replace h6ag := h6ag (by decide); replace h6ax := h6ax (by decide); clear h6ac h6af h6az
 have hcell : ∃ v : Int, 0 ≤ v ∧ v ≤ 255 ∧ w3.cell? ⟨w2.heap.size, y.toNat, none⟩ = some (.int .i64 v) := by
  rcases eleven hy with rfl | rfl | rfl | rfl | rfl | rfl | rfl | rfl | rfl | rfl | rfl
  all_goals
   refine ⟨_, ?_, ?_, (by rw [h6ad, World.cell?_alloc_at (hn := rfl)]; rfl)⟩
   all_goals first | decide | exact q1 | exact q4
 obtain ⟨v, v1, v2, hc⟩ := hcell
 obtain ⟨y1, y2, y3⟩ := hy
 have y4 : y < 11 := y2 (by omega)
 clear y2 y3 h6ad h6ag h6ax h6ay
 have HC := qhd hs
 clear hs
 have hcv := conv1 v w3.heap.size (w3.alloc (.cells #[.int .u8 v] 5)) (by go_simp)
 set_option maxRecDepth 100000 in
 go_wp2_with fail
 refine (S_pick r (p + 3) 3 _ (by omega) (rdd) (by omega)).mono ?_
 rintro e w4 ⟨⟨z, hz, rfl⟩, h7, h8⟩
 have h8s := (h8).size; (try simp only [qsz] at h8s)
 clear hcv hc
 obtain ⟨j, rfl⟩ := Int.eq_ofNat_of_zero_le k1
 clear k1
 have hj : j ≤ s.size := by omega
 clear k4
 have x1 : (s.extract 0 j).size ≤ j := by simp; omega
 have x2 : (oneB v).size ≤ 1 := Nat.le_refl _
 have x3 : (s.extract 0 j ++ oneB v).size ≤ j + 1 := by rw [app_size]; omega
 have x4 : (s.extract j s.size).size ≤ s.size - j := by simp
 have x5 : (s.extract (j + 1) s.size).size ≤ s.size - j := by simp; omega
 rcases three hz with rfl | rfl | rfl
 ·go_wp2_with fail
  go_quiet (fail)
  go_wp2
  all_goals (try go_returns)
  all_goals exact HR.out _ _ ⟨⟨_, by simp [app_size, oneB_size]; omega, by (first | exact bent_self _ | exact bent_in _ _ _ _ _ | exact bent_out _ _ _ _), rfl⟩, rdd, eexx⟩
 all_goals
  by_cases hjs : j < s.size
  ·have hb : decide ((j : Int) < (s.size : Int)) = true := by simp; omega
   have v1 : IntKind.i64.wrap ((j : Int) + 1) = (j : Int) + 1 := IntWalk.i64_in _ (by omega)
   have v2 : ((j : Int) + 1).toNat = j + 1 := by omega
   have v3 : 0 ≤ (j : Int) + 1 := by omega
   go_wp2_with fail
   go_quiet (fail)
   go_wp2
   all_goals (try go_returns)
   all_goals exact HR.out _ _ ⟨⟨_, by simp [app_size, oneB_size]; omega, by (first | exact bent_self _ | exact bent_in _ _ _ _ _ | exact bent_out _ _ _ _), rfl⟩, rdd, eexx⟩
  ·have hb : decide ((j : Int) < (s.size : Int)) = false := by simp; omega
   go_wp2
   all_goals (try go_returns)
   all_goals exact HR.out _ _ ⟨⟨_, by omega, by (first | exact bent_self _ | exact bent_in _ _ _ _ _ | exact bent_out _ _ _ _), rfl⟩, rdd, eexx⟩

structure In (w0 : World) where
 x : World
 h : Below w0.heap.size w0 x
instance (w0 : World) : Nonempty (In w0) := ⟨⟨w0, Below.refl _ _⟩⟩

theorem qaj {P : Program} {id : Nat} {Q : Exit → Act → World → Prop} {a : Act} {w : World} {l : List Oper} (hm : P.follows .mixedOrders = true) (hB : Region.lexB .any l.toArray = true)
  (h : wpQuiet P l.toArray (fun w' => ∃ y : In w, w' = y.x) (fun a' => ∀ w', (∃ y : In w, w' = y.x) → Q .normal a' w') l a) : (Code.region id l.toArray true).wp P Q a w :=
 wp_region_quiet (C := fun w' => ∃ y : In w, w' = y.x) hm hB ⟨⟨w.drew, (Below.refl _ _).drew⟩, rfl⟩ (by simpa using h)

theorem In.trans {w0 : World} (y : In w0) {w' : World} (h : Below y.x.heap.size y.x w') : Below w0.heap.size w0 w' := y.h.trans (h.mono y.h.size)

theorem Calls.ins {P : Program} {f : FuncId} {args : Array Value} {w0 : World} {y : In w0} {v : Value}
  (h : Calls P f args y.x fun e w' => e = .returned v ∧ Below y.x.heap.size y.x w') : Calls P f args y.x fun e w'' => e = .returned v ∧ ∃ y' : In w0, w'' = y'.x :=
 h.mono fun _ w' ⟨he, hm⟩ => ⟨he, ⟨w', y.trans hm⟩, rfl⟩
theorem Calls.ins_same {P : Program} {f : FuncId} {args : Array Value} {w0 : World} {y : In w0} {v : Value}
  (h : Calls P f args y.x fun e w' => e = .returned v ∧ y.x = w') : Calls P f args y.x fun e w'' => e = .returned v ∧ ∃ y' : In w0, w'' = y'.x :=
 h.mono fun _ w' ⟨he, hm⟩ => ⟨he, y, hm.symm⟩
theorem Calls.val {P : Program} {f : FuncId} {args : Array Value} {w : World} {v v' : Value} {C : World → Prop} (h : Calls P f args w fun e w' => e = .returned v ∧ C w') (e : v = v') : Calls P f args w fun e w' => e = .returned v' ∧ C w' := e ▸ h

theorem Calls.val2 {P : Program} {f : FuncId} {args : Array Value} {w : World} {b b' : Bool} {C : World → Prop} (h : Calls P f args w fun e w' => e = .returned (.bool b) ∧ C w') (e : b = b') : Calls P f args w fun e w' => e = .returned (.bool b') ∧ C w' := e ▸ h

theorem In.cell {w0 : World} {b o : Nat} {v : Value} (h : w0.cell? ⟨b, o, none⟩ = some v) : ∀ y : In w0, y.x.cell? ⟨b, o, none⟩ = some v := fun y =>
 (y.h.cell (p := ⟨b, o, none⟩) (block_lt_of_cell h)).trans h

end Go.Proofs.YtfbonocadpknbaaGreatDoor
namespace Go.Proofs.YtfbonocadpknbaaGreatDoor
open Go.RowKit
section
variable {P : Program} {ops : Array Oper} {C : World → Prop} {G : Nat → World → World → Prop} {F : (Nat → Value) → Nat → Value → World → Prop} {I : Nat → World → Prop} {dead : Nat → Nat → Bool}
def getv (vs : List Value) : Nat → Value := fun j => vs.getD j undef
def NoQ : Exit → Act → World → Prop := fun _ _ _ => False
def valD (d : Option Tmp) (a : Act) : Value := match d with | some t => a.eval (.tmp t) | none => undef

def wpRely (P : Program) (ops : Array Oper) (C : World → Prop) (G : Nat → World → World → Prop) (F : (Nat → Value) → Nat → Value → World → Prop) (Fin : Act → World → Prop) : List Oper → List Value → Act → Prop
 | [], vs, a => ∀ w, C w → (∀ i u, vs[i]? = some u → F (getv vs) i u w) → Fin a w
 | o :: r, vs, a =>
   (∀ w, C w → (∀ e ∈ o.after.toList, Region.binds .any e = true → ∀ u, vs[e.on]? = some u → F (getv vs) e.on u w) →
    ∀ S : Value → World → Prop, (∀ v w', C w' → G vs.length w w' → F (getv vs) vs.length v w' → S v w') →
     if Region.wanted o (yielded ops a.tmps) then o.wp P a w (fun a' w' => a'.defers = a.defers ∧ S (valD o.dst a') w') NoQ else S undef w) ∧
   ∀ v, wpRely P ops C G F Fin r (vs ++ [v]) (a.put o.dst v)

def wpRelyE (P : Program) (ops : Array Oper) (C : World → Prop) (G : Nat → World → World → Prop) (F : (Nat → Value) → Nat → Value → World → Prop) (I : Nat → World → Prop) (dead : Nat → Nat → Bool) (Fin : Act → World → Prop) : List Oper → List Value → Act → Prop
 | [], vs, a => ∀ w, C w → (∀ i u, vs[i]? = some u → (∀ j, j < vs.length → dead i j = false) → F (getv vs) i u w) → Fin a w
 | o :: r, vs, a =>
   (∀ w, C w → I vs.length w → (∀ e ∈ o.after.toList, Region.binds .any e = true → ∀ u, vs[e.on]? = some u → F (getv vs) e.on u w) →
    ∀ S : Value → World → Prop, (∀ v w', C w' → G vs.length w w' → F (getv vs) vs.length v w' → S v w') →
     if Region.wanted o (yielded ops a.tmps) then o.wp P a w (fun a' w' => a'.defers = a.defers ∧ S (valD o.dst a') w') NoQ else S undef w) ∧
   ∀ v, wpRelyE P ops C G F I dead Fin r (vs ++ [v]) (a.put o.dst v)
theorem wpRely_toE {Fin : Act → World → Prop} : ∀ {l : List Oper} {vs : List Value} {a : Act}, wpRely P ops C G F Fin l vs a → wpRelyE P ops C G F (fun _ _ => True) (fun _ _ => false) Fin l vs a
 | [], _, _, h => fun w hC hF => h w hC fun i u hu => hF i u hu fun _ _ => rfl
 | _ :: _, _, _, h => ⟨fun w hC _ => h.1 w hC, fun v => wpRely_toE (h.2 v)⟩
theorem wanted_plain {ops : Array Oper} {o : Oper} {tmps : Array Value} (h : o.guard = none) : Region.wanted o (yielded ops tmps) = true := by simp [Region.wanted, h]

theorem qai {Fin : Act → World → Prop} {o : Oper} {r : List Oper} {vs : List Value} {a : Act} {d : Nat} (hd : o.dst = some d) (hg : o.guard = none)
  (h1 : ∀ w, C w → (∀ e ∈ o.after.toList, Region.binds .any e = true → ∀ u, vs[e.on]? = some u → F (getv vs) e.on u w) →
   ∀ S : Value → World → Prop, (∀ v w', C w' → G vs.length w w' → F (getv vs) vs.length v w' → S v w') → o.wp P a w (fun a' w' => a'.defers = a.defers ∧ S (a'.eval (.tmp d)) w') NoQ)
  (h2 : ∀ v, wpRely P ops C G F Fin r (vs ++ [v]) (a.put (some d) v)) : wpRely P ops C G F Fin (o :: r) vs a := by
 refine ⟨fun w hC hf S hS => ?_, fun v => by rw [hd]; exact h2 v⟩
 rw [if_pos (wanted_plain hg), hd]
 exact h1 w hC hf S hS
theorem wpRely_cons0 {Fin : Act → World → Prop} {o : Oper} {r : List Oper} {vs : List Value} {a : Act} (hd : o.dst = none) (hg : o.guard = none)
  (h1 : ∀ w, C w → (∀ e ∈ o.after.toList, Region.binds .any e = true → ∀ u, vs[e.on]? = some u → F (getv vs) e.on u w) →
   ∀ S : Value → World → Prop, (∀ v w', C w' → G vs.length w w' → F (getv vs) vs.length v w' → S v w') → o.wp P a w (fun a' w' => a'.defers = a.defers ∧ S undef w') NoQ)
  (h2 : ∀ v, wpRely P ops C G F Fin r (vs ++ [v]) a) : wpRely P ops C G F Fin (o :: r) vs a := by
 refine ⟨fun w hC hf S hS => ?_, fun v => by rw [hd]; exact h2 v⟩
 rw [if_pos (wanted_plain hg), hd]
 exact h1 w hC hf S hS
theorem qac {Fin : Act → World → Prop} {o : Oper} {r : List Oper} {vs : List Value} {a : Act} {d : Nat} (hd : o.dst = some d) (hg : o.guard = none)
  (h1 : ∀ w, C w → I vs.length w → (∀ e ∈ o.after.toList, Region.binds .any e = true → ∀ u, vs[e.on]? = some u → F (getv vs) e.on u w) →
   ∀ S : Value → World → Prop, (∀ v w', C w' → G vs.length w w' → F (getv vs) vs.length v w' → S v w') → o.wp P a w (fun a' w' => a'.defers = a.defers ∧ S (a'.eval (.tmp d)) w') NoQ)
  (h2 : ∀ v, wpRelyE P ops C G F I dead Fin r (vs ++ [v]) (a.put (some d) v)) : wpRelyE P ops C G F I dead Fin (o :: r) vs a := by
 refine ⟨fun w hC hI hf S hS => ?_, fun v => by rw [hd]; exact h2 v⟩
 rw [if_pos (wanted_plain hg), hd]
 exact h1 w hC hI hf S hS
def putAll : Act → List Oper → List Value → Act
 | a, o :: r, v :: vs => putAll (a.put o.dst v) r vs
 | a, _, _ => a

theorem rely_at {Fin : Act → World → Prop} : ∀ (l : List Oper) (vs us : List Value) (a : Act) (k : Nat) (o : Oper), wpRelyE P ops C G F I dead Fin l vs a → l[k]? = some o → us.length = k →
  ∀ w, C w → I (vs.length + k) w → (∀ e ∈ o.after.toList, Region.binds .any e = true → ∀ u, (vs ++ us)[e.on]? = some u → F (getv (vs ++ us)) e.on u w) →
   ∀ S : Value → World → Prop, (∀ v w', C w' → G (vs.length + k) w w' → F (getv (vs ++ us)) (vs.length + k) v w' → S v w') →
    if Region.wanted o (yielded ops (putAll a l us).tmps) then o.wp P (putAll a l us) w (fun a' w' => a'.defers = (putAll a l us).defers ∧ S (valD o.dst a') w') NoQ else S undef w
 | [], _, _, _, k, o, _, h, _ => by simp at h
 | x :: r, vs, [], a, k, o, H, h, hl => by
   have hk : k = 0 := by simpa using hl.symm
   subst hk
   simp at h; subst h
   intro w hC hI hd S hS
   exact H.1 w hC (by simpa using hI) (by simpa using hd) S (by simpa using hS)
 | x :: r, vs, u :: us, a, k, o, H, h, hl => by
   obtain ⟨k', rfl⟩ : ∃ k', k = k' + 1 := ⟨us.length, by simpa using hl.symm⟩
   intro w hC hI hd S hS
   exact rely_at r (vs ++ [u]) us (a.put x.dst u) k' o (H.2 u) (by simpa using h) (by simpa using hl) w hC (by rw [List.length_append, List.length_singleton, show vs.length + 1 + k' = vs.length + (k' + 1) by omega]; exact hI) (by simpa using hd) S (by
    intro v w' h1 h2 h3
    rw [List.length_append, List.length_singleton] at h2 h3
    rw [show vs.length + (k' + 1) = vs.length + 1 + k' by omega] at hS
    exact hS v w' h1 h2 (by simpa using h3))
theorem rely_fin {Fin : Act → World → Prop} : ∀ (l : List Oper) (vs us : List Value) (a : Act), wpRelyE P ops C G F I dead Fin l vs a → us.length = l.length →
  ∀ w, C w → (∀ i u, (vs ++ us)[i]? = some u → (∀ j, j < (vs ++ us).length → dead i j = false) → F (getv (vs ++ us)) i u w) → Fin (putAll a l us) w
 | [], vs, us, a, H, hl => by
   have : us = [] := List.eq_nil_of_length_eq_zero (by simpa using hl)
   subst this
   intro w hC hF
   exact H w hC (by simpa using hF)
 | x :: r, vs, [], a, H, hl => by simp at hl
 | x :: r, vs, u :: us, a, H, hl => by
   intro w hC hF
   exact rely_fin r (vs ++ [u]) us (a.put x.dst u) (H.2 u) (by simpa using hl) w hC (by simpa using hF)

def unl (listed : Array Bool) : Nat → Nat
 | 0 => 0
 | n + 1 => unl listed n + (if listed.getD n true then 0 else 1)
theorem unl_set {listed : Array Bool} {i : Nat} (h : listed.getD i true = false) : ∀ n, unl (listed.setIfInBounds i true) n + (if i < n then 1 else 0) = unl listed n
 | 0 => by simp [unl]
 | n + 1 => by
   have ih := unl_set h n
   unfold unl
   by_cases hi : i = n
   ·subst hi
    have h1 : (listed.setIfInBounds i true).getD i true = true := by
     by_cases hs : i < listed.size <;> simp [hs]
    rw [h1, h]
    simp at ih ⊢
    omega
   ·rw [getD_set_ne true hi]
    have e : (if i < n + 1 then 1 else 0) = (if i < n then 1 else 0) := by
     by_cases hn : i < n
     ·rw [if_pos hn, if_pos (by omega)]
     ·rw [if_neg hn, if_neg (by omega)]
    omega
theorem unl_zero {listed : Array Bool} : ∀ {n : Nat}, unl listed n = 0 → ∀ i, i < n → listed.getD i true = true
 | 0, _, i, hi => by omega
 | n + 1, h, i, hi => by
   unfold unl at h
   by_cases hn : i = n
   ·subst hn
    cases hq : listed.getD i true with
    | true => rfl
    | false => rw [hq] at h; simp at h
   ·exact unl_zero (n := n) (by omega) i (by omega)
theorem unl_pos {listed : Array Bool} : ∀ {n : Nat}, 0 < unl listed n → ∃ i, i < n ∧ listed.getD i true = false ∧ ∀ j, j < i → listed.getD j true = true
 | 0, h => by simp [unl] at h
 | n + 1, h => by
   by_cases h0 : 0 < unl listed n
   ·obtain ⟨i, h1, h2⟩ := unl_pos h0
    exact ⟨i, by omega, h2⟩
   ·have hz := unl_zero (n := n) (listed := listed) (by omega)
    unfold unl at h
    refine ⟨n, by omega, ?_, hz⟩
    cases hq : listed.getD n true with
    | false => rfl
    | true => rw [hq] at h; simp at h; omega

def looksB (o : Oper) (i : Nat) (t : Option Tmp) : Bool := o.op.operands.toList.all fun x => match x with | .tmp s => !(some s == t) || (o.after.toList.any fun e => e.on == i && Region.binds .any e) | _ => true
def headOpB (ops : List Oper) (n k : Nat) (o : Oper) : Bool :=
 (match o.guard with | none => true | some (g, _) => o.after.toList.any fun e => e.on == g && Region.binds .any e) && (match o.op with | .select .. => false | _ => true) &&
 (o.after.toList.all fun e => !Region.binds .any e || decide (e.on < k)) &&
 ((List.range n).all fun i => match ops[i]? with
  | none => false
  | some oi => (decide (i = k) || oi.dst.isNone || !(oi.dst == o.dst)) && looksB o i oi.dst)
def headB (ops : List Oper) (n : Nat) : Bool := (List.range n).all fun k => match ops[k]? with | none => false | some o => headOpB ops n k o
structure HeadAt (ops : List Oper) (n k : Nat) (o : Oper) : Prop where
 hang : ∀ g b, o.guard = some (g, b) → ∃ e ∈ o.after, e.on = g ∧ Region.binds .any e = true
 sel : ∀ cs b, o.op ≠ .select cs b
 back : ∀ e ∈ o.after, Region.binds .any e = true → e.on < k
 own : ∀ i oi t, i < n → ops[i]? = some oi → i ≠ k → oi.dst = some t → o.dst ≠ some t
 looks : ∀ i oi t, i < n → ops[i]? = some oi → oi.dst = some t → Operand.tmp t ∈ o.op.operands → ∃ e ∈ o.after, e.on = i ∧ Region.binds .any e = true
theorem headAt {ops : List Oper} {n k : Nat} {o : Oper} (h : headB ops n = true) (hk : k < n) (ho : ops[k]? = some o) : HeadAt ops n k o := by
 have h1 := List.all_eq_true.1 h k (List.mem_range.2 hk)
 simp only [ho] at h1
 unfold headOpB at h1
 simp only [Bool.and_eq_true] at h1
 obtain ⟨⟨⟨h1, h3⟩, h4⟩, h5⟩ := h1
 have h6 : ∀ i oi, i < n → ops[i]? = some oi → ((i = k ∨ oi.dst.isNone = true) ∨ oi.dst ≠ o.dst) ∧ looksB o i oi.dst = true := fun i oi hi hoi => by
  have := List.all_eq_true.1 h5 i (List.mem_range.2 hi)
  simp only [hoi, Bool.and_eq_true, Bool.or_eq_true, decide_eq_true_eq, Bool.not_eq_true', beq_eq_false_iff_ne] at this
  exact this
 have h7 : ∀ {p : Edge → Bool} , (o.after.toList.any p) = true → ∃ e ∈ o.after, p e = true := fun hp => by
  obtain ⟨e, he, h⟩ := List.any_eq_true.1 hp
  exact ⟨e, by simpa using he, h⟩
 refine ⟨?_, ?_, ?_, fun i oi t hi hoi hne ht => ?_, fun i oi t hi hoi ht hx => ?_⟩
 ·intro g b hg
  rw [hg] at h1
  obtain ⟨e, he, h⟩ := h7 h1
  simp only [Bool.and_eq_true, beq_iff_eq] at h
  exact ⟨e, he, h⟩
 ·intro cs b e
  rw [e] at h3
  cases h3
 ·intro e he hb
  have := List.all_eq_true.1 h4 e (by simpa using he)
  simpa [hb] using this
 ·rcases (h6 i oi hi hoi).1 with (h | h) | h
  ·exact absurd h hne
  ·rw [ht] at h; cases h
  ·rw [ht] at h; exact fun e => h e.symm
 ·have := List.all_eq_true.1 (h6 i oi hi hoi).2 _ (by simpa using hx)
  simp only [ht, beq_self_eq_true, Bool.not_true, Bool.false_or] at this
  obtain ⟨e, he, h⟩ := h7 this
  simp only [Bool.and_eq_true, beq_iff_eq] at h
  exact ⟨e, he, h⟩

theorem qay (a : Act) (d : Option Tmp) (v : Value) : (a.put d v).tmps.size = a.tmps.size := by cases d <;> simp [Act.put]
theorem put_get (a : Act) (d : Nat) (v : Value) (t : Nat) : (a.put (some d) v).tmps[t]? = if t = d then (if t < a.tmps.size then some v else none) else a.tmps[t]? := by
 by_cases h : t = d
 ·subst h
  simp [Act.put, Array.getElem?_setIfInBounds]
 ·rw [if_neg h]
  simp [Act.put, Array.getElem?_setIfInBounds_ne (Ne.symm h)]
theorem put_get_ne (a : Act) (d : Option Tmp) (v : Value) (t : Nat) (h : d ≠ some t) : (a.put d v).tmps[t]? = a.tmps[t]? := by
 cases d with
 | none => rfl
 | some d => rw [put_get, if_neg (fun e => h (by rw [e]))]
theorem put_defers' (a : Act) (d : Option Tmp) (v : Value) : (a.put d v).defers = a.defers := by cases d <;> rfl
theorem putAll_size : ∀ (ls : List Oper) (us : List Value) (a : Act), (putAll a ls us).tmps.size = a.tmps.size
 | [], us, a => by cases us <;> rfl
 | o :: r, [], a => rfl
 | o :: r, u :: us, a => by rw [putAll, putAll_size r us, qay]
theorem putAll_defers : ∀ (ls : List Oper) (us : List Value) (a : Act), (putAll a ls us).defers = a.defers
 | [], us, a => by cases us <;> rfl
 | o :: r, [], a => rfl
 | o :: r, u :: us, a => by rw [putAll, putAll_defers r us, put_defers']
theorem putAll_get (b : Act) (t : Nat) : ∀ (ls : List Oper) (a : Act),
  (putAll a ls (ls.map fun o => valD o.dst b)).tmps[t]? = if ∃ o ∈ ls, o.dst = some t then (if t < a.tmps.size then some (b.eval (.tmp t)) else none) else a.tmps[t]?
 | [], a => by simp [putAll]
 | o :: r, a => by
   rw [List.map_cons, putAll, putAll_get b t r, qay]
   by_cases h1 : ∃ x ∈ r, x.dst = some t
   ·have e : ∃ x ∈ o :: r, x.dst = some t := by obtain ⟨x, hx, e⟩ := h1; exact ⟨x, by simp [hx], e⟩
    rw [if_pos h1, if_pos e]
   ·rw [if_neg h1]
    by_cases h2 : o.dst = some t
    ·have e : ∃ x ∈ o :: r, x.dst = some t := ⟨o, by simp, h2⟩
     rw [if_pos e, h2, put_get, if_pos rfl]
     rfl
    ·rw [put_get_ne _ _ _ _ h2, if_neg]
     rintro ⟨x, hx, e⟩
     rcases List.mem_cons.1 hx with rfl | hx
     ·exact h2 e
     ·exact h1 ⟨x, hx, e⟩
theorem eval_of_get {a b : Act} {t : Nat} (h : a.tmps[t]? = b.tmps[t]?) : a.eval (.tmp t) = b.eval (.tmp t) := by
 show a.tmps.getD t undef = b.tmps.getD t undef
 rw [Array.getD_eq_getD_getElem?, Array.getD_eq_getD_getElem?, h]
theorem get_eval {a : Act} {t : Nat} : a.tmps[t]? = if t < a.tmps.size then some (a.eval (.tmp t)) else none := by
 show a.tmps[t]? = if t < a.tmps.size then some (a.tmps.getD t undef) else none
 by_cases h : t < a.tmps.size
 ·rw [if_pos h, Array.getD_eq_getD_getElem?, Array.getElem?_eq_getElem h]; rfl
 ·rw [if_neg h, Array.getElem?_eq_none (by omega)]
theorem valD_put {a b : Act} {d : Option Tmp} {v : Value} (h : a.tmps.size = b.tmps.size) : valD d (a.put d v) = valD d (b.put d v) := by
 cases d with
 | none => rfl
 | some d => exact eval_of_get (by rw [put_get, put_get, if_pos rfl, if_pos rfl, h])

theorem letsOut_no : ¬ LetsOut NoQ := fun ⟨_, _, h⟩ => h
theorem wp_turn {o : Oper} {a ac : Act} {w : World} {S : Value → World → Prop} {K : Act → World → Prop} {Q : Exit → Act → World → Prop}
  (he : execOp a.eval o = execOp ac.eval o) (hs : a.tmps.size = ac.tmps.size) (h : o.wp P ac w (fun a' w' => a'.defers = ac.defers ∧ S (valD o.dst a') w') NoQ)
  (hK : ∀ v w', S (valD o.dst (a.put o.dst v)) w' → K (a.put o.dst v) w') : o.wp P a w K Q := by
 have hev : ∀ v, valD o.dst (a.put o.dst v) = valD o.dst (ac.put o.dst v) := fun v => valD_put hs
 unfold Oper.wp at *
 rw [he]
 generalize (execOp ac.eval o).run P w = r at *
 cases r with
 | ok x w' =>
   cases x <;> simp only [Oper.upon] at h ⊢
   case value v => exact hK v w' (by rw [hev]; exact h.2)
   case skip => exact hK _ w' (by rw [hev]; exact h.2)
   case defer dd =>
    have := h.1
    rw [put_defers'] at this
    exact absurd this (by simp)
   case enter f args =>
    refine Calls.mono h fun e w'' hh => ?_
    cases e with
    | returned v => exact hK v w'' (by rw [hev]; exact hh.2)
    | panicked c => exact hh.elim
    | outgrown => exact absurd hh letsOut_no
   case row row args => exact Rows.mono h fun v w'' hh => hK v w'' (by rw [hev]; exact hh.2)
 | halt x w' =>
   cases x <;> simp only [Oper.upon] at h ⊢
   case panic v => exact h.elim

def valsOf (l : List Oper) (a : Act) : Nat → Value := fun j => match l[j]? with | some o => valD o.dst a | none => undef
def DepF (F : (Nat → Value) → Nat → Value → World → Prop) (l : List Oper) (n : Nat) : Prop := ∀ i o g g' u w, i < n → l[i]? = some o → (∀ e ∈ o.after, Region.binds .any e = true → g e.on = g' e.on) → F g i u w → F g' i u w
def ancB (l : List Oper) : Nat → Nat → Nat → Bool
 | 0, _, _ => false
 | f + 1, j, k => match l[j]? with
   | none => false
   | some oj => oj.after.toList.any fun e => Region.binds .any e && (e.on == k || ancB l f e.on k)
theorem listed_anc {l : List Oper} {listed : Array Bool} (hc : ∀ j oj, l.toArray[j]? = some oj → listed.getD j false = true → ∀ e ∈ oj.after, Region.binds .any e = true → listed.getD e.on false = true) :
  ∀ (f j k : Nat), ancB l f j k = true → listed.getD j false = true → listed.getD k false = true
 | 0, _, _, h, _ => by cases h
 | f + 1, j, k, h, hj => by
   unfold ancB at h
   cases ho : l[j]? with
   | none => rw [ho] at h; cases h
   | some oj =>
     rw [ho] at h
     obtain ⟨e, he, h⟩ := List.any_eq_true.1 h
     simp only [Bool.and_eq_true, Bool.or_eq_true, beq_iff_eq] at h
     have h1 := hc j oj (by simpa using ho) hj e (by simpa using he) h.1
     rcases h.2 with h2 | h2
     ·rw [← h2]; exact h1
     ·exact listed_anc hc f e.on k h2 h1
def DeadF (dead : Nat → Nat → Bool) (l : List Oper) (n : Nat) : Prop := ∀ i j k ok, dead i j = true → j < n → k < n → l[k]? = some ok → (∃ e ∈ ok.after, Region.binds .any e = true ∧ e.on = i) → k = j ∨ (j < l.length ∧ ancB l l.length j k = true)
structure RInv (C : World → Prop) (F : (Nat → Value) → Nat → Value → World → Prop) (I : Nat → World → Prop) (dead : Nat → Nat → Bool) (l : List Oper) (n : Nat) (a0 : Act) (listed : Array Bool) (a : Act) (w : World) : Prop where
 head : HeadInv .any l.toArray n listed
 cls : C w
 facts : ∀ i o, i < n → l[i]? = some o → listed.getD i false = true → (∀ j, j < n → dead i j = true → listed.getD j true = false) → F (valsOf l a) i (valD o.dst a) w
 init : ∀ i, i < n → listed.getD i true = false → I i w
 rest : ∀ t, (∀ i o, i < n → l[i]? = some o → listed.getD i false = true → o.dst ≠ some t) → a.tmps[t]? = a0.tmps[t]?
 size : a.tmps.size = a0.tmps.size
 defers : a.defers = a0.defers

def fullB (n m : Nat) : Array Bool := (List.replicate n true ++ List.replicate (m - n) false).toArray
theorem full_eq {listed : Array Bool} {n m : Nat} (hs : listed.size = m) (hn : n ≤ m) (h1 : ∀ i, i < n → listed.getD i true = true) (h2 : ∀ t, n ≤ t → t < m → listed.getD t true = false) : listed = fullB n m := by
 have hz : (fullB n m).size = m := by unfold fullB; simp; omega
 refine Array.ext (hs.trans hz.symm) fun i hi hi2 => ?_
 rw [hs] at hi
 have e1 : listed[i] = listed.getD i true := by
  rw [Array.getD_eq_getD_getElem?, Array.getElem?_eq_getElem (by omega)]; rfl
 have e2 : (fullB n m)[i] = decide (i < n) := by
  have : (fullB n m)[i]? = some (decide (i < n)) := by
   unfold fullB
   rw [List.getElem?_toArray, List.getElem?_append]
   simp only [List.length_replicate, List.getElem?_replicate]
   by_cases h : i < n
   ·simp [h]
   ·simp [h]; omega
  rw [Array.getElem?_eq_getElem hi2] at this
  exact Option.some.inj this
 rw [e1, e2]
 by_cases h : i < n
 ·rw [h1 i h]; simp [h]
 ·rw [h2 i (by omega) hi]; simp [h]

theorem rely_step {l : List Oper} {n : Nat} {a0 : Act} {Fin : Act → World → Prop} {Q : Exit → Act → World → Prop} (hB : headB l n = true) (hn : n ≤ l.length)
  (hD : DepF F l n) (hX : DeadF dead l n) (hI : ∀ i j w w', i ≠ j → C w → G j w w' → I i w → I i w') (hG : ∀ g i j u w w', i ≠ j → dead i j = false → C w → G j w w' → F g i u w → F g i u w') (hGr : ∀ j w, C w → G j w w) (H : wpRelyE P l.toArray C G F I dead Fin (l.take n) [] a0)
  {listed : Array Bool} {a : Act} {w : World} (inv : RInv C F I dead l n a0 listed a w) {i : Nat} (hi : i ∈ Region.ready .any l.toArray listed) (hin : i < n) :
  wpOp P l.toArray Q i (fun a' w' => RInv C F I dead l n a0 (listed.setIfInBounds i true) a' w') a w := by
 obtain ⟨hun, o, ho, hall⟩ := mem_ready.1 hi
 have ho' : l[i]? = some o := by simpa using ho
 have hA := headAt hB hin ho'
 have hlt : i < l.length := by omega
 have hti : (l.take n).take i = l.take i := by rw [List.take_take, Nat.min_eq_left (by omega)]
 have hus : ∀ j, ((l.take i).map fun x => valD x.dst a)[j]? = if j < i then (l[j]?).map (fun x => valD x.dst a) else none := fun j => by
  rw [List.getElem?_map, List.getElem?_take]
  split <;> simp
 have hget : ∀ j, j < i → getv ((l.take i).map fun x => valD x.dst a) j = valsOf l a j := fun j hj => by
  unfold getv valsOf
  rw [List.getD_eq_getElem?_getD, hus, if_pos hj]
  cases l[j]? <;> rfl
 have hlive : ∀ e ∈ o.after, Region.binds .any e = true → ∀ j, j < n → dead e.on j = true → listed.getD j true = false := fun e he hb j hj hdj => by
  rcases hX e.on j i o hdj hj hin ho' ⟨e, he, hb, rfl⟩ with rfl | ⟨hjl, hanc⟩
  ·exact hun
  ·cases hq : listed.getD j true with
   | false => rfl
   | true =>
     exfalso
     have hsj : j < listed.size := by rw [inv.head.size]; simpa using hjl
     have hq' : listed.getD j false = true := by simp [hsj] at hq ⊢; exact hq
     have h9 := listed_anc inv.head.closed _ j i hanc hq'
     have hsz : i < listed.size := by rw [inv.head.size]; simpa using hlt
     simp [hsz] at h9 hun
     rw [h9] at hun
     cases hun
 have hspec := rely_at (l.take n) [] ((l.take i).map fun x => valD x.dst a) a0 i o H (by rw [List.getElem?_take, if_pos hin]; exact ho') (by rw [List.length_map, List.length_take]; omega) w inv.cls (by rw [List.length_nil, Nat.zero_add]; exact inv.init i hin hun) (by
  intro e he hb u hu
  rw [List.nil_append, hus] at hu
  have heb := hA.back e (by simpa using he) hb
  rw [if_pos heb] at hu
  obtain ⟨x, hx, rfl⟩ := Option.map_eq_some_iff.1 hu
  refine hD e.on x _ _ _ _ (by omega) hx (fun e' he' hb' => ?_) (inv.facts e.on x (by omega) hx (hall e (by simpa using he) hb) (hlive e (by simpa using he) hb))
  have hlt' := (headAt hB (by omega) hx).back e' he' hb'
  rw [List.nil_append]
  exact (hget e'.on (by omega)).symm) (fun v w' => C w' ∧ G i w w' ∧ F (getv ((l.take i).map fun x => valD x.dst a)) i v w') (fun v w' h1 h2 h3 => ⟨h1, by simpa using h2, by simpa using h3⟩)
 -- the canonical state: the head's first i targets as they are now
 have hpt : ∀ (ls ms : List Oper) (us : List Value) (b : Act), us.length = ls.length → putAll b (ls ++ ms) us = putAll b ls us := by
  intro ls
  induction ls with
  | nil => intro ms us b hl; have : us = [] := List.eq_nil_of_length_eq_zero (by simpa using hl); subst this; cases ms <;> rfl
  | cons x r ih =>
    intro ms us b hl
    cases us with
    | nil => simp at hl
    | cons u us => simp only [List.cons_append, putAll]; exact ih ms us _ (by simpa using hl)
 have hcut : l.take n = l.take i ++ (l.take n).drop i := by rw [← hti, List.take_append_drop]
 have hac : ∀ t, (putAll a0 (l.take n) ((l.take i).map fun x => valD x.dst a)).tmps[t]? = if ∃ x ∈ l.take i, x.dst = some t then a.tmps[t]? else a0.tmps[t]? := fun t => by
  rw [hcut, hpt _ _ _ _ (by simp), putAll_get a t (l.take i) a0]
  by_cases h : ∃ x ∈ l.take i, x.dst = some t
  ·rw [if_pos h, if_pos h, get_eval, inv.size]
  ·rw [if_neg h, if_neg h]
 -- what it looks at reads there as it does now
 have hsame : ∀ t, (∀ j oj, j < n → l[j]? = some oj → oj.dst = some t → ∃ e ∈ o.after, e.on = j ∧ Region.binds .any e = true) → a.tmps[t]? = (putAll a0 (l.take n) ((l.take i).map fun x => valD x.dst a)).tmps[t]? := fun t ht => by
  rw [hac]
  by_cases h : ∃ x ∈ l.take i, x.dst = some t
  ·rw [if_pos h]
  ·rw [if_neg h]
   refine inv.rest t fun j oj hj hoj hl e => ?_
   obtain ⟨e2, he, hon, hb⟩ := ht j oj hj hoj e
   have := hA.back e2 he hb
   exact h ⟨oj, List.mem_of_getElem? (by rw [List.getElem?_take, if_pos (show j < i by omega)]; exact hoj), e⟩
 have heq : execOp a.eval o = execOp (putAll a0 (l.take n) ((l.take i).map fun x => valD x.dst a)).eval o := by
  refine execOp_congr o hA.sel fun x hx => ?_
  cases x with
  | tmp t => exact eval_of_get (hsame t fun j oj hj hoj e => hA.looks j oj t hj hoj e hx)
  | _ => rfl
 have hwant : Region.wanted o (yielded l.toArray (putAll a0 (l.take n) ((l.take i).map fun x => valD x.dst a)).tmps) = Region.wanted o (yielded l.toArray a.tmps) := by
  unfold Region.wanted
  cases hg : o.guard with
  | none => rfl
  | some gw =>
    obtain ⟨g, want⟩ := gw
    obtain ⟨e, he, hon, hb⟩ := hA.hang g want hg
    have hgi := hA.back e he hb
    have hy : yielded l.toArray (putAll a0 (l.take n) ((l.take i).map fun x => valD x.dst a)).tmps g = yielded l.toArray a.tmps g := by
     unfold yielded
     cases ht : (l.toArray[g]?).bind (·.dst) with
     | none => rfl
     | some t =>
       obtain ⟨og, hog, hdt⟩ := Option.bind_eq_some_iff.1 ht
       have hog' : l[g]? = some og := by simpa using hog
       have : a.tmps[t]? = (putAll a0 (l.take n) ((l.take i).map fun x => valD x.dst a)).tmps[t]? := by
        rw [hac, if_pos ⟨og, List.mem_of_getElem? (by rw [List.getElem?_take, if_pos (show g < i by omega)]; exact hog'), hdt⟩]
       show (match (some t).bind ((putAll a0 (l.take n) ((l.take i).map fun x => valD x.dst a)).tmps[·]?) with | some (.bool b) => some b | _ => none) = (match (some t).bind (a.tmps[·]?) with | some (.bool b) => some b | _ => none)
       simp only [Option.bind_some, this]
    simp only [hy]
 rw [hwant] at hspec
 have hval : ∀ {v : Value} (j : Nat), j < n → j ≠ i → valsOf l (a.put o.dst v) j = valsOf l a j := fun j hjn hj => by
  unfold valsOf
  cases hoj : l[j]? with
  | none => rfl
  | some oj =>
    show valD oj.dst (a.put o.dst _) = valD oj.dst a
    cases hd : oj.dst with
    | none => rfl
    | some t =>
      exact eval_of_get (put_get_ne _ _ _ _ (hA.own j oj t hjn hoj hj hd))
 have next : ∀ v w', C w' → G i w w' → F (getv ((l.take i).map fun x => valD x.dst a)) i (valD o.dst (a.put o.dst v)) w' → RInv C F I dead l n a0 (listed.setIfInBounds i true) (a.put o.dst v) w' := by
  intro v w' h1 h2 h3
  refine ⟨inv.head.set hi hin, h1, fun j oj hj hoj hl hdd => ?_, fun j hj hl => ?_, fun t ht => ?_, by rw [qay]; exact inv.size, by rw [put_defers']; exact inv.defers⟩
  ·by_cases hji : j = i
   ·subst hji
    have : oj = o := Option.some.inj (hoj.symm.trans ho')
    subst this
    refine hD j oj _ _ _ _ hj hoj (fun e he hb => ?_) h3
    have hlt' := hA.back e he hb
    rw [hget e.on (by omega)]
    exact (hval e.on (by omega) (by omega)).symm
   ·rw [getD_set_ne false (Ne.symm hji)] at hl
    have hsz0 : i < listed.size := by rw [inv.head.size]; simpa using hlt
    have hdi : dead j i = false := by
     cases hq : dead j i with
     | false => rfl
     | true =>
       have := hdd i hin hq
       simp [hsz0] at this
    have hdd' : ∀ k, k < n → dead j k = true → listed.getD k true = false := fun k hk hq => by
     have h9 := hdd k hk hq
     by_cases hki : k = i
     ·subst hki; rw [hdi] at hq; cases hq
     ·rwa [getD_set_ne true (Ne.symm hki)] at h9
    have e : valD oj.dst (a.put o.dst v) = valD oj.dst a := by
     cases hd : oj.dst with
     | none => rfl
     | some t => exact eval_of_get (put_get_ne _ _ _ _ (hA.own j oj t hj hoj hji hd))
    rw [e]
    refine hD j oj _ _ _ _ hj hoj (fun e' he' hb' => ?_) (hG _ _ _ _ _ _ hji hdi inv.cls h2 (inv.facts j oj hj hoj hl hdd'))
    have hne : e'.on ≠ i := fun e9 => by
     have h9 := inv.head.closed j oj (by simpa using hoj) hl e' he' hb'
     rw [e9] at h9
     have hsz : i < listed.size := by rw [inv.head.size]; simpa using hlt
     simp [hsz] at h9 hun
     rw [h9] at hun
     cases hun
    exact (hval e'.on (by have := (headAt hB hj hoj).back e' he' hb'; omega) hne).symm
  ·have hji : j ≠ i := fun e => by
    subst e
    have hsz0 : j < listed.size := by rw [inv.head.size]; simpa using hlt
    simp [hsz0] at hl
   rw [getD_set_ne true (Ne.symm hji)] at hl
   exact hI _ _ _ _ hji inv.cls h2 (inv.init j hj hl)
  ·have hti : o.dst ≠ some t := ht i o hin ho' (by
    have hsz : i < listed.size := by rw [inv.head.size]; simpa using hlt
    simp [hsz])
   rw [put_get_ne _ _ _ _ hti]
   exact inv.rest t fun j oj hj hoj hl => ht j oj hj hoj (getD_set_true hl)
 unfold wpOp
 simp only [ho]
 by_cases hw : Region.wanted o (yielded l.toArray a.tmps) = true
 ·rw [if_pos hw] at hspec ⊢
  refine Or.inl (wp_turn (S := fun v w' => C w' ∧ G i w w' ∧ F (getv ((l.take i).map fun x => valD x.dst a)) i v w') heq (by rw [putAll_size]; exact inv.size) hspec ?_)
  rintro v w' ⟨h1, h2, h3⟩
  exact next v w' h1 h2 h3
 ·rw [if_neg hw] at hspec ⊢
  obtain ⟨h1, h2, h3⟩ := hspec
  refine next undef w h1 h2 ?_
  have e : valD o.dst (a.put o.dst undef) = undef := by
   cases o.dst with
   | none => rfl
   | some t =>
     show (a.put (some t) undef).tmps.getD t undef = undef
     rw [Array.getD_eq_getD_getElem?, put_get, if_pos rfl]
     split <;> rfl
  rw [e]
  exact h3

theorem rely_go {l : List Oper} {n : Nat} {a0 : Act} {Q : Exit → Act → World → Prop} (hB : headB l n = true) (hn : n ≤ l.length)
  (hs : n = l.length ∨ (Region.sinkB .any l.toArray n = true ∧ Region.chainB .any l.toArray n = true)) (hq : Region.seqB .any l.toArray (l.length - n) n (fullB n l.length) = true)
  (hD : DepF F l n) (hX : DeadF dead l n) (hI : ∀ i j w w', i ≠ j → C w → G j w w' → I i w → I i w') (hG : ∀ g i j u w w', i ≠ j → dead i j = false → C w → G j w w' → F g i u w → F g i u w') (hGr : ∀ j w, C w → G j w w) (H : wpRelyE P l.toArray C G F I dead (fun a' w' => wpList P l.toArray Q (l.drop n) a' w') (l.take n) [] a0) :
  ∀ (f : Nat) (listed : Array Bool) (a : Act) (w : World), unl listed n = f → RInv C F I dead l n a0 listed a w → wpAny P .any l.toArray Q (f + (l.length - n)) listed a w
 | 0, listed, a, w, hf, inv => by
   have hz := unl_zero hf
   have hfull : listed = fullB n l.length := full_eq (by rw [inv.head.size]; simp) (by omega) hz (fun t h1 h2 => inv.head.tail t h1 (by simpa using h2))
   rw [hfull, Nat.zero_add]
   have hd := wpAny_of_seq (P := P) (ops := l.toArray) (md := .any) (Q' := Q) (l.drop n) n (fullB n l.length) a w (fun j => by simp [List.getElem?_drop]) (by rw [List.length_drop]; exact hq)
   rw [List.length_drop] at hd
   refine hd ?_
   have hl : ∀ i, i < n → listed.getD i false = true := fun i hi => by
    have := hz i hi
    have hsz : i < listed.size := by rw [inv.head.size, List.size_toArray]; omega
    simp [hsz] at this ⊢; exact this
   have := rely_fin (l.take n) [] ((l.take n).map fun x => valD x.dst a) a0 H (by simp) w inv.cls (by
    intro i u hu hdd
    rw [List.nil_append, List.getElem?_map, List.getElem?_take] at hu
    by_cases hi : i < n
    ·rw [if_pos hi] at hu
     obtain ⟨x, hx, rfl⟩ := Option.map_eq_some_iff.1 hu
     refine hD i x _ _ _ _ hi hx (fun e he hb => ?_) (inv.facts i x hi hx (hl i hi) (fun j hj hq => by rw [hdd j (by simp; omega)] at hq; cases hq))
     have hlt := (headAt hB hi hx).back e he hb
     unfold valsOf getv
     rw [List.nil_append, List.getD_eq_getElem?_getD, List.getElem?_map, List.getElem?_take, if_pos (show e.on < n by omega)]
     cases l[e.on]? <;> rfl
    ·rw [if_neg hi] at hu; cases hu)
   have hact : putAll a0 (l.take n) ((l.take n).map fun x => valD x.dst a) = a := by
    have h1 : (putAll a0 (l.take n) ((l.take n).map fun x => valD x.dst a)).tmps = a.tmps := by
     apply Array.ext_getElem?
     intro t
     rw [putAll_get a t]
     by_cases h : ∃ x ∈ l.take n, x.dst = some t
     ·rw [if_pos h, get_eval, inv.size]
     ·rw [if_neg h]
      exact (inv.rest t fun j oj hj hoj _ e => h ⟨oj, List.mem_of_getElem? (by rw [List.getElem?_take, if_pos hj]; exact hoj), e⟩).symm
    have h2 := putAll_defers (l.take n) ((l.take n).map fun x => valD x.dst a) a0
    rw [← inv.defers] at h2
    generalize putAll a0 (l.take n) ((l.take n).map fun x => valD x.dst a) = b at *
    obtain ⟨bt, bd⟩ := b
    obtain ⟨ct, cd⟩ := a
    simp only at h1 h2
    subst h1; subst h2; rfl
   rw [hact] at this
   exact this
 | f + 1, listed, a, w, hf, inv => by
   obtain ⟨i0, hi0, hun0, hbelow⟩ := unl_pos (listed := listed) (n := n) (by omega)
   rw [show f + 1 + (l.length - n) = (f + (l.length - n)) + 1 by omega]
   refine ⟨fun hnil => ?_, fun i hi => ?_⟩
   ·exfalso
    have ho : l[i0]? = some l[i0] := List.getElem?_eq_getElem (by omega)
    have hA := headAt hB hi0 ho
    have : i0 ∈ Region.ready .any l.toArray listed := mem_ready.2 ⟨hun0, l[i0], by simp, fun e he hb => by
     have hlt := hA.back e he hb
     have := hbelow e.on hlt
     have hsz : e.on < listed.size := by rw [inv.head.size]; simp; omega
     simp [hsz] at this ⊢; exact this⟩
    rw [hnil] at this
    cases this
   ·have hin : i < n := by
     rcases Nat.lt_or_ge i n with h | h
     ·exact h
     ·rcases hs with hs | ⟨hs, hc⟩
      ·obtain ⟨_, o, ho, _⟩ := mem_ready.1 hi
       have := (Array.getElem?_eq_some_iff.1 ho).1
       simp at this
       omega
      ·have hil : i < l.length := by
        obtain ⟨_, o, ho, _⟩ := mem_ready.1 hi
        have := (Array.getElem?_eq_some_iff.1 ho).1
        simpa using this
       exact absurd hi (tail_waits hs hc (by simp; omega) inv.head _ i0 rfl hi0 hun0 i h)
    have hu := unl_set (mem_ready.1 hi).1 n
    rw [if_pos hin] at hu
    exact wpOp_mono (fun a' w' h' => rely_go hB hn hs hq hD hX hI hG hGr H f _ a' w' (by omega) h') (rely_step hB hn hD hX hI hG hGr H inv hi hin)

def edgeB (o : Oper) (i : Nat) : Bool := o.after.toList.any fun e => Region.binds .any e && e.on == i
def deadB (dead : Nat → Nat → Bool) (l : List Oper) (n : Nat) : Bool :=
 (List.range n).all fun i => (List.range n).all fun j => !dead i j || ((List.range n).all fun k => match l[k]? with
  | none => true
  | some ok => !edgeB ok i || k == j || (decide (j < l.length) && ancB l l.length j k))
theorem edgeB_of {o : Oper} {i : Nat} (h : ∃ e ∈ o.after, Region.binds .any e = true ∧ e.on = i) : edgeB o i = true := by
 obtain ⟨e, he, hb, hi⟩ := h
 exact List.any_eq_true.2 ⟨e, by simpa using he, by simp [hb, hi]⟩
theorem dead_of {dead : Nat → Nat → Bool} {l : List Oper} {n : Nat} (hB : headB l n = true) (h : deadB dead l n = true) : DeadF dead l n := fun i j k ok hd hj hk ho he => by
 have hin : i < n := by
  obtain ⟨e, he2, hb, rfl⟩ := he
  have := (headAt hB hk ho).back e he2 hb
  omega
 have h1 := List.all_eq_true.1 h i (List.mem_range.2 hin)
 have h2 := List.all_eq_true.1 h1 j (List.mem_range.2 hj)
 rw [hd] at h2
 simp only [Bool.not_true, Bool.false_or] at h2
 have h3 := List.all_eq_true.1 h2 k (List.mem_range.2 hk)
 rw [ho] at h3
 simp only [Bool.or_eq_true, edgeB_of he, Bool.not_true, Bool.false_eq_true, false_or, beq_iff_eq, Bool.and_eq_true, decide_eq_true_eq] at h3
 exact h3

theorem wp_region_relyE {id : Nat} {Q : Exit → Act → World → Prop} {a : Act} {w : World} {l : List Oper} (n : Nat) (C : World → Prop) (G : Nat → World → World → Prop) (F : (Nat → Value) → Nat → Value → World → Prop) (I : Nat → World → Prop) (dead : Nat → Nat → Bool)
  (hm : P.follows .mixedOrders = true) (hn : n ≤ l.length) (hB : headB l n = true)
  (hs : n = l.length ∨ (Region.sinkB .any l.toArray n = true ∧ Region.chainB .any l.toArray n = true)) (hq : Region.seqB .any l.toArray (l.length - n) n (fullB n l.length) = true)
  (hC : C w.drew) (hD : DepF F l n) (hX : DeadF dead l n) (hI0 : ∀ i, I i w.drew) (hI : ∀ i j w w', i ≠ j → C w → G j w w' → I i w → I i w') (hG : ∀ g i j u w w', i ≠ j → dead i j = false → C w → G j w w' → F g i u w → F g i u w') (hGr : ∀ j w, C w → G j w w)
  (h : wpRelyE P l.toArray C G F I dead (fun a' w' => wpList P l.toArray Q (l.drop n) a' w') (l.take n) [] a) : (Code.region id l.toArray true).wp P Q a w := by
 refine wp_region_any hm ?_
 have hu : ∀ m, m ≤ l.length → unl (Array.replicate l.length false) m = m := fun m => by
  induction m with
  | zero => intro _; rfl
  | succ m ih =>
    intro hm
    have hml : m < l.length := by omega
    unfold unl
    rw [ih (by omega)]
    simp [hml]
 have := rely_go (Q := Q) hB hn hs hq hD hX hI hG hGr h n (Array.replicate l.toArray.size false) a w.drew (by rw [show l.toArray.size = l.length by simp]; exact hu n hn)
  ⟨⟨by simp, fun j oj _ hl => (by rw [getD_replicate_false] at hl; cases hl), fun t _ ht => getD_in (by simpa using ht) (getD_replicate_false _ _)⟩, hC,
   fun i o _ _ hl => (by rw [getD_replicate_false] at hl; cases hl), fun i _ _ => hI0 i, fun t _ => rfl, rfl, rfl⟩
 rw [show n + (l.length - n) = l.toArray.size by simp; omega] at this
 exact this

theorem wp_region_relyD {id : Nat} {Q : Exit → Act → World → Prop} {a : Act} {w : World} {l : List Oper} (n : Nat) (C : World → Prop) (G : Nat → World → World → Prop) (F : (Nat → Value) → Nat → Value → World → Prop)
  (hm : P.follows .mixedOrders = true) (hn : n ≤ l.length) (hB : headB l n = true)
  (hs : n = l.length ∨ (Region.sinkB .any l.toArray n = true ∧ Region.chainB .any l.toArray n = true)) (hq : Region.seqB .any l.toArray (l.length - n) n (fullB n l.length) = true)
  (hC : C w.drew) (hD : DepF F l n) (hG : ∀ g i j u w w', i ≠ j → C w → G j w w' → F g i u w → F g i u w') (hGr : ∀ j w, C w → G j w w)
  (h : wpRely P l.toArray C G F (fun a' w' => wpList P l.toArray Q (l.drop n) a' w') (l.take n) [] a) : (Code.region id l.toArray true).wp P Q a w :=
 wp_region_relyE n C G F (fun _ _ => True) (fun _ _ => false) hm hn hB hs hq hC hD (fun _ _ _ _ h => by cases h) (fun _ => trivial) (fun _ _ _ _ _ _ _ _ => trivial) (fun g i j u w w' hne _ => hG g i j u w w' hne) hGr (wpRely_toE h)

theorem wp_region_relyJ {id : Nat} {Q : Exit → Act → World → Prop} {a : Act} {w : World} {l : List Oper} (n : Nat) (C : World → Prop) (G : Nat → World → World → Prop) (F : Nat → Value → World → Prop)
  (hm : P.follows .mixedOrders = true) (hn : n ≤ l.length) (hB : headB l n = true)
  (hs : n = l.length ∨ (Region.sinkB .any l.toArray n = true ∧ Region.chainB .any l.toArray n = true)) (hq : Region.seqB .any l.toArray (l.length - n) n (fullB n l.length) = true)
  (hC : C w.drew) (hG : ∀ i j u w w', i ≠ j → C w → G j w w' → F i u w → F i u w') (hGr : ∀ j w, C w → G j w w)
  (h : wpRely P l.toArray C G (fun _ => F) (fun a' w' => wpList P l.toArray Q (l.drop n) a' w') (l.take n) [] a) : (Code.region id l.toArray true).wp P Q a w :=
 wp_region_relyD n C G (fun _ => F) hm hn hB hs hq hC (fun _ _ _ _ _ _ _ _ _ h => h) (fun _ => hG) hGr h

theorem wp_region_rely {id : Nat} {Q : Exit → Act → World → Prop} {a : Act} {w : World} {l : List Oper} (n : Nat) (C : World → Prop) (G : World → World → Prop) (F : Nat → Value → World → Prop)
  (hm : P.follows .mixedOrders = true) (hn : n ≤ l.length) (hB : headB l n = true)
  (hs : n = l.length ∨ (Region.sinkB .any l.toArray n = true ∧ Region.chainB .any l.toArray n = true)) (hq : Region.seqB .any l.toArray (l.length - n) n (fullB n l.length) = true)
  (hC : C w.drew) (hG : ∀ i u w w', C w → G w w' → F i u w → F i u w') (hGr : ∀ w, C w → G w w)
  (h : wpRely P l.toArray C (fun _ => G) (fun _ => F) (fun a' w' => wpList P l.toArray Q (l.drop n) a' w') (l.take n) [] a) : (Code.region id l.toArray true).wp P Q a w :=
 wp_region_relyJ n C (fun _ => G) F hm hn hB hs hq hC (fun i _ u w w' _ => hG i u w w') (fun _ => hGr) h

end
end Go.Proofs.YtfbonocadpknbaaGreatDoor
namespace Go.Proofs.YtfbonocadpknbaaGreatDoor
open Go.RowKit
theorem flat_at {k : Nat} : ∀ {css : List (List Value)} {i j : Nat} {cs : List Value}, (∀ c ∈ css, c.length = k) → css[i]? = some cs → j < k → css.flatten[i * k + j]? = cs[j]?
 | [], i, j, cs, _, e, _ => by simp at e
 | c :: r, 0, j, cs, hk, e, hj => by
   simp at e; subst e
   have := hk c (by simp)
   rw [List.flatten_cons, List.getElem?_append_left (by omega)]; simp
 | c :: r, i + 1, j, cs, hk, e, hj => by
   have h1 := hk c (by simp)
   have h2 := flat_at (css := r) (i := i) (j := j) (cs := cs) (fun x hx => hk x (by simp [hx])) (by simpa using e) hj
   rw [List.flatten_cons, List.getElem?_append_right (by rw [Nat.add_mul]; omega), ← h2]
   congr 1
   rw [Nat.add_mul]; omega
theorem flat_len {k : Nat} : ∀ {css : List (List Value)}, (∀ c ∈ css, c.length = k) → css.flatten.length = css.length * k
 | [], _ => by simp
 | c :: r, h => by
   have h1 := h c (by simp)
   have h2 := flat_len (css := r) (fun x hx => h x (by simp [hx]))
   rw [List.flatten_cons, List.length_append, h1, h2, List.length_cons, Nat.add_mul]; omega

structure Rows {α : Type} (k : Nat) (R : RowRel α) (lo : Nat) (w : World) (css : List (List Value)) (xs : List α) : Prop where
 len : css.length = xs.length
 row : ∀ (i : Nat) (x : α) (cs : List Value), xs[i]? = some x → css[i]? = some cs → cs.length = k ∧ R lo w cs x
theorem Rows.each {α : Type} {k : Nat} {R : RowRel α} {lo : Nat} {w : World} {css : List (List Value)} {xs : List α} (h : Rows k R lo w css xs) : ∀ c ∈ css, c.length = k := fun c hc => by
 obtain ⟨i, hi⟩ := List.mem_iff_getElem?.1 hc
 have hl := (List.getElem?_eq_some_iff.1 hi).1
 obtain ⟨x, hx⟩ : ∃ x, xs[i]? = some x := ⟨_, List.getElem?_eq_getElem (by rw [← h.len]; exact hl)⟩
 exact (h.row i x c hx hi).1
theorem Rows.nil {α : Type} {k : Nat} {R : RowRel α} {lo : Nat} {w : World} : Rows k R lo w [] ([] : List α) := ⟨rfl, fun i x cs h => by simp at h⟩
theorem Rows.append {α : Type} {k : Nat} {R : RowRel α} {lo : Nat} {w : World} {c1 c2 : List (List Value)} {x1 x2 : List α} (h1 : Rows k R lo w c1 x1) (h2 : Rows k R lo w c2 x2) : Rows k R lo w (c1 ++ c2) (x1 ++ x2) := by
 refine ⟨by rw [List.length_append, List.length_append, h1.len, h2.len], fun i x cs hx hc => ?_⟩
 by_cases hi : i < x1.length
 ·rw [List.getElem?_append_left hi] at hx
  rw [List.getElem?_append_left (by rw [h1.len]; exact hi)] at hc
  exact h1.row i x cs hx hc
 ·rw [List.getElem?_append_right (by omega)] at hx
  rw [List.getElem?_append_right (by rw [h1.len]; omega), h1.len] at hc
  exact h2.row _ x cs hx hc
theorem Rows.one {α : Type} {k : Nat} {R : RowRel α} {lo : Nat} {w : World} {cs : List Value} {x : α} (hl : cs.length = k) (h : R lo w cs x) : Rows k R lo w [cs] [x] :=
 ⟨rfl, fun i y c hy hc => by
  cases i with
  | zero => simp at hy hc; subst hy; subst hc; exact ⟨hl, h⟩
  | succ i => simp at hy⟩
theorem Rows.take {α : Type} {k : Nat} {R : RowRel α} {lo : Nat} {w : World} {css : List (List Value)} {xs : List α} (h : Rows k R lo w css xs) (n : Nat) : Rows k R lo w (css.take n) (xs.take n) :=
 ⟨by rw [List.length_take, List.length_take, h.len], fun i x cs hx hc => by
  rw [List.getElem?_take] at hx hc
  split at hx
  ·rename_i hi; rw [if_pos hi] at hc; exact h.row i x cs hx hc
  ·cases hx⟩
theorem Rows.mono {α : Type} {k : Nat} {R R' : RowRel α} {lo lo' : Nat} {w w' : World} {css : List (List Value)} {xs : List α} (h : Rows k R lo w css xs) (hr : ∀ cs x, R lo w cs x → R' lo' w' cs x) : Rows k R' lo' w' css xs :=
 ⟨h.len, fun i x cs hx hc => ⟨(h.row i x cs hx hc).1, hr _ _ (h.row i x cs hx hc).2⟩⟩

def TSl {α : Type} (k : Nat) (R : RowRel α) (e : TypeId) (lo : Nat) (w : World) (v : Value) (xs : List α) : Prop :=
 ∃ css : List (List Value), Rows k R lo w css xs ∧ w.ownsRow lo e k v xs.length css.flatten
theorem TSl.nil {α : Type} {k : Nat} {R : RowRel α} {e : TypeId} {lo : Nat} {w : World} : TSl k R e lo w (.slice none 0 0) ([] : List α) :=
 ⟨[], Rows.nil, by simp, Or.inl ⟨rfl, rfl⟩⟩
theorem own_low {w : World} {base base' : Nat} {e : TypeId} {k : Nat} {v : Value} {n : Nat} {xs : List Value} (h : w.ownsRow base e k v n xs) (hb : base' ≤ base) : w.ownsRow base' e k v n xs := by
 obtain ⟨h0, h⟩ := h
 rcases h with h | ⟨g, cap, cur, h1, h2, h3⟩
 ·exact ⟨h0, Or.inl h⟩
 ·exact ⟨h0, Or.inr ⟨g, cap, cur, h1, Nat.le_trans hb h2, h3⟩⟩
theorem own_kept {w w' : World} {base : Nat} {e : TypeId} {k : Nat} {v : Value} {n : Nat} {xs : List Value} (h : w.ownsRow base e k v n xs) (hk : ∀ g cs fr, v.ownBlock = some g → base ≤ g → w.heap[g]? = some (.cells cs e fr) → w'.heap[g]? = w.heap[g]?) : w'.ownsRow base e k v n xs := by
 obtain ⟨h0, h⟩ := h
 rcases h with h | ⟨g, cap, cur, h1, h2, h3, h4⟩
 ·exact ⟨h0, Or.inl h⟩
 ·exact ⟨h0, Or.inr ⟨g, cap, cur, h1, h2, (hk g cur (0, 0) (by rw [h1]; rfl) h2 h3).trans h3, h4⟩⟩
theorem own_form {w : World} {base : Nat} {e : TypeId} {k : Nat} {v : Value} {n : Nat} {xs : List Value} (h : w.ownsRow base e k v n xs) : ∃ (a : Option Addr) (cap : Nat), v = .slice a n cap ∧ n ≤ cap ∧ cap ≤ maxLen := by
 obtain ⟨_, h⟩ := h
 rcases h with ⟨h1, h2⟩ | ⟨g, cap, cur, h1, h2, h3, h4, h5, _⟩
 ·subst h2; exact ⟨none, 0, h1, Nat.le_refl _, Nat.zero_le _⟩
 ·exact ⟨_, cap, h1, h4, h5⟩
theorem own_cell {w : World} {base : Nat} {e : TypeId} {k : Nat} {v : Value} {n : Nat} {xs : List Value} (h : w.ownsRow base e k v n xs) (hn : 0 < n) : ∃ g cap, v = .slice (some ⟨g, 0, none⟩) n cap ∧ base ≤ g ∧ g < w.heap.size ∧ n ≤ cap ∧ cap ≤ maxLen ∧ (∀ j u, xs[j]? = some u → w.cell? ⟨g, j, none⟩ = some u) ∧ (∀ j, w.frozen? ⟨g, j, none⟩ = false) := by
 obtain ⟨h0, h⟩ := h
 rcases h with ⟨_, h2⟩ | ⟨g, cap, cur, h1, h2, h3, h4, h5, h6, h7⟩
 ·omega
 ·refine ⟨g, cap, h1, h2, (Array.getElem?_eq_some_iff.1 h3).1, h4, h5, fun j u hj => ?_, fun j => ?_⟩
  ·rw [← h7, List.getElem?_take] at hj
   split at hj
   ·simp only [World.cell?, h3]
    simpa using hj
   ·cases hj
  ·simp [World.frozen?, h3]
theorem TSl.form {α : Type} {k : Nat} {R : RowRel α} {e : TypeId} {lo : Nat} {w : World} {v : Value} {xs : List α} (h : TSl k R e lo w v xs) : ∃ (a : Option Addr) (cap : Nat), v = .slice a xs.length cap ∧ xs.length ≤ cap ∧ cap ≤ maxLen := by
 obtain ⟨css, _, h⟩ := h
 exact own_form h
theorem TSl.sl {α : Type} {k : Nat} {R R' : RowRel α} {e : TypeId} {lo : Nat} {w : World} {v : Value} {xs : List α} (h : TSl k R e lo w v xs) (hr : ∀ cs x, R lo w cs x → R' lo w cs x) : Sl k R' lo w v xs := by
 obtain ⟨css, h1, h2⟩ := h
 by_cases hn : 0 < xs.length
 ·obtain ⟨g, cap, rfl, hb, hg, hc, hm, hcell, _⟩ := own_cell h2 hn
  refine ⟨_, _, _, rfl, rfl, hc, hm, fun _ => ⟨g, 0, rfl, hb, hg, fun i hi => ?_⟩⟩
  obtain ⟨x, hx⟩ : ∃ x, xs[i]? = some x := ⟨_, List.getElem?_eq_getElem hi⟩
  obtain ⟨cs, hcs⟩ : ∃ cs, css[i]? = some cs := ⟨_, List.getElem?_eq_getElem (by rw [h1.len]; exact hi)⟩
  obtain ⟨hk, hR⟩ := h1.row i x cs hx hcs
  refine ⟨x, cs, hx, hk, fun j u hj => ?_, hr _ _ hR⟩
  have hjk : j < k := by rw [← hk]; exact (List.getElem?_eq_some_iff.1 hj).1
  rw [Nat.zero_add]
  exact hcell _ u ((flat_at h1.each hcs hjk).trans hj)
 ·obtain ⟨a, cap, rfl, hc, hm⟩ := own_form h2
  exact ⟨_, _, _, rfl, rfl, hc, hm, fun h => absurd h hn⟩
theorem TSl.low {α : Type} {k : Nat} {R : RowRel α} {e : TypeId} {lo lo' : Nat} {w : World} {v : Value} {xs : List α} (h : TSl k R e lo w v xs) (hl : lo' ≤ lo) (hr : ∀ cs x, R lo w cs x → R lo' w cs x) : TSl k R e lo' w v xs := by
 obtain ⟨css, h1, h2⟩ := h
 exact ⟨css, h1.mono hr, own_low h2 hl⟩
theorem TSl.kept {α : Type} {k : Nat} {R : RowRel α} {e : TypeId} {lo : Nat} {w w' : World} {v : Value} {xs : List α} (h : TSl k R e lo w v xs) (hk : ∀ g cs fr, v.ownBlock = some g → lo ≤ g → w.heap[g]? = some (.cells cs e fr) → w'.heap[g]? = w.heap[g]?) (hr : ∀ cs x, R lo w cs x → R lo w' cs x) : TSl k R e lo w' v xs := by
 obtain ⟨css, h1, h2⟩ := h
 exact ⟨css, h1.mono hr, own_kept h2 hk⟩

structure KeepsT (E : TypeId → Prop) (lo : Nat) (w w' : World) : Prop where
 size : w.heap.size ≤ w'.heap.size
 block : ∀ g cs e fr, lo ≤ g → E e → w.heap[g]? = some (.cells cs e fr) → w'.heap[g]? = w.heap[g]?
theorem KeepsT.of_below {E : TypeId → Prop} {lo : Nat} {w w' : World} (h : Below w.heap.size w w') : KeepsT E lo w w' :=
 ⟨h.size, fun g cs e fr _ _ hg => h.block g (Array.getElem?_eq_some_iff.1 hg).1⟩
structure GoodT {α : Type} (E : TypeId → Prop) (R : RowRel α) : Prop where
 stays : ∀ lo w w' cs x, KeepsT E lo w w' → R lo w cs x → R lo w' cs x
 low : ∀ lo lo' w cs x, lo' ≤ lo → R lo w cs x → R lo' w cs x
theorem TSl.stays {α : Type} {k : Nat} {E : TypeId → Prop} {R : RowRel α} (hR : GoodT E R) {e : TypeId} (he : E e) {lo : Nat} {w w' : World} {v : Value} {xs : List α} (h : TSl k R e lo w v xs) (hk : KeepsT E lo w w') : TSl k R e lo w' v xs :=
 h.kept (fun g cs fr _ hl hg => hk.block g cs e fr hl he hg) (fun cs x => hR.stays lo w w' cs x hk)
theorem TSl.below {α : Type} {k : Nat} {E : TypeId → Prop} {R : RowRel α} (hR : GoodT E R) {e : TypeId} {lo : Nat} {w w' : World} {v : Value} {xs : List α} (h : TSl k R e lo w v xs) (hb : Below w.heap.size w w') : TSl k R e lo w' v xs :=
 h.kept (fun g cs fr _ hl hg => hb.block g (Array.getElem?_eq_some_iff.1 hg).1) (fun cs x hx => hR.stays lo w w' cs x (KeepsT.of_below hb) hx)
theorem TSl.at_lo {α : Type} {k : Nat} {R : RowRel α} {e : TypeId} {lo : Nat} {w : World} {v : Value} {xs : List α} (h : TSl k R e lo w v xs) : ∀ g, v.ownBlock = some g → lo ≤ g := by
 obtain ⟨css, _, h2⟩ := h
 exact fun g hg => (h2.lt g hg).1
theorem TSl.low' {α : Type} {k : Nat} {E : TypeId → Prop} {R : RowRel α} (hR : GoodT E R) {e : TypeId} {lo lo' : Nat} {w : World} {v : Value} {xs : List α} (h : TSl k R e lo w v xs) (hl : lo' ≤ lo) : TSl k R e lo' w v xs := h.low hl fun cs x => hR.low lo lo' w cs x hl
theorem GoodT.mono {α : Type} {E E' : TypeId → Prop} {R : RowRel α} (h : GoodT E R) (hE : ∀ e, E e → E' e) : GoodT E' R := ⟨fun lo w w' cs x hk => h.stays lo w w' cs x ⟨hk.size, fun g cs e fr hl he => hk.block g cs e fr hl (hE e he)⟩, h.low⟩

theorem KeepsT.of_grown {E : TypeId → Prop} {lo base : Nat} {w w' : World} {e : TypeId} {k n : Nat} {v : Value} {xs : List Value} (hg : w.grownBy w' v.ownBlock) (hown : w.ownsRow base e k v n xs) (he : ¬ E e) : KeepsT E lo w w' := by
 refine ⟨hg.size, fun g cs e' fr _ hE hgc => hg.block g (Array.getElem?_eq_some_iff.1 hgc).1 fun h => ?_⟩
 obtain ⟨_, h2⟩ := hown
 rcases h2 with ⟨h3, _⟩ | ⟨g', cap, cur, h3, _, h5, _⟩
 ·rw [h3] at h; cases h
 ·rw [h3] at h
  cases h
  rw [hgc] at h5
  cases h5
  exact he hE

def NoT : TypeId → Prop := fun _ => False
theorem qak : GoodT NoT rStr := ⟨fun _ _ _ _ _ _ h => h, fun _ _ _ _ _ _ h => h⟩
theorem rStr_one : ∀ lo w cs x, rStr lo w cs x → ∀ u ∈ cs, u.oneCell' = true := by
 intro lo w cs x h u hu
 obtain ⟨rfl, _⟩ := h
 simp at hu
 subst hu; rfl

def Src (k : Nat) (w : World) (sv : Value) (css : List (List Value)) : Prop := (sv = .slice none 0 0 ∧ css = []) ∨ ∃ (ad : Addr) (c : Nat), sv = .slice (some ad) css.length c ∧ ∀ j u, css.flatten[j]? = some u → w.cell? (ad.add j) = some u
theorem Src.of_own {α : Type} {k : Nat} {R : RowRel α} {e : TypeId} {lo base : Nat} {w : World} {v : Value} {css : List (List Value)} {xs : List α} (hr : Rows k R lo w css xs) (h : w.ownsRow base e k v xs.length css.flatten) : Src k w v css := by
 obtain ⟨_, h2⟩ := id h
 rcases h2 with ⟨h3, h4⟩ | ⟨g, cap, cur, h3, h4⟩
 ·exact Or.inl ⟨h3, List.eq_nil_of_length_eq_zero (by rw [hr.len]; exact h4)⟩
 ·refine Or.inr ⟨⟨g, 0, none⟩, cap, by rw [h3, hr.len], fun j u hj => ?_⟩
  by_cases hn : 0 < xs.length
  ·obtain ⟨g', cap', e1, _, _, _, _, hc, _⟩ := own_cell h hn
   rw [h3] at e1
   cases e1
   have := hc j u hj
   rw [Addr.add_mid, Nat.zero_add]
   exact this
  ·have : css = [] := List.eq_nil_of_length_eq_zero (by rw [hr.len]; omega)
   subst this
   simp at hj
theorem Src.kept {k : Nat} {w w' : World} {sv : Value} {css : List (List Value)} (h : Src k w sv css) (hb : Below w.heap.size w w') : Src k w' sv css := by
 rcases h with h | ⟨ad, c, h1, h2⟩
 ·exact Or.inl h
 ·exact Or.inr ⟨ad, c, h1, fun j u hj => qad hb (h2 j u hj)⟩
theorem Src.one {k : Nat} {w : World} {b : Nat} {cs : List Value} (h : ∀ j u, cs[j]? = some u → w.cell? ⟨b, j, none⟩ = some u) : Src k w (.slice (some ⟨b, 0, none⟩) 1 1) [cs] :=
 Or.inr ⟨⟨b, 0, none⟩, 1, rfl, fun j u hj => by
  have := h j u (by simpa using hj)
  rw [Addr.add_mid, Nat.zero_add]
  exact this⟩

theorem wpList_append_T {ops : Array Oper} {rest : List Oper} {o : Oper} {a : Act} {Q : Exit → Act → World → Prop} {w : World} (hgd : o.guard = none) (s x : Operand) (t : TypeId)
  (ho : o.op = .call { callee := .builtin .append, args := #[s, x], argTypes := #[t, t] })
  (e : TypeId) (k bytes : Nat) (z : Value) (ht : Tryz.prog.underlying t = some (.slice e)) (hi : (Tryz.prog.info? e).map (fun i => (i.zero, i.size, i.bytes)) = some (some z, k, bytes)) (hzk : z.cells.size = k) (hk0 : 0 < k) (hby : bytes ≤ 1000)
  {α : Type} {R : RowRel α} {E : TypeId → Prop} (hR : GoodT E R) (he : ¬ E e) (h1 : ∀ lo w cs x, R lo w cs x → ∀ u ∈ cs, u.oneCell' = true)
  {base : Nat} {v sv : Value} {xs ys : List α} {css : List (List Value)} (hs : a.eval s = v) (hv : TSl k R e base w v xs) (hx : a.eval x = sv) (hsrc : Src k w sv css) (hrow : Rows k R base w css ys) (hl : xs.length + ys.length ≤ 4000000) (hbase : base ≤ w.heap.size)
  (h : ∀ v' w', TSl k R e base w' v' (xs ++ ys) → w.grownBy w' v.ownBlock → KeepsT E 0 w w' → wpList Tryz.prog ops Q rest (a.put o.dst v') w') : wpList Tryz.prog ops Q (o :: rest) a w := by
 cases hq : Tryz.prog.info? e with
 | none => rw [hq] at hi; cases hi
 | some i =>
   rw [hq] at hi
   simp only [Option.map_some, Option.some.injEq, Prod.mk.injEq] at hi
   obtain ⟨hz0, hz1, hz2⟩ := hi
   obtain ⟨cx, hrx, hown⟩ := hv
   rcases hsrc with ⟨rfl, rfl⟩ | ⟨ad, c, rfl, hcell⟩
   ·have hy : ys = [] := List.eq_nil_of_length_eq_zero (by rw [← hrow.len]; rfl)
    subst hy
    refine wpList_append_own_none hgd s x t ho base e i k ht hq v xs.length cx.flatten hs hown hx (h v w ?_ ⟨rfl, rfl, rfl, Nat.le_refl _, fun _ _ _ => rfl⟩ ⟨Nat.le_refl _, fun _ _ _ _ _ _ _ => rfl⟩)
    rw [List.append_nil]
    exact ⟨cx, hrx, hown⟩
   ·refine wpList_append_own w hgd s x t ho base e i z k bytes ht hq hz0 hz1 hz2 hzk hk0 v xs.length cx.flatten hs hown ad css.length c css.flatten hx (flat_len hrow.each) hcell ?_ ?_ ?_ hbase ?_
    ·intro u hu
     obtain ⟨cs, hcs, hu'⟩ := List.mem_flatten.1 hu
     obtain ⟨j, hj⟩ := List.mem_iff_getElem?.1 hcs
     obtain ⟨y, hy⟩ : ∃ y, ys[j]? = some y := ⟨_, List.getElem?_eq_getElem (by rw [← hrow.len]; exact (List.getElem?_eq_some_iff.1 hj).1)⟩
     exact h1 _ _ _ _ (hrow.row j y cs hy hj).2 u hu'
    ·rw [hrow.len]; unfold maxLen; omega
    ·rw [hrow.len]
     have : (xs.length + ys.length) * bytes ≤ 4000000 * 1000 := Nat.mul_le_mul hl hby
     omega
    ·intro v' w' hown' hg _
     have hk : ∀ lo, KeepsT E lo w w' := fun lo => KeepsT.of_grown hg hown he
     refine h v' w' ⟨cx ++ css, (hrx.mono fun cs x hR' => hR.stays _ _ _ _ _ (hk _) hR').append (hrow.mono fun cs x hR' => hR.stays _ _ _ _ _ (hk _) hR'), ?_⟩ hg (hk 0)
     rw [List.flatten_append, List.length_append, ← hrow.len]
     exact hown'

end Go.Proofs.YtfbonocadpknbaaGreatDoor
