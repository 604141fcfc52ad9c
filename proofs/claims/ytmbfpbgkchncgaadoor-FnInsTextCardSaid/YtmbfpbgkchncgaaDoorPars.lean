

/-
  Plain words on texts: words of a line, numbers, instructions as they are written and read, keepers as they are read line by line. No program in sight. No condition.
-/
import Derived.Test.YtmbfpbgkchncgaaDoorLodP
import Derived.Test.YtmbfpbgkchncgaaDoorNumS
namespace Go.Proofs.YtmbfpbgkchncgaaDoor
set_option linter.unusedSimpArgs false
set_option linter.unusedVariables false
open Go.RowKit

def by' (s : ByteArray) : List UInt8 := s.data.toList
def isW (s : ByteArray) (l : List UInt8) : Bool := by' s == l

/-- the words of a text: cur is the word under way -/
def wordsGo : List UInt8 → List UInt8 → List (List UInt8)
  | cur, [] => [cur]
  | cur, c :: r => if c = 32 then cur :: wordsGo [] r else wordsGo (cur ++ [c]) r
def words (s : ByteArray) : List ByteArray := (wordsGo [] (by' s)).map tx

def isDig (c : UInt8) : Bool := decide (48 ≤ c.toNat) && decide (c.toNat ≤ 57)
def digVal (c : UInt8) : Int := (c.toNat : Int) - 48
def numGo : Int → List UInt8 → Option Int
  | n, [] => some n
  | n, c :: r => if isDig c then numGo (n * 10 + digVal c) r else none
def plainGo : Nat → Nat → List UInt8 → List UInt8
  | 0, _, out => out
  | f + 1, n, out => if n ≤ 9 then UInt8.ofNat (48 + n) :: out else plainGo f (n / 10) (UInt8.ofNat (48 + n % 10) :: out)
/-- a number that is not below 0, of at most four digits, as it is written -/
def plainText (n : Nat) : List UInt8 := plainGo 4 n []
def numText (n : Int) : List UInt8 := if n < 0 then 45 :: plainText (-n).toNat else plainText n.toNat
def isNeg (l : List UInt8) : Bool := match l with | c :: _ => c == 45 | [] => false
def numBody (l : List UInt8) : List UInt8 := if isNeg l then l.tail else l
/-- a number as it is read, and whether it is one -/
def readNum (s : ByteArray) : Int × Bool :=
  if (numBody (by' s)).length = 0 ∨ 4 < (numBody (by' s)).length then (0, false)
  else match numGo 0 (numBody (by' s)) with
    | none => (0, false)
    | some n => (if isNeg (by' s) then -n else n, numText (if isNeg (by' s) then -n else n) == by' s)

/-- an instruction, as it is written -/
def insText (i : DClsIns) : List UInt8 :=
  if insOkD i then
    (if isNumOp i.fOp then opText i.fOp ++ ([32] ++ numText i.fA)
    else if isClsOp i.fOp then opText i.fOp ++ ([32] ++ by' i.fName)
    else if isMemOp i.fOp then opText i.fOp ++ ([32] ++ by' i.fName ++ [32] ++ by' i.fMember)
    else opText i.fOp)
  else []
def nilIns : DClsIns := ⟨0, 0, ⟨#[]⟩, ⟨#[]⟩⟩
/-- the instruction that words might be -/
def insOf (op : Int) (ws : List ByteArray) : DClsIns :=
  let n := readNum (ws.getD 1 ⟨#[]⟩)
  ⟨op, if 1 < ws.length then (if n.2 then n.1 else 0) else 0, if 1 < ws.length then (if n.2 then ⟨#[]⟩ else ws.getD 1 ⟨#[]⟩) else ⟨#[]⟩, ws.getD 2 ⟨#[]⟩⟩
def insTry (op : Int) (s : ByteArray) : DClsIns × Bool :=
  if 30 < s.size ∨ insText (insOf op (words s)) ≠ by' s then (nilIns, false) else (insOf op (words s), true)
def insGo (s : ByteArray) : Nat → Nat → DClsIns × Bool
  | 0, _ => (nilIns, false)
  | f + 1, op => if isW ((words s).getD 0 ⟨#[]⟩) (opText op) then insTry op s else insGo s f (op + 1)
/-- an instruction, as it is read -/
def insRead (s : ByteArray) : DClsIns × Bool := insGo s 15 1

def nilKnd : DKndKind := ⟨0, ⟨#[]⟩⟩
def kndRead (s : ByteArray) : DKndKind × Bool := if isW s [35] then (⟨1, ⟨#[]⟩⟩, true) else if namOk s then (⟨2, s⟩, true) else (nilKnd, false)
def tagRead (s : ByteArray) : DTagTag × Bool := if isW s [63] then (⟨0, ⟨#[]⟩⟩, true) else if isW s [35] then (⟨1, ⟨#[]⟩⟩, true) else if isW s [33] then (⟨3, ⟨#[]⟩⟩, true) else (⟨2, s⟩, namOk s)

def nilAsk : DLodAsk := ⟨⟨#[]⟩, 0⟩
def askRead (ws : List ByteArray) : DLodAsk × Bool :=
  match ws with
  | [_, a, b] => (⟨a, (readNum b).1⟩, (readNum b).2 && decide (0 ≤ (readNum b).1) && namOk a)
  | _ => (nilAsk, false)
def nilCls : DClsClass := ⟨⟨#[]⟩, ⟨#[]⟩, [], []⟩
def clsRead (ws : List ByteArray) : DClsClass × Bool :=
  match ws with
  | [_, a, b] => if namOk a && (isW b [45] || namOk b) then (⟨a, if isW b [45] then ⟨#[]⟩ else b, [], []⟩, true) else (nilCls, false)
  | _ => (nilCls, false)
def nilFld : DClsField := ⟨⟨#[]⟩, nilKnd⟩
def fldRead (ws : List ByteArray) : DClsField × Bool :=
  match ws with
  | [_, a, b] => if namOk a then (⟨a, (kndRead b).1⟩, (kndRead b).2) else (nilFld, false)
  | _ => (nilFld, false)
def nilMth : DClsMethod := ⟨⟨#[]⟩, [], nilKnd, 0, 0, [], []⟩
def kndsRead : List ByteArray → Option (List DKndKind)
  | [] => some []
  | s :: r => if (kndRead s).2 then (kndsRead r).map ((kndRead s).1 :: ·) else none
def mthRead (ws : List ByteArray) : DClsMethod × Bool :=
  match ws with
  | _ :: nm :: lo :: st :: rt :: ag =>
    if decide (ag.length ≤ 3) && namOk nm then
      match kndsRead ag with
      | none => (nilMth, false)
      | some ks => (⟨nm, ks, (kndRead rt).1, (readNum lo).1, (readNum st).1, [], []⟩, (readNum lo).2 && (readNum st).2 && (kndRead rt).2 && decide (0 ≤ (readNum lo).1) && decide (0 ≤ (readNum st).1))
    else (nilMth, false)
  | _ => (nilMth, false)
def nilMap : DClsMap := ⟨0, [], []⟩
/-- what is known, read: behind says whether the line between stands behind us -/
def mapGo : Bool → List DTagTag → List DTagTag → List ByteArray → Option (Bool × List DTagTag × List DTagTag)
  | bh, lo, st, [] => some (bh, lo, st)
  | bh, lo, st, s :: r =>
    if isW s [47] && !bh then mapGo true lo st r
    else if (tagRead s).2 then (if bh then mapGo bh lo (st ++ [(tagRead s).1]) r else mapGo bh (lo ++ [(tagRead s).1]) st r)
    else none
def mapRead (ws : List ByteArray) : DClsMap × Bool :=
  match ws with
  | _ :: a :: r =>
    if decide (1 ≤ r.length) && decide (r.length ≤ 13) then
      match mapGo false [] [] r with
      | none => (nilMap, false)
      | some (bh, lo, st) => (⟨(readNum a).1, lo, st⟩, (readNum a).2 && bh && decide (0 ≤ (readNum a).1))
    else (nilMap, false)
  | _ => (nilMap, false)

def tField : List UInt8 := [102, 105, 101, 108, 100]
def tMethod : List UInt8 := [109, 101, 116, 104, 111, 100]
def tFrame : List UInt8 := [102, 114, 97, 109, 101]
def tKeeper : List UInt8 := [107, 101, 101, 112, 101, 114]
def tAsks : List UInt8 := [97, 115, 107, 115]
def tClass : List UInt8 := [99, 108, 97, 115, 115]
/-- a line that belongs to a class -/
def inner (c : DClsClass) (line : ByteArray) : DClsClass × Bool :=
  let w0 := (words line).getD 0 ⟨#[]⟩
  if isW w0 tField then ({ c with fFields := c.fFields ++ [(fldRead (words line)).1] }, (fldRead (words line)).2 && decide (c.fMethods.length = 0))
  else if isW w0 tMethod then ({ c with fMethods := c.fMethods ++ [(mthRead (words line)).1] }, (mthRead (words line)).2)
  else match c.fMethods.getLast? with
    | none => (c, false)
    | some m =>
      if isW w0 tFrame then ({ c with fMethods := c.fMethods.dropLast ++ [{ m with fMaps := m.fMaps ++ [(mapRead (words line)).1] }] }, (mapRead (words line)).2 && decide (m.fCode.length = 0))
      else ({ c with fMethods := c.fMethods.dropLast ++ [{ m with fCode := m.fCode ++ [(insRead line).1] }] }, (insRead line).2)
/-- the last keeper behind a line -/
def lastLine (k : DLodKeeper) (line : ByteArray) : Option (DLodKeeper × Bool) :=
  let w0 := (words line).getD 0 ⟨#[]⟩
  if isW w0 tAsks then some ({ k with fAsks := k.fAsks ++ [(askRead (words line)).1] }, (askRead (words line)).2 && decide (k.fOwns.length = 0))
  else if isW w0 tClass then some ({ k with fOwns := k.fOwns ++ [(clsRead (words line)).1] }, (clsRead (words line)).2)
  else match k.fOwns.getLast? with
    | none => none
    | some c => some ({ k with fOwns := k.fOwns.dropLast ++ [(inner c line).1] }, (inner c line).2)
def lineR (p : DLodPlan) (line : ByteArray) : DLodPlan × Bool :=
  if isW line tKeeper then (⟨p.fKeepers ++ [⟨[], []⟩]⟩, decide (p.fKeepers.length < 3))
  else match p.fKeepers.getLast? with
    | none => (p, false)
    | some k => match lastLine k line with
      | none => (p, false)
      | some (k', ok) => (⟨p.fKeepers.dropLast ++ [k']⟩, ok)

def parseGo : Nat → DLodPlan → List ByteArray → DLodPlan × Int
  | k, p, [] => if lodOk p then (p, 0) else (⟨[]⟩, (k : Int) + 1)
  | k, p, l :: r => if (lineR p l).2 then parseGo (k + 1) (lineR p l).1 r else (⟨[]⟩, (k : Int) + 1)
/-- keepers, as they are read -/
def lodParse (ls : List ByteArray) : DLodPlan × Int := if 400 < ls.length then (⟨[]⟩, 401) else parseGo 0 ⟨[]⟩ ls

/-- a number as it is written here is as the library writes it -/
theorem plainText_dec {n : Nat} (h : n ≤ 9999) : plainText n = Lib.decDigits n := by
  have small : ∀ m : Nat, m ≤ 9 → Lib.decDigits m = [UInt8.ofNat (48 + m)] := fun m hm => by rw [Lib.decDigits, dif_pos (by omega)]
  have big : ∀ m : Nat, ¬ m ≤ 9 → Lib.decDigits m = Lib.decDigits (m / 10) ++ [UInt8.ofNat (48 + m % 10)] := fun m hm => by
    rw [Lib.decDigits, dif_neg (by omega)]
  unfold plainText
  by_cases h1 : n ≤ 9
  · rw [plainGo, if_pos h1, small n h1]
  rw [plainGo, if_neg h1, big n h1]
  by_cases h2 : n / 10 ≤ 9
  · rw [plainGo, if_pos h2, small _ h2]; rfl
  rw [plainGo, if_neg h2, big _ h2]
  by_cases h3 : n / 10 / 10 ≤ 9
  · rw [plainGo, if_pos h3, small _ h3]; rfl
  rw [plainGo, if_neg h3, big _ h3]
  have h4 : n / 10 / 10 / 10 ≤ 9 := by omega
  rw [plainGo, if_pos h4, small _ h4]; rfl
theorem numText_itoa {n : Int} (h : -9999 ≤ n ∧ n ≤ 9999) : numText n = Lib.itoa n := by
  unfold numText Lib.itoa
  by_cases h0 : n < 0
  · rw [if_pos h0, if_pos h0, plainText_dec (by omega)]
    congr 1
    rw [show (-n).toNat = n.natAbs by omega]
  · rw [if_neg h0, if_neg h0, plainText_dec (by omega)]
theorem insText_txt (i : DClsIns) : insText i = insTxt i.fOp i.fA i.fName i.fMember := by
  unfold insText insTxt
  show (if insOkD i then _ else _) = _
  unfold insOkD
  by_cases hok : insOk i.fOp i.fA i.fName i.fMember = true
  · rw [if_pos hok, if_pos hok]
    by_cases h1 : isNumOp i.fOp = true
    · rw [if_pos h1, if_pos h1, numText_itoa ((insOk_parts hok).2.2.2 h1)]
    · rw [if_neg h1, if_neg h1]; rfl
  · rw [if_neg hok, if_neg hok]

end Go.Proofs.YtmbfpbgkchncgaaDoor
