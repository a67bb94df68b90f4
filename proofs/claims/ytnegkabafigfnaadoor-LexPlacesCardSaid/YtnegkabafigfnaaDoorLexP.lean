/- Plain: what lex takes from the head of a text. -/
import Derived.Lib.ParseIntB
import Derived.Lib.ItoaNum
import Derived.Lib.Strings
namespace Go.Proofs.YtnegkabafigfnaaDoor.Lex

def lettersL : List UInt8 := [65, 66, 67, 68, 69, 70, 71, 72, 73, 74, 75, 76, 77, 78, 79, 80, 81, 82, 83, 84, 85, 86, 87, 88, 89, 90, 97, 98, 99, 100, 101, 102, 103, 104, 105, 106, 107, 108, 109, 110, 111, 112, 113, 114, 115, 116, 117, 118, 119, 120, 121, 122]
def digitsL : List UInt8 := [48, 49, 50, 51, 52, 53, 54, 55, 56, 57]
def innerL : List UInt8 := [65, 66, 67, 68, 69, 70, 71, 72, 73, 74, 75, 76, 77, 78, 79, 80, 81, 82, 83, 84, 85, 86, 87, 88, 89, 90, 97, 98, 99, 100, 101, 102, 103, 104, 105, 106, 107, 108, 109, 110, 111, 112, 113, 114, 115, 116, 117, 118, 119, 120, 121, 122, 48, 49, 50, 51, 52, 53, 54, 55, 56, 57, 95, 45]
def spacesL : List UInt8 := [9, 10, 13, 32]
def behindL : List UInt8 := [9, 10, 13, 32, 59, 40, 41]

/-- What may stand behind a word or a number. -/
def endOK (r : List UInt8) : Bool := match r with | [] => true | c :: _ => behindL.contains c

/-- A number's text, as far as it goes. -/
def numText (l : List UInt8) : List UInt8 := l.take (l.length - (Lib.trimPrefix l [45]).length + ((Lib.trimPrefix l [45]).takeWhile (digitsL.contains ·)).length)

/-- It is a number's, in the one way. -/
def numOK (t : List UInt8) : Bool := match Lib.parseIntB 64 t with
  | .ok n => Lib.itoa n == t
  | _ => false

/-- The token that a text begins with: its kind, its text, and whether it is right. -/
def pieceP (l : List UInt8) : Int × List UInt8 × Bool :=
  match l with
  | [] => (0, [], false)
  | c :: _ =>
    if c = 40 then (1, [40], true)
    else if c = 41 then (2, [41], true)
    else if lettersL.contains c then (3, l.takeWhile (innerL.contains ·), endOK (l.drop (l.takeWhile (innerL.contains ·)).length))
    else if numOK (numText l) then (4, numText l, endOK (l.drop (numText l).length))
    else (0, [], false)
end Go.Proofs.YtnegkabafigfnaaDoor.Lex
