/- The plain law of the sums of words: what chapter 2 computes, over bit vectors, with no program in sight. No condition. -/
import Derived.Below
namespace Go.Proofs.Ytoodkfjldflbeaa.Crc

def half (s : BitVec 32) : BitVec 32 := s >>> 1

/-- One turn of the register. -/
def bit (s : BitVec 32) : BitVec 32 := half s ^^^ (3988292384#32 &&& -(s &&& 1#32))

def bitN : Nat → BitVec 32 → BitVec 32
  | 0, s => s
  | n + 1, s => bit (bitN n s)

/-- The low byte of a word, and what is left of it. -/
def low (x : BitVec 64) : BitVec 32 := (x &&& 255#64).setWidth 32
def rest (x : BitVec 64) : BitVec 64 := x >>> 8

/-- The state behind k bytes of a word: the register and what is left of the word. -/
def byteN : Nat → BitVec 32 → BitVec 64 → BitVec 32 × BitVec 64
  | 0, s, x => (s, x)
  | n + 1, s, x => (bitN 8 ((byteN n s x).1 ^^^ low (byteN n s x).2), rest (byteN n s x).2)

def next (sum : BitVec 32) (x : BitVec 64) : BitVec 32 := ~~~ (byteN 8 (~~~ sum) x).1

def sum (l : List (BitVec 64)) : BitVec 32 := l.foldl next 0#32

end Go.Proofs.Ytoodkfjldflbeaa.Crc
