/- plain: what packet.Parse, Put, Bytes, Of, Closing answer. -/
import Derived.Test.YtjfijllnmjajpaaBp
import Derived.Test.YtjfijllnmjajpaaB4
namespace Go.Proofs.Ytjfijllnmjajpaa

/-- What stands before the ports. -/
def verN (s : ByteArray) : Nat := byteN s 0 / 16
def hE (s : ByteArray) : Int := if s.size = 0 then 2 else if verN s = 4 then p4E s else if verN s = 6 then p6E s else 3
def hV (s : ByteArray) : Int := if verN s = 4 then 4 else if verN s = 6 then 6 else 0
def hA (s : ByteArray) : ByteArray := if verN s = 4 then p4S s else if verN s = 6 then p6S s else ⟨#[]⟩
def hB (s : ByteArray) : ByteArray := if verN s = 4 then p4D s else if verN s = 6 then p6D s else ⟨#[]⟩
def hP (s : ByteArray) : Int := if verN s = 4 then p4P s else if verN s = 6 then p6P s else 0
def hR (s : ByteArray) : ByteArray := if verN s = 4 then p4R s else if verN s = 6 then p6R s else ⟨#[]⟩
/-- A packet's error, and its parts. -/
def kE (s : ByteArray) : Int := if hE s = 0 then ppE (hP s) (hR s) else hE s
def kV (s : ByteArray) : Int := if kE s = 0 then hV s else 0
def kA (s : ByteArray) : ByteArray := if kE s = 0 then hA s else ⟨#[]⟩
def kB (s : ByteArray) : ByteArray := if kE s = 0 then hB s else ⟨#[]⟩
def kF (s : ByteArray) : Int := if kE s = 0 then ppA (hP s) (hR s) else 0
def kT (s : ByteArray) : Int := if kE s = 0 then ppB (hP s) (hR s) else 0
def kP (s : ByteArray) : Int := if kE s = 0 then hP s else 0
def kG (s : ByteArray) : Int := if kE s = 0 then ppF (hP s) (hR s) else 0
/-- A packet that is put. -/
def jE (v : Int) (a b : ByteArray) (f t p g : Int) : Int :=
  if v = 4 ∨ v = 6 then (if puE p f t g = 0 then (if v = 4 then u4E a b p (puS p f t g) else u6E a b p (puS p f t g)) else puE p f t g) else 3
def jS (v : Int) (a b : ByteArray) (f t p g : Int) : ByteArray :=
  if v = 4 ∨ v = 6 then (if puE p f t g = 0 then (if v = 4 then u4S a b p (puS p f t g) else u6S a b p (puS p f t g)) else ⟨#[]⟩) else ⟨#[]⟩
/-- A key that is right, and its bytes. -/
def bR (v : Int) (a b : ByteArray) (f t p : Int) : Bool :=
  ((decide (v = 4) && (a.size == 4) && (b.size == 4)) || (decide (v = 6) && (a.size == 16) && (b.size == 16))) && (inB f 65535 && inB t 65535) && (decide (p = 6) || decide (p = 17))
def wide (s : ByteArray) : ByteArray := s ++ ⟨(List.replicate (16 - s.size) 0).toArray⟩
def bX (v : Int) (a b : ByteArray) (f t p : Int) : ByteArray := (putS v 1 ++ putS p 1) ++ (putS f 2 ++ putS t 2) ++ wide a ++ wide b
def bS (v : Int) (a b : ByteArray) (f t p : Int) : ByteArray := if bR v a b f t p = true then bX v a b f t p else ⟨#[]⟩
/-- The key of bytes. -/
def wN (b : ByteArray) : Nat := if byteN b 0 = 4 then 4 else 16
def oS (b : ByteArray) : ByteArray := b.extract 6 (6 + wN b)
def oD (b : ByteArray) : ByteArray := b.extract 22 (22 + wN b)
def oB (b : ByteArray) : Bool := decide (b.size = 38) && bR (byteN b 0) (oS b) (oD b) (getV b 2 2) (getV b 4 2) (byteN b 1) && decide (bX (byteN b 0) (oS b) (oD b) (getV b 2 2) (getV b 4 2) (byteN b 1) = b)
def oV (b : ByteArray) : Int := if oB b = true then (byteN b 0 : Int) else 0
def oA (b : ByteArray) : ByteArray := if oB b = true then oS b else ⟨#[]⟩
def oC (b : ByteArray) : ByteArray := if oB b = true then oD b else ⟨#[]⟩
def oF (b : ByteArray) : Int := if oB b = true then getV b 2 2 else 0
def oT (b : ByteArray) : Int := if oB b = true then getV b 4 2 else 0
def oP (b : ByteArray) : Int := if oB b = true then (byteN b 1 : Int) else 0
end Go.Proofs.Ytjfijllnmjajpaa
