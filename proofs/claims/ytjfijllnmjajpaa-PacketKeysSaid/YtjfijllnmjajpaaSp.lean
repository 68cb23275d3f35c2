/- plain: what port.Parse and port.Put answer. -/
import Derived.Test.YtjfijllnmjajpaaS4
namespace Go.Proofs.Ytjfijllnmjajpaa

/-- Where what follows a head of tcp's begins. -/
def offT (s : ByteArray) : Nat := byteN s 12 / 16 * 4
def tcpE (s : ByteArray) : Int := if s.size < 20 then 2 else if (decide (offT s < 20) || decide (s.size < offT s)) = true then 8 else 0
def udpE (s : ByteArray) : Int := if s.size < 8 then 2 else if (decide (getV s 4 2 < 8) || decide ((s.size : Int) < getV s 4 2)) = true then 4 else 0
def tcpF (s : ByteArray) : Int := if tcpE s = 0 then (byteN s 13 : Int) else 0
def ppE (k : Int) (s : ByteArray) : Int := if k = 6 then tcpE s else if k = 17 then udpE s else 7
def ppA (k : Int) (s : ByteArray) : Int := if ppE k s = 0 then getV s 0 2 else 0
def ppB (k : Int) (s : ByteArray) : Int := if ppE k s = 0 then getV s 2 2 else 0
def ppF (k : Int) (s : ByteArray) : Int := if k = 6 then tcpF s else 0

/-- Is a number from 0 to another one? -/
def inB (n m : Int) : Bool := decide (0 ≤ n) && decide (n ≤ m)
/-- Both ports, as bytes. -/
def abS (a b : Int) : ByteArray := putS a 2 ++ putS b 2
/-- The bytes behind the ports. -/
def fS (k f : Int) : ByteArray := if k = 6 then (⟨#[0, 0, 0, 0, 0, 0, 0, 0]⟩ : ByteArray) ++ ⟨#[80]⟩ ++ putS f 1 ++ ⟨#[0, 0, 0, 0, 0, 0]⟩ else ⟨#[0, 8, 0, 0]⟩
/-- What may be said of the flags. -/
def fB (k f : Int) : Bool := if k = 6 then inB f 255 else decide (f = 0)
def puE (k a b f : Int) : Int := if k = 6 ∨ k = 17 then (if (inB a 65535 && inB b 65535 && fB k f) = true then 0 else 1) else 7
def puS (k a b f : Int) : ByteArray := if puE k a b f = 0 then abS a b ++ fS k f else ⟨#[]⟩
end Go.Proofs.Ytjfijllnmjajpaa
