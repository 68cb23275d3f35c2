/- plain: what ip6.Put and gangplankref05.Put answer. -/
import Derived.Test.YtjfijllnmjajpaaS6
namespace Go.Proofs.Ytjfijllnmjajpaa

def put6 (a b : ByteArray) (p : Int) (r : ByteArray) : List UInt8 :=
  [96, 0, 0, 0] ++ (putS r.size 2).data.toList ++ (putS p 1).data.toList ++ [64] ++ a.data.toList ++ b.data.toList ++ r.data.toList
def u6Bad (a b : ByteArray) (p : Int) : Bool := a.size != 16 || b.size != 16 || decide (p < 0) || decide (255 < p)
def u6E (a b : ByteArray) (p : Int) (r : ByteArray) : Int := if u6Bad a b p then 1 else if 65535 < r.size then 4 else 0
def u6S (a b : ByteArray) (p : Int) (r : ByteArray) : ByteArray := if u6E a b p r = 0 then ⟨(put6 a b p r).toArray⟩ else ⟨#[]⟩
end Go.Proofs.Ytjfijllnmjajpaa
