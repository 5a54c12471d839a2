import Derived.Laws.Entries
/-! The words of SHA-256 as the program's text reckons them (numbers from 0 to 2^32 - 1). -/
namespace Go.Proofs.Ytnddocchfkhlbaa
open Go

def kL : List Nat := [1116352408, 1899447441, 3049323471, 3921009573, 961987163, 1508970993, 2453635748, 2870763221, 3624381080, 310598401, 607225278, 1426881987, 1925078388, 2162078206, 2614888103, 3248222580, 3835390401, 4022224774, 264347078, 604807628, 770255983, 1249150122, 1555081692, 1996064986, 2554220882, 2821834349, 2952996808, 3210313671, 3336571891, 3584528711, 113926993, 338241895, 666307205, 773529912, 1294757372, 1396182291, 1695183700, 1986661051, 2177026350, 2456956037, 2730485921, 2820302411, 3259730800, 3345764771, 3516065817, 3600352804, 4094571909, 275423344, 430227734, 506948616, 659060556, 883997877, 958139571, 1322822218, 1537002063, 1747873779, 1955562222, 2024104815, 2227730452, 2361852424, 2428436474, 2756734187, 3204031479, 3329325298]
def firstL : List Nat := [1779033703, 3144134277, 1013904242, 2773480762, 1359893119, 2600822924, 528734635, 1541459225]
def KV (i : Nat) : Int := (kL.getD i 0 : Nat)
def FV (i : Nat) : Int := (firstL.getD i 0 : Nat)

/-- Turned to the left. -/
def rl (s : Int) (x : Int) : Int := bits BinOp.or IntKind.u32 (x * 2 ^ s.toNat % 4294967296) (x / 2 ^ (32 - s).toNat)
def amt (k : Int) : Int := bits BinOp.and IntKind.u64 (IntKind.u64.wrap k) 31

def w0 (m : Nat → Int) (k : Nat) : Int :=
  bits .or .u32 (bits .or .u32 (bits .or .u32 (m (4 * k) * 16777216) (m (4 * k + 1) * 65536)) (m (4 * k + 2) * 256)) (m (4 * k + 3))
def sg0 (x : Int) : Int := bits .xor .u32 (bits .xor .u32 (rl (amt (-7)) x) (rl (amt (-18)) x)) (x / 8)
def sg1 (x : Int) : Int := bits .xor .u32 (bits .xor .u32 (rl (amt (-17)) x) (rl (amt (-19)) x)) (x / 1024)
def wN (a b x y : Int) : Int := (a + b + sg0 x + sg1 y) % 4294967296
def W (m : Nat → Int) (t : Nat) : Int :=
  if t < 16 then w0 m t else wN (W m (t - 16)) (W m (t - 7)) (W m (t - 15)) (W m (t - 2))
termination_by t

def Sg1 (e : Int) : Int := bits .xor .u32 (bits .xor .u32 (rl (amt (-6)) e) (rl (amt (-11)) e)) (rl (amt (-25)) e)
def Sg0 (a : Int) : Int := bits .xor .u32 (bits .xor .u32 (rl (amt (-2)) a) (rl (amt (-13)) a)) (rl (amt (-22)) a)
def ch (e f g : Int) : Int := bits .xor .u32 (bits .and .u32 e f) (bits .and .u32 (bits .xor .u32 IntKind.u32.max e) g)
def maj (a b c : Int) : Int := bits .xor .u32 (bits .xor .u32 (bits .and .u32 a b) (bits .and .u32 a c)) (bits .and .u32 b c)
/-- One round, over the eight words. -/
def tt (K w : Int) (v : Nat → Int) : Int := v 7 + Sg1 (v 4) + ch (v 4) (v 5) (v 6) + K + w
def uu (v : Nat → Int) : Int := Sg0 (v 0) + maj (v 0) (v 1) (v 2)
def rnd (K w : Int) (v : Nat → Int) : Nat → Int
  | 0 => (tt K w v + uu v) % 4294967296
  | 4 => (v 3 + tt K w v) % 4294967296
  | j + 1 => v j
def stp (m : Nat → Int) (S : Nat → Int) : Nat → Nat → Int
  | 0 => S
  | k + 1 => rnd (KV k) (W m k) (stp m S k)
/-- What a block makes of the state. -/
def blk (m : Nat → Int) (S : Nat → Int) (j : Nat) : Int := (S j + stp m S 64 j) % 4294967296
end Go.Proofs.Ytnddocchfkhlbaa
