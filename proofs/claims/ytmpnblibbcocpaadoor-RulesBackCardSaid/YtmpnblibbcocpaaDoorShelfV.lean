/- Nothing: a stand-in for texts that this seat does not use. -/
import Derived.Test.YtmpnblibbcocpaaDoorProg
